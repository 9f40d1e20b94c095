/- tensor: Mul: a matrix times a vector. -/
import Derived.Test.YtfameghednapkaaDoorTenMulB
namespace Go.Proofs.YtfameghednapkaaDoor.Ten
open Go.RowKit Go.Proofs.YtfameghednapkaaDoorW.PrintWords Go.Proofs.YtfameghednapkaaDoorW.PrintLast Go.Proofs.YtfameghednapkaaDoorW.PrintMore Go.Proofs.YtfameghednapkaaDoor.K Go.Proofs.YtfameghednapkaaDoor.RI Go.Proofs.YtfameghednapkaaDoor.Fixed
set_option linter.unusedVariables false
set_option linter.unusedSimpArgs false
set_option maxHeartbeats 4000000 in
set_option maxRecDepth 100000 in
theorem mul_bad_calls (rows cols : Int) (A : Option Addr) (c : Nat) (l : List Int) (Av : Option Addr) (cv : Nat) (vv : List Int) (w : World) (hC : Kd.C (Kd.int .i64) w A l.length l) (hm : mV rows cols l ≠ 0) :
    Calls Tryd.prog 25 #[.agg #[.int .i64 rows, .int .i64 cols, .slice A l.length c], .slice Av vv.length cv] w fun e w' => e = .returned (.tuple #[.slice none 0 0, .int .i64 (mV rows cols l)]) ∧ Below w.heap.size w w' := by
  have HB0 : Aside0 (Below w.heap.size w ((w.alloc (.cells #[.int .i64 rows, .int .i64 cols, .slice A l.length c] 36)).alloc (.cells #[.slice Av vv.length cv] 22))) := ⟨bel_alloc (bel_alloc (Below.refl _ _) _) _⟩
  have HM0 : Aside0 (((w.alloc (.cells #[.int .i64 rows, .int .i64 cols, .slice A l.length c] 36)).alloc (.cells #[.slice Av vv.length cv] 22)).heap[w.heap.size]? = some (.cells #[.int .i64 rows, .int .i64 cols, .slice A l.length c] 36 (0, 0))) := ⟨blk_alloc (heap_alloc_new _ _) _⟩
  have HV0 : Aside0 (((w.alloc (.cells #[.int .i64 rows, .int .i64 cols, .slice A l.length c] 36)).alloc (.cells #[.slice Av vv.length cv] 22)).heap[w.heap.size + 1]? = some (.cells #[.slice Av vv.length cv] 22 (0, 0))) := ⟨by
    have h := heap_alloc_new (w.alloc (.cells #[.int .i64 rows, .int .i64 cols, .slice A l.length c] 36)) (.cells #[.slice Av vv.length cv] 22)
    rwa [World.size_alloc] at h⟩
  have HK := Aside0.mk (mcheck_calls rows cols A c l ((w.alloc (.cells #[.int .i64 rows, .int .i64 cols, .slice A l.length c] 36)).alloc (.cells #[.slice Av vv.length cv] 22)) (Kd.C_below hC HB0.out))
  have hd : (mV rows cols l != 0) = true := by simpa using hm
  clear hm hC
  generalize mV rows cols l = z at *
  go_enter Tryd.func25, Tryd.ntmps25
  go_wp2_with (fail)
  generalize ((w.alloc (.cells #[.int .i64 rows, .int .i64 cols, .slice A l.length c] 36)).alloc (.cells #[.slice Av vv.length cv] 22)) = w0 at *
  refine HK.out.mono ?_
  rintro e w1 ⟨rfl, hb⟩
  have HB1 := Aside0.mk (below_step HB0.out hb)
  have HM1 : Aside0 (w1.heap[w.heap.size]? = some (.cells #[.int .i64 rows, .int .i64 cols, .slice A l.length c] 36 (0, 0))) := ⟨(hb.block _ (blk_lt HM0.out)).trans HM0.out⟩
  have HV1 : Aside0 (w1.heap[w.heap.size + 1]? = some (.cells #[.slice Av vv.length cv] 22 (0, 0))) := ⟨(hb.block _ (blk_lt HV0.out)).trans HV0.out⟩
  obtain ⟨hc0, hc1, hc2⟩ := mat_cells HM1.out
  have hcv := blk_cell HV1.out 0
  simp only [List.getElem?_toArray, List.getElem?_cons_zero] at hcv
  clear hb
  go_wp2_with (fail)
  go_ret2
  exact ⟨rfl, HB1.out⟩
set_option maxHeartbeats 4000000 in
set_option maxRecDepth 100000 in
theorem mul_size_calls (rows cols : Int) (A : Option Addr) (c : Nat) (l : List Int) (Av : Option Addr) (cv : Nat) (vv : List Int) (w : World) (hC : Kd.C (Kd.int .i64) w A l.length l) (hm : mV rows cols l = 0) (hv : (vv.length : Int) ≠ cols) :
    Calls Tryd.prog 25 #[.agg #[.int .i64 rows, .int .i64 cols, .slice A l.length c], .slice Av vv.length cv] w fun e w' => e = .returned (.tuple #[.slice none 0 0, .int .i64 13]) ∧ Below w.heap.size w w' := by
  have HB0 : Aside0 (Below w.heap.size w ((w.alloc (.cells #[.int .i64 rows, .int .i64 cols, .slice A l.length c] 36)).alloc (.cells #[.slice Av vv.length cv] 22))) := ⟨bel_alloc (bel_alloc (Below.refl _ _) _) _⟩
  have HM0 : Aside0 (((w.alloc (.cells #[.int .i64 rows, .int .i64 cols, .slice A l.length c] 36)).alloc (.cells #[.slice Av vv.length cv] 22)).heap[w.heap.size]? = some (.cells #[.int .i64 rows, .int .i64 cols, .slice A l.length c] 36 (0, 0))) := ⟨blk_alloc (heap_alloc_new _ _) _⟩
  have HV0 : Aside0 (((w.alloc (.cells #[.int .i64 rows, .int .i64 cols, .slice A l.length c] 36)).alloc (.cells #[.slice Av vv.length cv] 22)).heap[w.heap.size + 1]? = some (.cells #[.slice Av vv.length cv] 22 (0, 0))) := ⟨by
    have h := heap_alloc_new (w.alloc (.cells #[.int .i64 rows, .int .i64 cols, .slice A l.length c] 36)) (.cells #[.slice Av vv.length cv] 22)
    rwa [World.size_alloc] at h⟩
  have HK := Aside0.mk (mcheck_calls rows cols A c l ((w.alloc (.cells #[.int .i64 rows, .int .i64 cols, .slice A l.length c] 36)).alloc (.cells #[.slice Av vv.length cv] 22)) (Kd.C_below hC HB0.out))
  rw [hm] at HK
  have hd : ((vv.length : Int) != cols) = true := by simpa using hv
  clear hm hC hv
  go_enter Tryd.func25, Tryd.ntmps25
  go_wp2_with (fail)
  generalize ((w.alloc (.cells #[.int .i64 rows, .int .i64 cols, .slice A l.length c] 36)).alloc (.cells #[.slice Av vv.length cv] 22)) = w0 at *
  refine HK.out.mono ?_
  rintro e w1 ⟨rfl, hb⟩
  have HB1 := Aside0.mk (below_step HB0.out hb)
  have HM1 : Aside0 (w1.heap[w.heap.size]? = some (.cells #[.int .i64 rows, .int .i64 cols, .slice A l.length c] 36 (0, 0))) := ⟨(hb.block _ (blk_lt HM0.out)).trans HM0.out⟩
  have HV1 : Aside0 (w1.heap[w.heap.size + 1]? = some (.cells #[.slice Av vv.length cv] 22 (0, 0))) := ⟨(hb.block _ (blk_lt HV0.out)).trans HV0.out⟩
  obtain ⟨hc0, hc1, hc2⟩ := mat_cells HM1.out
  have hcv := blk_cell HV1.out 0
  simp only [List.getElem?_toArray, List.getElem?_cons_zero] at hcv
  clear hb
  go_wp2_with (fail)
  go_ret2
  exact ⟨rfl, HB1.out⟩
set_option maxHeartbeats 4000000 in
set_option maxRecDepth 100000 in
theorem mul_ok_calls (rows cols : Int) (A : Option Addr) (c : Nat) (l : List Int) (Av : Option Addr) (cv : Nat) (vv : List Int) (w : World) (hC : Kd.C (Kd.int .i64) w A l.length l) (hc : l.length ≤ c) (hV : Kd.C (Kd.int .i64) w Av vv.length vv) (hm : mV rows cols l = 0) (hv : (vv.length : Int) = cols) :
    Calls Tryd.prog 25 #[.agg #[.int .i64 rows, .int .i64 cols, .slice A l.length c], .slice Av vv.length cv] w (EachEnd (fun k => dotV (rowL cols l (k : Int)) vv) rows.toNat w) := by
  have HB0 : Aside0 (Below w.heap.size w ((w.alloc (.cells #[.int .i64 rows, .int .i64 cols, .slice A l.length c] 36)).alloc (.cells #[.slice Av vv.length cv] 22))) := ⟨bel_alloc (bel_alloc (Below.refl _ _) _) _⟩
  have HM0 : Aside0 (((w.alloc (.cells #[.int .i64 rows, .int .i64 cols, .slice A l.length c] 36)).alloc (.cells #[.slice Av vv.length cv] 22)).heap[w.heap.size]? = some (.cells #[.int .i64 rows, .int .i64 cols, .slice A l.length c] 36 (0, 0))) := ⟨blk_alloc (heap_alloc_new _ _) _⟩
  have HV0 : Aside0 (((w.alloc (.cells #[.int .i64 rows, .int .i64 cols, .slice A l.length c] 36)).alloc (.cells #[.slice Av vv.length cv] 22)).heap[w.heap.size + 1]? = some (.cells #[.slice Av vv.length cv] 22 (0, 0))) := ⟨by
    have h := heap_alloc_new (w.alloc (.cells #[.int .i64 rows, .int .i64 cols, .slice A l.length c] 36)) (.cells #[.slice Av vv.length cv] 22)
    rwa [World.size_alloc] at h⟩
  have HK := Aside0.mk (mcheck_calls rows cols A c l ((w.alloc (.cells #[.int .i64 rows, .int .i64 cols, .slice A l.length c] 36)).alloc (.cells #[.slice Av vv.length cv] 22)) (Kd.C_below hC HB0.out))
  rw [hm] at HK
  have hd : ((vv.length : Int) != cols) = false := by simpa using hv
  obtain ⟨n, rfl⟩ : ∃ n : Nat, rows = (n : Int) := ⟨rows.toNat, by have := (m_ok hm).1; omega⟩
  have HZ := Aside0.mk (And.intro hc hm)
  have HC := Aside0.mk hC
  have HVv := Aside0.mk hV
  clear hm hC hv hc hV
  go_enter Tryd.func25, Tryd.ntmps25
  go_wp2_with (fail)
  generalize ((w.alloc (.cells #[.int .i64 (n : Int), .int .i64 cols, .slice A l.length c] 36)).alloc (.cells #[.slice Av vv.length cv] 22)) = w0 at *
  refine HK.out.mono ?_
  rintro e w1 ⟨rfl, hb⟩
  have HB1 := Aside0.mk (below_step HB0.out hb)
  have HM1 : Aside0 (w1.heap[w.heap.size]? = some (.cells #[.int .i64 (n : Int), .int .i64 cols, .slice A l.length c] 36 (0, 0))) := ⟨(hb.block _ (blk_lt HM0.out)).trans HM0.out⟩
  have HV1 : Aside0 (w1.heap[w.heap.size + 1]? = some (.cells #[.slice Av vv.length cv] 22 (0, 0))) := ⟨(hb.block _ (blk_lt HV0.out)).trans HV0.out⟩
  obtain ⟨hc0, hc1, hc2⟩ := mat_cells HM1.out
  have hcv := blk_cell HV1.out 0
  simp only [List.getElem?_toArray, List.getElem?_cons_zero] at hcv
  clear hb
  have HT : TellsAt 49 #[] #[.pointer (some ⟨w.heap.size, 0, none⟩), .pointer (some ⟨w.heap.size + 1, 0, none⟩)] (fun k => dotV (rowL cols l (k : Int)) vv) n w1 := fun k hk W hb =>
    mul1_calls (n : Int) cols A c l Av cv vv (k : Int) w.heap.size (w.heap.size + 1) W (Kd.C_below HC.out (below_step HB1.out hb)) HZ.out.1 HZ.out.2 (by omega) (by omega) (Kd.C_below HVv.out (below_step HB1.out hb)) ((hb.block _ (blk_lt HM1.out)).trans HM1.out) ((hb.block _ (blk_lt HV1.out)).trans HV1.out)
  have HEa := Aside0.mk (each_calls 49 #[] #[.pointer (some ⟨w.heap.size, 0, none⟩), .pointer (some ⟨w.heap.size + 1, 0, none⟩)] (fun k => dotV (rowL cols l (k : Int)) vv) n w1 (by have := (m_ok HZ.out.2).2.1; omega) (enters_ Tryd.func49 (by kernel_rfl) rfl) HT)
  clear HT
  go_wp2_with (fail)
  refine HEa.out.mono ?_
  rintro e w2 ⟨h1, h2, hb⟩
  have HB2 := Aside0.mk (below_step HB1.out hb)
  by_cases hz : errF (fun k => dotV (rowL cols l (k : Int)) vv) n 0 = 0
  · obtain ⟨v, rfl, hr⟩ := h2 hz
    have HR := Aside0.mk hr
    have HZz := Aside0.mk hz
    clear h1 h2 hb hr hz hc0 hc1 hc2 hcv
    go_wp2_with (fail)
    go_ret2
    exact ⟨fun h => absurd HZz.out h, fun _ => ⟨v, rfl, Kd.R_lower HR.out HB1.out.size⟩, HB2.out⟩
  · have he := h1 hz
    subst he
    have HZz := Aside0.mk hz
    clear h1 h2 hb hz hc0 hc1 hc2 hcv
    go_wp2_with (fail)
    go_ret2
    exact ⟨fun _ => rfl, fun h => absurd h HZz.out, HB2.out⟩
end Go.Proofs.YtfameghednapkaaDoor.Ten
