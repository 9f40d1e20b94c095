/- tensor: a matrix's rows. -/
import Derived.Test.YtfameghednapkaaDoorTenMB
import Derived.Test.YtfameghednapkaaDoorBunT3
namespace Go.Proofs.YtfameghednapkaaDoor.Ten
open Go.RowKit Go.Proofs.YtfameghednapkaaDoorW.PrintWords Go.Proofs.YtfameghednapkaaDoorW.PrintLast Go.Proofs.YtfameghednapkaaDoorW.PrintMore Go.Proofs.YtfameghednapkaaDoor.K Go.Proofs.YtfameghednapkaaDoor.Fixed
set_option linter.unusedVariables false
set_option linter.unusedSimpArgs false
theorem m_ok {rows cols : Int} {l : List Int} (h : mV rows cols l = 0) : 1 ≤ rows ∧ rows ≤ 512 ∧ 1 ≤ cols ∧ cols ≤ 64 ∧ (l.length : Int) = rows * cols ∧ l.all isW = true := by
  unfold mV at h
  split at h
  · cases h
  · rename_i h9
    split at h
    · rename_i h8; exact ⟨by omega, by omega, by omega, by omega, by omega, h8⟩
    · cases h
theorem m_len {rows cols : Int} {l : List Int} (h : mV rows cols l = 0) : l.length ≤ 32768 := by
  obtain ⟨h1, h2, h3, h4, h5, _⟩ := m_ok h
  have h6 := mul_bd (a := rows) (b := cols) (A := 512) (B := 64) (by omega) (by omega) (by decide) (by decide)
  omega
def rowL (cols : Int) (l : List Int) (i : Int) : List Int := (l.drop (i * cols).toNat).take cols.toNat
theorem info_ten : (Tryd.prog.info? 3).map (fun i => (i.zero, i.size, i.bytes)) = some (some (.int .i64 0), 1, 8) := by kernel_rfl
theorem row_in {rows cols i : Int} (h1 : 1 ≤ rows) (h2 : rows ≤ 512) (h3 : 1 ≤ cols) (h4 : cols ≤ 64) (hi0 : 0 ≤ i) (hi1 : i < rows) : 0 ≤ i * cols ∧ i * cols + cols ≤ rows * cols ∧ i * cols ≤ 32768 := by
  have e1 := Int.mul_le_mul_of_nonneg_right (show i + 1 ≤ rows by omega) (show 0 ≤ cols by omega)
  rw [Int.add_mul, Int.one_mul] at e1
  have e2 := Int.mul_nonneg hi0 (show 0 ≤ cols by omega)
  have e3 := mul_bd (a := i) (b := cols) (A := 512) (B := 64) (by omega) (by omega) (by decide) (by decide)
  exact ⟨e2, e1, by omega⟩
set_option maxHeartbeats 4000000 in
set_option maxRecDepth 100000 in
theorem row_calls (rows cols i : Int) (A : Option Addr) (c : Nat) (l : List Int) (w : World) (hC : Kd.C (Kd.int .i64) w A l.length l) (hc : l.length ≤ c) (hm : mV rows cols l = 0) (hi0 : 0 ≤ i) (hi1 : i < rows) :
    Calls Tryd.prog 47 #[.agg #[.int .i64 rows, .int .i64 cols, .slice A l.length c], .int .i64 i] w fun e w' => ∃ A' c', e = .returned (.slice A' (rowL cols l i).length c') ∧ Kd.C (Kd.int .i64) w' A' (rowL cols l i).length (rowL cols l i) ∧ (rowL cols l i).length ≤ c' ∧ Below w.heap.size w w' := by
  obtain ⟨h1, h2, h3, h4, h5, _⟩ := m_ok hm
  obtain ⟨e1, e2, e3⟩ := row_in h1 h2 h3 h4 hi0 hi1
  have e4 : (i + 1) * cols = i * cols + cols := by rw [Int.add_mul, Int.one_mul]
  have HBx : Aside0 (Below w.heap.size w (w.alloc (.cells #[.int .i64 rows, .int .i64 cols, .slice A l.length c] 36))) := ⟨bel_alloc (Below.refl _ _) _⟩
  have HCx : Aside0 (Kd.C (Kd.int .i64) (w.alloc (.cells #[.int .i64 rows, .int .i64 cols, .slice A l.length c] 36)) A l.length l) := ⟨Kd.C_below hC HBx.out⟩
  obtain ⟨p, hp⟩ : ∃ p, p = i * cols := ⟨_, rfl⟩
  obtain ⟨q, hq⟩ : ∃ q, q = i * cols + cols := ⟨_, rfl⟩
  have hwp : IntKind.i64.wrap (i * cols) = p := by rw [hp, IntKind.wrap_i64]; omega
  have hwj : IntKind.i64.wrap (i + 1) = i + 1 := by rw [IntKind.wrap_i64]; omega
  have hwq : IntKind.i64.wrap ((i + 1) * cols) = q := by rw [hq, IntKind.wrap_i64, e4]; omega
  obtain ⟨A', hsl, hC6, hle6⟩ := mid_int (k := .i64) (P := Tryd.prog) 22 3 Tryd.underlying22 info_ten A c l p q p.toNat cols.toNat (by omega) (by omega) (by omega) hc
  have hR : (l.drop p.toNat).take cols.toNat = rowL cols l i := by rw [hp]; rfl
  rw [hR] at hC6 hle6 hsl
  have HC6 : Aside0 (∀ w : World, Kd.C (Kd.int .i64) w A l.length l → Kd.C (Kd.int .i64) w A' (rowL cols l i).length (rowL cols l i)) := ⟨hC6⟩
  have HLe := Aside0.mk hle6
  have h9 := hC.2.1
  clear hC6 hle6 hR hC hc hm h1 h2 h3 h4 h5 e1 e2 e3 e4 hp hq hi0 hi1
  generalize rowL cols l i = ro at *
  go_enter Tryd.func47, Tryd.ntmps47
  go_wp2
  go_ret
  exact ⟨A', _, rfl, HC6.out _ HCx.out, HLe.out, HBx.out⟩
theorem mat_info : (Tryd.prog.info? 36).map (fun x => x.size) = some 3 := by kernel_rfl
set_option maxHeartbeats 4000000 in
set_option maxRecDepth 100000 in
theorem Row_bad_calls (rows cols i : Int) (A : Option Addr) (c : Nat) (l : List Int) (w : World) (hC : Kd.C (Kd.int .i64) w A l.length l) (hm : mV rows cols l ≠ 0) :
    Calls Tryd.prog 22 #[.agg #[.int .i64 rows, .int .i64 cols, .slice A l.length c], .int .i64 i] w fun e w' => e = .returned (.tuple #[.slice none 0 0, .int .i64 (mV rows cols l)]) ∧ Below w.heap.size w w' := by
  have HB0 : Aside0 (Below w.heap.size w (w.alloc (.cells #[.int .i64 rows, .int .i64 cols, .slice A l.length c] 36))) := ⟨bel_alloc (Below.refl _ _) _⟩
  have HR0 : Aside0 ((w.alloc (.cells #[.int .i64 rows, .int .i64 cols, .slice A l.length c] 36)).heap[w.heap.size]? = some (.cells #[.int .i64 rows, .int .i64 cols, .slice A l.length c] 36 (0, 0))) := ⟨heap_alloc_new _ _⟩
  have HK := Aside0.mk (mcheck_calls rows cols A c l (w.alloc (.cells #[.int .i64 rows, .int .i64 cols, .slice A l.length c] 36)) (Kd.C_below hC HB0.out))
  have hd : (mV rows cols l != 0) = true := by simpa using hm
  clear hm hC
  generalize mV rows cols l = z at *
  go_enter Tryd.func22, Tryd.ntmps22
  go_wp2_with (fail)
  generalize (w.alloc (.cells #[.int .i64 rows, .int .i64 cols, .slice A l.length c] 36)) = w0 at *
  refine HK.out.mono ?_
  rintro e w1 ⟨rfl, hb⟩
  have HB1 := Aside0.mk (below_step HB0.out hb)
  clear hb
  go_wp2_with (fail)
  go_ret2
  exact ⟨rfl, HB1.out⟩
set_option maxHeartbeats 4000000 in
set_option maxRecDepth 100000 in
theorem Row_range_calls (rows cols i : Int) (A : Option Addr) (c : Nat) (l : List Int) (w : World) (hC : Kd.C (Kd.int .i64) w A l.length l) (hm : mV rows cols l = 0) (hi : i < 0 ∨ rows ≤ i) :
    Calls Tryd.prog 22 #[.agg #[.int .i64 rows, .int .i64 cols, .slice A l.length c], .int .i64 i] w fun e w' => e = .returned (.tuple #[.slice none 0 0, .int .i64 10]) ∧ Below w.heap.size w w' := by
  have HB0 : Aside0 (Below w.heap.size w (w.alloc (.cells #[.int .i64 rows, .int .i64 cols, .slice A l.length c] 36))) := ⟨bel_alloc (Below.refl _ _) _⟩
  have HR0 : Aside0 ((w.alloc (.cells #[.int .i64 rows, .int .i64 cols, .slice A l.length c] 36)).heap[w.heap.size]? = some (.cells #[.int .i64 rows, .int .i64 cols, .slice A l.length c] 36 (0, 0))) := ⟨heap_alloc_new _ _⟩
  have HK := Aside0.mk (mcheck_calls rows cols A c l (w.alloc (.cells #[.int .i64 rows, .int .i64 cols, .slice A l.length c] 36)) (Kd.C_below hC HB0.out))
  rw [hm] at HK
  clear hm hC
  by_cases h1 : i < 0
  · have hd : decide (i < 0) = true := by simpa using h1
    clear h1 hi
    go_enter Tryd.func22, Tryd.ntmps22
    go_wp2_with (fail)
    generalize (w.alloc (.cells #[.int .i64 rows, .int .i64 cols, .slice A l.length c] 36)) = w0 at *
    refine HK.out.mono ?_
    rintro e w1 ⟨rfl, hb⟩
    have HB1 := Aside0.mk (below_step HB0.out hb)
    clear hb
    go_wp2_with (fail)
    go_ret2
    exact ⟨rfl, HB1.out⟩
  · have hd : decide (i < 0) = false := by simpa using h1
    have hd2 : decide (rows ≤ i) = true := by simp; omega
    clear h1 hi
    go_enter Tryd.func22, Tryd.ntmps22
    go_wp2_with (fail)
    generalize (w.alloc (.cells #[.int .i64 rows, .int .i64 cols, .slice A l.length c] 36)) = w0 at *
    refine HK.out.mono ?_
    rintro e w1 ⟨rfl, hb⟩
    have HB1 := Aside0.mk (below_step HB0.out hb)
    have hc0 := blk_cell ((hb.block _ (blk_lt HR0.out)).trans HR0.out) 0
    simp only [List.getElem?_toArray, List.getElem?_cons_zero] at hc0
    clear hb
    go_wp2_with (fail)
    go_ret2
    exact ⟨rfl, HB1.out⟩
set_option maxHeartbeats 4000000 in
set_option maxRecDepth 100000 in
theorem Row_ok_calls (rows cols i : Int) (A : Option Addr) (c : Nat) (l : List Int) (w : World) (hC : Kd.C (Kd.int .i64) w A l.length l) (hc : l.length ≤ c) (hm : mV rows cols l = 0) (hi0 : 0 ≤ i) (hi1 : i < rows) :
    Calls Tryd.prog 22 #[.agg #[.int .i64 rows, .int .i64 cols, .slice A l.length c], .int .i64 i] w fun e w' => ∃ v, e = .returned (.tuple #[v, .int .i64 0]) ∧ Kd.R (Kd.int .i64) 3 w' w.heap.size (fun _ => True) v (rowL cols l i) ∧ Below w.heap.size w w' := by
  have HB0 : Aside0 (Below w.heap.size w (w.alloc (.cells #[.int .i64 rows, .int .i64 cols, .slice A l.length c] 36))) := ⟨bel_alloc (Below.refl _ _) _⟩
  have HR0 : Aside0 ((w.alloc (.cells #[.int .i64 rows, .int .i64 cols, .slice A l.length c] 36)).heap[w.heap.size]? = some (.cells #[.int .i64 rows, .int .i64 cols, .slice A l.length c] 36 (0, 0))) := ⟨heap_alloc_new _ _⟩
  have HK := Aside0.mk (mcheck_calls rows cols A c l (w.alloc (.cells #[.int .i64 rows, .int .i64 cols, .slice A l.length c] 36)) (Kd.C_below hC HB0.out))
  have HRow : Aside0 (∀ W, Below w.heap.size w W → Calls Tryd.prog 47 #[.agg #[.int .i64 rows, .int .i64 cols, .slice A l.length c], .int .i64 i] W fun e w' => ∃ A' c', e = .returned (.slice A' (rowL cols l i).length c') ∧ Kd.C (Kd.int .i64) w' A' (rowL cols l i).length (rowL cols l i) ∧ (rowL cols l i).length ≤ c' ∧ Below W.heap.size W w') := ⟨fun W hb => row_calls rows cols i A c l W (Kd.C_below hC hb) hc hm hi0 hi1⟩
  have HLen : Aside0 ((rowL cols l i).length ≤ 1000000) := ⟨by have := m_len hm; rw [rowL, List.length_take, List.length_drop]; omega⟩
  rw [hm] at HK
  have hd : decide (i < 0) = false := by simp; omega
  have hd2 : decide (rows ≤ i) = false := by simp; omega
  clear hm hC hi0 hi1
  go_enter Tryd.func22, Tryd.ntmps22
  go_wp2_with (fail)
  generalize (w.alloc (.cells #[.int .i64 rows, .int .i64 cols, .slice A l.length c] 36)) = w0 at *
  refine HK.out.mono ?_
  rintro e w1 ⟨rfl, hb⟩
  have HB1 := Aside0.mk (below_step HB0.out hb)
  have HR1 : Aside0 (w1.heap[w.heap.size]? = some (.cells #[.int .i64 rows, .int .i64 cols, .slice A l.length c] 36 (0, 0))) := ⟨(hb.block _ (blk_lt HR0.out)).trans HR0.out⟩
  have hc0 := blk_cell HR1.out 0
  have hc1 := blk_cell HR1.out 1
  have hc2 := blk_cell HR1.out 2
  simp only [List.getElem?_toArray, List.getElem?_cons_zero, List.getElem?_cons_succ] at hc0 hc1 hc2
  clear hb
  go_wp2_with (fail)
  refine (HRow.out w1 HB1.out).mono ?_
  rintro e w2 ⟨A', c', rfl, hC', hc', hb⟩
  have HB2 := Aside0.mk (below_step HB1.out hb)
  have HCl := Aside0.mk (CloneI.clonei_calls A' _ c' _ w2 hC' HLen.out)
  clear hb hC' hc' hc0 hc1 hc2
  go_wp2_with (fail)
  refine HCl.out.mono ?_
  rintro e w3 ⟨v, rfl, hr, hb⟩
  have HB3 := Aside0.mk (below_step HB2.out hb)
  have HRv := Aside0.mk hr
  clear hr hb
  go_wp2_with (fail)
  go_ret2
  exact ⟨v, rfl, Kd.R_lower HRv.out HB2.out.size, HB3.out⟩
end Go.Proofs.YtfameghednapkaaDoor.Ten
