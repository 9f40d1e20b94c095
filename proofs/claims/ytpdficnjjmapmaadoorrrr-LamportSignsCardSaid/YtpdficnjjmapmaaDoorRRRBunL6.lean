/- Texts put together: NumP, LamRef, ShaTab, OpenDig, Open, Laid. -/
import Derived.Test.YtpdficnjjmapmaaDoorRRRBunL5
import Derived.Test.YtpdficnjjmapmaaDoorRRRPLamportSecretsx1
import Derived.OpenShut
import Derived.ChangeOld
import Derived.Deep.Matrix
import Derived.WalkKit
import Derived.ChangeAt
import Derived.ProofKit
import Derived.ShutString
import Derived.Below
import Derived.SizedLaws
import Derived.Test.YtpdficnjjmapmaaDoorRRRRows
import Derived.LaidMore
import Derived.MakeChecks
set_option linter.unusedVariables false
set_option linter.unusedSimpArgs false
namespace Go.Proofs.YtpdficnjjmapmaaDoorRRR.Num
open Go.RowKit Go.Proofs.YtpdficnjjmapmaaDoorRRRW.PrintWords Go.Proofs.YtpdficnjjmapmaaDoorRRRW.PrintLast Go.Proofs.YtpdficnjjmapmaaDoorRRRW.PrintMore Go.Proofs.YtpdficnjjmapmaaDoorRRR.K Go.Proofs.YtpdficnjjmapmaaDoorRRR.PLamportSecrets
set_option linter.unusedVariables false
def I64 (x : Int) : Prop := -9223372036854775808 ≤ x ∧ x < 9223372036854775808
theorem w64 (x : Int) (h : I64 x) : wrap64 x = x := by
  have h0 := h.1
  have h1 := h.2
  rw [wrap64]
  first
  | (rw [IntKind.wrap_i64]; omega)
  | omega
theorem num_step (k : Nat) (x : Int) (xs : List Int) (j : Nat) (h : I64 x) (hj : j < xs.length) (hs : xs.length ≤ 8) :
    cupelref02_Number.l0 (k + 1) x xs (j : Int) = cupelref02_Number.l0 k (x / 256) (xs.set j (x % 256)) ((j : Int) - 1) := by
  have h0 := h.1
  have h1 := h.2
  have hr := Int.tmod_def x 256
  have hd : Int.tdiv x 256 = if 0 ≤ x ∨ x % 256 = 0 then x / 256 else x / 256 + 1 := by
    rw [Int.tdiv_eq_ediv]
    have : (256 : Int) ∣ x ↔ x % 256 = 0 := by omega
    simp only [this]
    have hs : Int.sign 256 = 1 := rfl
    split <;> simp [hs]
  have hj0 : (0 : Int) ≤ (j : Int) := by omega
  have hj1 : (j : Int) < (xs.length : Int) := by omega
  have hw : wrap64 ((j : Int) - 1) = (j : Int) - 1 := w64 _ ⟨by omega, by omega⟩
  rw [cupelref02_Number.l0, if_pos hj0]
  by_cases hx : 0 ≤ x ∨ x % 256 = 0
  · rw [if_pos hx] at hd
    have e1 : Int.tmod x 256 = x % 256 := by rw [hr, hd]; omega
    rw [e1, if_neg (by omega), if_pos hj0, if_pos hj1, hd, hw, w64 (x / 256) ⟨by omega, by omega⟩, Int.emod_emod_of_dvd _ (Int.dvd_refl 256), Int.toNat_natCast]
  · rw [if_neg hx] at hd
    have e1 : Int.tmod x 256 = x % 256 - 256 := by rw [hr, hd]; omega
    rw [e1, if_pos (by omega), if_pos hj0, if_pos hj1, hd, hw, w64 (x / 256 + 1) ⟨by omega, by omega⟩, w64 (x / 256 + 1 - 1) ⟨by omega, by omega⟩, w64 (x % 256 - 256 + 256) ⟨by omega, by omega⟩, Int.toNat_natCast]
    congr 2 <;> omega
theorem num_eight (k : Nat) (x : Int) (h : I64 x) : cupelref02_Number.f (k + 9) x = some (be8 x) := by
  have h0 := h.1
  have h1 := h.2
  have hd : ∀ y : Int, I64 y → I64 (y / 256) := fun y hy => ⟨by have := hy.1; omega, by have := hy.2; omega⟩
  have hs := hd
  rw [cupelref02_Number.f, if_pos (by decide)]
  have q7 := num_step (k + 8) x (List.replicate 8 0) 7 h (by decide) (by decide)
  have a1 := hd _ h
  have q6 := num_step (k + 7) _ ((List.replicate 8 0).set 7 (x % 256)) 6 a1 (by simp) (by simp)
  have a2 := hd _ a1
  have q5 := num_step (k + 6) _ (((List.replicate 8 0).set 7 (x % 256)).set 6 (x / 256 % 256)) 5 a2 (by simp) (by simp)
  have a3 := hd _ a2
  have q4 := num_step (k + 5) _ ((((List.replicate 8 0).set 7 (x % 256)).set 6 (x / 256 % 256)).set 5 (x / 256 / 256 % 256)) 4 a3 (by simp) (by simp)
  have a4 := hd _ a3
  have q3 := num_step (k + 4) _ (((((List.replicate 8 0).set 7 (x % 256)).set 6 (x / 256 % 256)).set 5 (x / 256 / 256 % 256)).set 4 (x / 256 / 256 / 256 % 256)) 3 a4 (by simp) (by simp)
  have a5 := hd _ a4
  have q2 := num_step (k + 3) _ ((((((List.replicate 8 0).set 7 (x % 256)).set 6 (x / 256 % 256)).set 5 (x / 256 / 256 % 256)).set 4 (x / 256 / 256 / 256 % 256)).set 3 (x / 256 / 256 / 256 / 256 % 256)) 2 a5 (by simp) (by simp)
  have a6 := hd _ a5
  have q1 := num_step (k + 2) _ (((((((List.replicate 8 0).set 7 (x % 256)).set 6 (x / 256 % 256)).set 5 (x / 256 / 256 % 256)).set 4 (x / 256 / 256 / 256 % 256)).set 3 (x / 256 / 256 / 256 / 256 % 256)).set 2 (x / 256 / 256 / 256 / 256 / 256 % 256)) 1 a6 (by simp) (by simp)
  have a7 := hd _ a6
  have q0 := num_step (k + 1) _ ((((((((List.replicate 8 0).set 7 (x % 256)).set 6 (x / 256 % 256)).set 5 (x / 256 / 256 % 256)).set 4 (x / 256 / 256 / 256 % 256)).set 3 (x / 256 / 256 / 256 / 256 % 256)).set 2 (x / 256 / 256 / 256 / 256 / 256 % 256)).set 1 (x / 256 / 256 / 256 / 256 / 256 / 256 % 256)) 0 a7 (by simp) (by simp)
  have e7 : ((7 : Nat) : Int) = 7 := rfl
  have e6 : ((7 : Nat) : Int) - 1 = ((6 : Nat) : Int) := rfl
  have e5 : ((6 : Nat) : Int) - 1 = ((5 : Nat) : Int) := rfl
  have e4 : ((5 : Nat) : Int) - 1 = ((4 : Nat) : Int) := rfl
  have e3 : ((4 : Nat) : Int) - 1 = ((3 : Nat) : Int) := rfl
  have e2 : ((3 : Nat) : Int) - 1 = ((2 : Nat) : Int) := rfl
  have e1 : ((2 : Nat) : Int) - 1 = ((1 : Nat) : Int) := rfl
  have e0 : ((1 : Nat) : Int) - 1 = ((0 : Nat) : Int) := rfl
  rw [← e7, q7, e6, q6, e5, q5, e4, q4, e3, q3, e2, q2, e1, q1, e0, q0, cupelref02_Number.l0, if_neg (by decide)]
  have c2 : x / 256 / 256 = x / 65536 := by omega
  have c3 : x / 256 / 256 / 256 = x / 16777216 := by omega
  have c4 : x / 256 / 256 / 256 / 256 = x / 4294967296 := by omega
  have c5 : x / 256 / 256 / 256 / 256 / 256 = x / 1099511627776 := by omega
  have c6 : x / 256 / 256 / 256 / 256 / 256 / 256 = x / 281474976710656 := by omega
  have c7 : x / 256 / 256 / 256 / 256 / 256 / 256 / 256 = x / 72057594037927936 := by omega
  rw [c7, c6, c5, c4, c3, c2]
  rfl
theorem nums_f (l : List Int) (hl : ∀ x ∈ l, I64 x) (hb : l.length * 8 ≤ 1000000) : ∀ d i, i + d = l.length → cupelref02_Numbers.l0 (d + 10) l (numsL (l.take i)) (i : Int) = some (numsL l)
  | 0, i, h => by
    rw [cupelref02_Numbers.l0, if_neg (by omega), List.take_of_length_le (by omega)]
  | d + 1, i, h => by
    have hi : i < l.length := by omega
    rw [show d + 1 + 10 = (d + 10) + 1 by omega, cupelref02_Numbers.l0, if_pos (by omega), if_pos (by omega), show d + 10 = (d + 1) + 9 by omega]
    have hx : I64 (rd l (i : Int)) := by
      rw [rd, Int.toNat_natCast, List.getD, List.getElem?_eq_getElem hi]
      exact hl _ (List.getElem_mem hi)
    rw [num_eight _ _ hx, Option.bind_some]
    have hlen := numsL_len (l.take i)
    rw [List.length_take] at hlen
    rw [if_pos (by simp only [be8, List.length_cons, List.length_nil]; omega), w64 _ ⟨by omega, by omega⟩]
    have hs := numsL_snoc l i hi
    rw [rd, Int.toNat_natCast, ← hs, show (d + 1) + 9 = d + 10 by omega]
    exact nums_f l hl hb d (i + 1) (by omega)
theorem numbers_f (l : List Int) (hl : ∀ x ∈ l, I64 x) (hb : l.length * 8 ≤ 1000000) : cupelref02_Numbers.f (l.length + 10) l = some (numsL l) := nums_f l hl hb l.length 0 (by omega)
end Go.Proofs.YtpdficnjjmapmaaDoorRRR.Num
namespace Go.Proofs.YtpdficnjjmapmaaDoorRRR.Lam
open Go.RowKit Go.Proofs.YtpdficnjjmapmaaDoorRRRW.PrintWords Go.Proofs.YtpdficnjjmapmaaDoorRRRW.PrintLast Go.Proofs.YtpdficnjjmapmaaDoorRRRW.PrintMore Go.Proofs.YtpdficnjjmapmaaDoorRRR.K Go.Proofs.YtpdficnjjmapmaaDoorRRR.Sha Go.Proofs.YtpdficnjjmapmaaDoorRRR.Codec Go.Proofs.YtpdficnjjmapmaaDoorRRR.RI Go.Proofs.YtpdficnjjmapmaaDoorRRR.Num Go.Proofs.YtpdficnjjmapmaaDoorRRR.Ref
set_option linter.unusedVariables false
set_option linter.unusedSimpArgs false
theorem rnumbers_n (A0 : Option Addr) (n c0 : Nat) (l0 : List Int) (w : World) (hr0 : Kd.C (Kd.int .i64) w A0 n l0) (hc : n ≤ c0) (hl : ∀ x ∈ l0, I64 x) (hb : l0.length * 8 ≤ 1000000) :
    Calls Tryd.prog 32 #[.slice A0 n c0] w fun e w' => ∃ v0_ : Value, e = .returned (v0_) ∧ Kd.R (Kd.int .u8) 5 w' w.heap.size (fun _ => True) v0_ (numsL l0) ∧ Below w.heap.size w w' := by
  obtain rfl := hr0.1
  exact (PLamportSecrets.cupelref02_Numbers.calls _ A0 c0 l0 _ w hr0 hc (numbers_f l0 hl hb)).mono fun e w' h => h
set_option maxHeartbeats 4000000 in
set_option maxRecDepth 100000 in
theorem secbytes_calls (d : List Int) (i b : Nat) (w : World) (hd : d.length = 32) (hby : ∀ x ∈ d, 0 ≤ x ∧ x < 256) (hi : i < 1000000) (hb2 : b < 1000000) :
    Calls Tryd.prog 18 #[.agg (dA d), .int .i64 (i : Int), .int .i64 (b : Int)] w fun e w' => ∃ v, e = .returned v ∧ Kd.R (Kd.int .u8) 5 w' w.heap.size (fun _ => True) v (joinL [d, numsL [(i : Int), (b : Int)]]) ∧ Below w.heap.size w w' := by
  have HBy := Aside0.mk hby
  have HDl := Aside0.mk hd
  have HIb := Aside0.mk (And.intro hi hb2)
  clear hby hd hi hb2
  go_enter Tryd.func18, Tryd.ntmps18
  go_upto_region 1 with fail
  have HB1 : Aside0 (Below w.heap.size w (w.alloc (.cells (dA d) 23))) := ⟨bel_alloc (Below.refl _ _) _⟩
  have HR1 : Aside0 ((w.alloc (.cells (dA d) 23)).heap[w.heap.size]? = some (.cells (dA d) 23 (0, 0))) := ⟨heap_alloc_new _ _⟩
  generalize w.alloc (.cells (dA d) 23) = w1 at *
  refine wp_region_mono 7 [false, false, false, false, false, false, true, true, true, true, true, true, true, true] (by kernel_rfl) (by kernel_rfl) (fun W => Below w1.heap.size w1 W) (fun W W' => Below W.heap.size W W') (SecF d i b w) (fun i x W W' _ hb h => h.step i x W W' hb) (below_drew (Below.refl _ _)) ?_
  refine ⟨?_, ?_, ?_, ?_, ?_, ?_, ?_, ?_, trivial⟩
  · intro v W hb hd
    refine step_list fun K hK => ?_
    simp only [fill_lit, fillL, Act.put, List.setIfInBounds_toArray, List.set_cons_zero, List.set_cons_succ, Nat.reduceAdd] at hK ⊢
    clear hd
    go_wp2
    exact ⟨hb, Below.refl _ _, rfl⟩
  · intro v W hb hd
    refine step_list fun K hK => ?_
    simp only [fill_lit, fillL, Act.put, List.setIfInBounds_toArray, List.set_cons_zero, List.set_cons_succ, Nat.reduceAdd] at hK ⊢
    clear hd
    go_wp2
    exact ⟨hb, Below.refl _ _, rfl⟩
  · intro v W hb hd
    refine step_list fun K hK => ?_
    simp only [fill_lit, fillL, Act.put, List.setIfInBounds_toArray, List.set_cons_zero, List.set_cons_succ, Nat.reduceAdd] at hK ⊢
    clear hd
    go_wp2
    exact ⟨hb, Below.refl _ _, rfl⟩
  · intro v W hb hd
    have h1 : v 8 = .int .i64 (i : Int) := hd 1 (by kernel_rfl)
    have h2 : v 9 = .int .i64 (b : Int) := hd 2 (by kernel_rfl)
    refine step_list fun K hK => ?_
    simp only [fill_lit, fillL, Act.put, List.setIfInBounds_toArray, List.set_cons_zero, List.set_cons_succ, Nat.reduceAdd] at hK ⊢
    rw [h1, h2] at hK ⊢
    clear hd h1 h2
    go_wp2
    exact ⟨below_alloc hb _, below_alloc (Below.refl _ _) _, W.heap.size, rfl, C_int (reads_lit W .i64 3 [(i : Int), (b : Int)] (by simp))⟩
  · intro v W hb hd
    have h2 : ∃ g, v 10 = .slice (some ⟨g, 0, none⟩) 2 2 ∧ Kd.C (Kd.int .i64) W (some ⟨g, 0, none⟩) 2 [(i : Int), (b : Int)] := hd 3 (by kernel_rfl)
    obtain ⟨g, h1, hC⟩ := h2
    have HC := Aside0.mk hC
    refine step_list fun K hK => ?_
    simp only [fill_lit, fillL, Act.put, List.setIfInBounds_toArray, List.set_cons_zero, List.set_cons_succ, Nat.reduceAdd] at hK ⊢
    rw [h1] at hK ⊢
    clear hd h1 hC
    go_wp2_with (fail)
    refine (rnumbers_n (some ⟨g, 0, none⟩) 2 2 [(i : Int), (b : Int)] W HC.out (by decide) (fun x hx => by
      have := HIb.out
      simp only [List.mem_cons, List.not_mem_nil, or_false] at hx
      unfold I64
      omega) (by simp)).mono ?_
    rintro e W' ⟨v0, rfl, hR, hb'⟩
    have HR := Aside0.mk hR
    have HB' := Aside0.mk hb'
    clear hR hb'
    go_wp2_with (fail)
    exact ⟨below_step hb HB'.out, HB'.out, Kd.R_lower HR.out (Nat.le_trans HB1.out.size hb.size)⟩
  · intro v W hb hd
    have h0 : v 7 = .slice (some ⟨w.heap.size, 0, none⟩) 32 32 := hd 0 (by kernel_rfl)
    have h3 : Kd.R (Kd.int .u8) 5 W w.heap.size (fun _ => True) (v 11) (numsL [(i : Int), (b : Int)]) := hd 4 (by kernel_rfl)
    obtain ⟨A, cc, hA⟩ := Kd.R_slice h3
    rw [hA] at h3
    have HR := Aside0.mk h3
    refine step_list fun K hK => ?_
    simp only [fill_lit, fillL, Act.put, List.setIfInBounds_toArray, List.set_cons_zero, List.set_cons_succ, Nat.reduceAdd] at hK ⊢
    rw [h0, hA] at hK ⊢
    clear hd h0 h3 hA
    go_wp2
    refine ⟨below_alloc hb _, below_alloc (Below.refl _ _) _, W.heap.size, rfl, ?_⟩
    exact rows_lit W 38 [.slice (some ⟨w.heap.size, 0, none⟩) 32 32, .slice A (numsL [(i : Int), (b : Int)]).length cc] [d, numsL [(i : Int), (b : Int)]] (by simp) (fun j x hj => by
      match j, hj with
      | 0, hj =>
        obtain rfl : d = x := by simpa using hj
        exact ⟨_, 32, by rw [HDl.out]; rfl, by rw [HDl.out]; exact Nat.le_refl _, by rw [HDl.out]; exact dig_reads ((hb.block _ (blk_lt HR1.out)).trans HR1.out) HDl.out (by decide)⟩
      | 1, hj =>
        obtain rfl : numsL [(i : Int), (b : Int)] = x := by simpa using hj
        exact ⟨A, cc, rfl, (Kd.R_reads' HR.out).2.1, (Kd.R_reads' HR.out).2.2⟩
      | j + 2, hj => simp at hj)
  · intro v W hb hd
    have h2 : ∃ g, v 12 = .slice (some ⟨g, 0, none⟩) 2 2 ∧ Kd.C (Kd.slice 5 (Kd.int .u8)) W (some ⟨g, 0, none⟩) 2 [d, numsL [(i : Int), (b : Int)]] := hd 5 (by kernel_rfl)
    obtain ⟨g, h1, hC⟩ := h2
    have HC := Aside0.mk hC
    refine step_list fun K hK => ?_
    simp only [fill_lit, fillL, Act.put, List.setIfInBounds_toArray, List.set_cons_zero, List.set_cons_succ, Nat.reduceAdd] at hK ⊢
    rw [h1] at hK ⊢
    clear hd h1 hC
    go_wp2_with (fail)
    refine (rjoin_calls (some ⟨g, 0, none⟩) 2 [d, numsL [(i : Int), (b : Int)]] W HC.out (by rw [joinTwo_len, HDl.out, numsL_len]; simp)).mono ?_
    rintro e W' ⟨v0, rfl, hR, hb'⟩
    have HR := Aside0.mk hR
    have HB' := Aside0.mk hb'
    clear hR hb'
    go_wp2_with (fail)
    exact ⟨below_step hb HB'.out, HB'.out, Kd.R_lower HR.out (Nat.le_trans HB1.out.size hb.size)⟩
  · intro v W hb hd
    have h3 : Kd.R (Kd.int .u8) 5 W w.heap.size (fun _ => True) (v 13) (joinL [d, numsL [(i : Int), (b : Int)]]) := hd 6 (by kernel_rfl)
    have HR := Aside0.mk h3
    have HBw : Aside0 (Below w.heap.size w W) := ⟨below_step HB1.out hb⟩
    refine step_list fun K hK => ?_
    simp only [fill_lit, fillL, Act.put, List.setIfInBounds_toArray, List.set_cons_zero, List.set_cons_succ, Nat.reduceAdd] at hK ⊢
    clear hd h3
    generalize v 13 = u at *
    go_wp2
    go_ret
    exact ⟨_, rfl, HR.out, HBw.out⟩
set_option maxHeartbeats 4000000 in
set_option maxRecDepth 100000 in
theorem rsecret_calls (d : List Int) (i b : Nat) (w : World) (hd : d.length = 32) (hby : ∀ x ∈ d, 0 ≤ x ∧ x < 256) (hi : i < 1000000) (hb2 : b < 1000000) :
    Calls Tryd.prog 8 #[.agg (dA d), .int .i64 (i : Int), .int .i64 (b : Int)] w fun e w' => e = .returned (.agg (dA (secV d i b))) ∧ Below w.heap.size w w' := by
  have HBy := Aside0.mk hby
  have HDl := Aside0.mk hd
  have HDi := Aside0.mk (dig_info hd)
  have HIb := Aside0.mk (And.intro hi hb2)
  have HR0 : Aside0 (∀ o, ((w.alloc (.cells (dA d) 23)).alloc o).heap[w.heap.size]? = some (.cells (dA d) 23 (0, 0))) := ⟨fun o => ((bel_alloc (Below.refl _ _) _).block _ (blk_lt (heap_alloc_new w (.cells (dA d) 23)))).trans (heap_alloc_new _ _)⟩
  clear hby hd hi hb2
  go_enter Tryd.func8, Tryd.ntmps8
  go_wp2_with (with_reducible refine wpList_load_row rfl 23 (.tmp 3) rfl w.heap.size rfl 23 (dA d) (0, 0) _ (HR0.out _) Tryd.underlying23 rfl HDi.out ?_)
  rw [z32_lit]
  have HB1 : Aside0 (Below w.heap.size w ((w.alloc (.cells (dA d) 23)).alloc (.cells (dA (List.replicate 32 0)) 23))) := ⟨bel_alloc (bel_alloc (Below.refl _ _) _) _⟩
  have HZ1 : Aside0 (((w.alloc (.cells (dA d) 23)).alloc (.cells (dA (List.replicate 32 0)) 23)).heap[w.heap.size + 1]? = some (.cells (dA (List.replicate 32 0)) 23 (0, 0))) := ⟨by have := heap_alloc_new (w.alloc (.cells (dA d) 23)) (.cells (dA (List.replicate 32 0)) 23); rwa [World.size_alloc] at this⟩
  generalize (w.alloc (.cells (dA d) 23)).alloc (.cells (dA (List.replicate 32 0)) 23) = w1 at *
  refine (secbytes_calls d i b w1 HDl.out HBy.out HIb.out.1 HIb.out.2).mono ?_
  rintro e w2 ⟨v, rfl, hR, hb⟩
  have HB2 := Aside0.mk (below_step HB1.out hb)
  have HZ2 : Aside0 (w2.heap[w.heap.size + 1]? = some (.cells (dA (List.replicate 32 0)) 23 (0, 0))) := ⟨(hb.block _ (blk_lt HZ1.out)).trans HZ1.out⟩
  obtain ⟨Aj, cj, rfl⟩ := Kd.R_slice hR
  have HC := Aside0.mk (Kd.R_reads' hR).2
  have HLj : Aside0 ((joinL [d, numsL [(i : Int), (b : Int)]]).length ≤ 20000) := ⟨by rw [joinTwo_len, HDl.out, numsL_len]; simp⟩
  have HBj := Aside0.mk (joinTwo_byte HBy.out (numsL_byte [(i : Int), (b : Int)]))
  have HV : Aside0 (shaV (joinL [d, numsL [(i : Int), (b : Int)]]) = secV d i b) := ⟨rfl⟩
  clear hR hb HB1 HZ1 HR0
  generalize joinL [d, numsL [(i : Int), (b : Int)]] = j at *
  go_wp2_with (fail)
  refine (rsum_calls Aj cj j w2 HC.out.2 HC.out.1 HBj.out HLj.out).mono ?_
  rintro e w3 ⟨rfl, hb⟩
  have HB3 := Aside0.mk (below_step HB2.out hb)
  have HZ3 : Aside0 (w3.heap[w.heap.size + 1]? = some (.cells (dA (List.replicate 32 0)) 23 (0, 0))) := ⟨(hb.block _ (blk_lt HZ2.out)).trans HZ2.out⟩
  clear hb
  rw [HV.out]
  have HSl := Aside0.mk (secV_len d i b)
  obtain ⟨D, hD⟩ : ∃ D, D = secV d i b := ⟨_, rfl⟩
  rw [← hD] at HSl ⊢
  have HDe := Aside0.mk hD
  clear hD HV
  have HD1 := Aside0.mk (dig_info HSl.out)
  have HD2 := Aside0.mk (zz_size HSl.out)
  have HD3 := Aside0.mk (dA_one D)
  go_wp2_with (with_reducible refine wpList_store_row rfl 23 (.tmp 6) (.tmp 11) rfl (w.heap.size + 1) (dA D) rfl rfl 23 _ HZ3.out HD1.out HD2.out HD3.out ?_)
  exact bodyPost_ret (results_cell_row Tryd.results8 _ _ (w.heap.size + 1) 23 (dA D) (0, 0) _ rfl (setRow_heap _ _ _ _ _ _ HZ3.out) Tryd.underlying23 rfl HD1.out) rfl ⟨by rw [HDe.out], below_setRow HB3.out (Nat.le_succ _) _⟩
end Go.Proofs.YtpdficnjjmapmaaDoorRRR.Lam
namespace Go.Proofs.YtpdficnjjmapmaaDoorRRR.Sha
open Go.RowKit Go.Proofs.YtpdficnjjmapmaaDoorRRRW.PrintWords Go.Proofs.YtpdficnjjmapmaaDoorRRR.K
def firstL : List Int := [1779033703, 3144134277, 1013904242, 2773480762, 1359893119, 2600822924, 528734635, 1541459225]
def constantsL : List Int := (1116352408 :: 1899447441 :: 3049323471 :: 3921009573 :: 961987163 :: 1508970993 :: 2453635748 :: 2870763221 :: 3624381080 :: 310598401 :: 607225278 :: 1426881987 :: 1925078388 :: 2162078206 :: 2614888103 :: 3248222580 :: 3835390401 :: 4022224774 :: 264347078 :: 604807628 :: 770255983 :: 1249150122 :: 1555081692 :: 1996064986 :: 2554220882 :: 2821834349 :: 2952996808 :: 3210313671 :: 3336571891 :: 3584528711 :: 113926993 :: 338241895 :: 666307205 :: 773529912 :: 1294757372 :: 1396182291 :: 1695183700 :: 1986661051 :: 2177026350 :: 2456956037 :: 2730485921 :: 2820302411 :: 3259730800 :: 3345764771 :: 3516065817 :: 3600352804 :: 4094571909 :: 275423344 :: 430227734 :: 506948616 :: 659060556 :: 883997877 :: 958139571 :: 1322822218 :: 1537002063 :: 1747873779 :: 1955562222 :: 2024104815 :: 2227730452 :: 2361852424 :: 2428436474 :: 2756734187 :: 3204031479 :: 3329325298 :: [])
set_option maxRecDepth 100000 in
theorem first_arr : (nums .u32 firstL).toArray = firstA := by
  have h : firstL = init.l.map wi := by decide +kernel
  rw [h]
  rfl
set_option maxRecDepth 100000 in
theorem constants_arr : (nums .u32 constantsL).toArray = constA := by
  have h : constantsL = kL.map wi := by decide +kernel
  rw [h]
  rfl
end Go.Proofs.YtpdficnjjmapmaaDoorRRR.Sha
namespace Go.Proofs.YtpdficnjjmapmaaDoorRRR.K
open Go.RowKit Go.ChangeShapes Go.WideShapes Go.ChangeAt Go.Proofs.YtpdficnjjmapmaaDoorRRRW.PrintWords
/-- A cell's number. -/
def intOfV : Value → Int
  | .int _ n => n
  | _ => 0
theorem arr_cells {H : Type} {enc : TypeId × Value → H} {P : Program} {W : World} {base N fuel : Nat} {sp : Nat → Bool} {held : Bool} {t E : TypeId} {k : IntKind} {cs : List Value} {x : DataW H × List MemPlace}
    (ht : P.underlying t = some (.array N E)) (hE : P.underlying E = some (.int k)) (hc : P.cellsOf E = 1) (hct : P.cellsOf t = N)
    (hf : DataW.trod enc P W base sp held fuel t cs = some x) : ∃ xs : List Int, cs = nums k xs ∧ xs.length = N ∧ ∀ n ∈ xs, (Lit.int k n).wf = true := by
  obtain ⟨ys, m, _, _, hl, hn, hel⟩ := DataW.trod_array ht hf
  rw [hct] at hl
  have key : ∀ i (h : i < cs.length), ∃ n, cs[i] = .int k n ∧ (Lit.int k n).wf = true := by
    intro i h
    have h3 := hel i (by omega)
    rw [hc, Nat.mul_one, List.drop_eq_getElem_cons h, List.take_succ_cons, List.take_zero, List.getElem?_eq_getElem (by omega)] at h3
    obtain ⟨n, e1, _, e3⟩ := DataW.trod_int hE h3
    exact ⟨n, by simpa using e1, e3⟩
  refine ⟨cs.map intOfV, ?_, by rw [List.length_map, hl], ?_⟩
  · refine List.ext_getElem (by simp [nums]) fun i h1 h2 => ?_
    obtain ⟨n, e, _⟩ := key i h1
    simp [nums, e, intOfV]
  · intro n hm
    obtain ⟨v, hv, rfl⟩ := List.mem_map.1 hm
    obtain ⟨i, hi, rfl⟩ := List.getElem_of_mem hv
    obtain ⟨n, e, hw⟩ := key i hi
    rw [e]
    exact hw
theorem open_dig {H : Type} {enc : TypeId × Value → H} {P : Program} {W : World} {base b0 N : Nat} {r : Reach} {sp : Nat → Bool} {held : Bool} {t E : TypeId} {k : IntKind} {v : Value} {d : DataW H} {ps : List MemPlace}
    (ht : P.underlying t = some (.array N E)) (hE : P.underlying E = some (.int k)) (hc : P.cellsOf E = 1) (hct : P.cellsOf t = N) (hval : Value.okWide P W r b0 t v)
    (h : DataW.Trod enc P W base sp held t v d ps) : ∃ xs : List Int, v = .agg (nums k xs).toArray ∧ xs.length = N ∧ ∀ n ∈ xs, (Lit.int k n).wf = true := by
  simp only [Value.okWide, ht] at hval
  obtain ⟨cs, rfl, _, _⟩ := hval
  obtain ⟨fuel, hf⟩ := h
  obtain ⟨xs, e, h1, h2⟩ := arr_cells ht hE hc hct hf
  refine ⟨xs, ?_, h1, h2⟩
  rw [← e]
  simp [Value.cells]
end Go.Proofs.YtpdficnjjmapmaaDoorRRR.K
namespace Go.Proofs.YtpdficnjjmapmaaDoorRRR.K
open Go.RowKit Go.ChangeShapes Go.WideShapes Go.ChangeAt Go.Proofs.YtpdficnjjmapmaaDoorRRRW.PrintWords Go.Proofs.YtpdficnjjmapmaaDoorRRRW.PrintLast Go.Proofs.YtpdficnjjmapmaaDoorRRRW.PrintMore
theorem open_bss {H : Type} {enc : TypeId × Value → H} {P : Program} {W : World} {base : Nat} {held : Bool} {t e q E : TypeId} {k : IntKind} {a : Option Addr} {len cap : Nat} {d : DataW H} {ps : List MemPlace}
    (ht : P.underlying t = some (.slice e)) (he : P.underlying e = some (.slice q)) (hq : P.underlying q = some (.int k)) (ce : P.cellsOf e = 1) (cq : P.cellsOf q = 1)
    (h : DataW.Trod enc P W base (fun _ => true) held t (.slice a len cap) d ps) :
    ∃ xs : List (List Int), Kd.C (Kd.slice E (Kd.int k)) W a len xs ∧ len ≤ cap ∧ ∀ x ∈ xs, ∀ n ∈ x, (Lit.int k n).wf = true := by
  obtain ⟨fuel, hf⟩ := h
  rcases Deep.open_int_rows ht he hq ce cq hf with ⟨hcs, _⟩ | ⟨x, l, c, A, L, C, Z, hcs, _, hl, hm, _, hrow⟩
  · simp [Value.cells] at hcs
    obtain ⟨rfl, rfl, rfl⟩ := hcs
    exact ⟨[], ⟨rfl, by decide, fun h => absurd h (by decide)⟩, Nat.le_refl _, fun x hx => by simp at hx⟩
  · simp [Value.cells] at hcs
    obtain ⟨rfl, rfl, rfl⟩ := hcs
    unfold maxLen at hm
    have hlen : ∀ r, r < cap → ((Z r).take (L r)).length = L r := fun r hr => by
      obtain ⟨_, h1, _, h2, _⟩ := hrow r hr
      rw [List.length_take, h2]
      omega
    refine ⟨(List.range len).map fun r => (Z r).take (L r), ⟨by simp, by omega, fun _ => ⟨x, rfl, fun j p hj => ?_⟩⟩, hl, ?_⟩
    · have hj' : j < len := by have := (List.getElem?_eq_some_iff.1 hj).1; simpa using this
      have hp : p = (Z j).take (L j) := by simpa [List.getElem?_map, List.getElem?_range hj'] using hj.symm
      subst hp
      obtain ⟨h1, h2, h3, h4, h5, h6, h7⟩ := hrow j (by omega)
      have hlj := hlen j (by omega)
      refine ⟨[.slice (A j) (L j) (C j)], rfl, ⟨A j, C j, by rw [hlj], by rw [hlj]; exact h2, C_int ?_⟩, fun i u hu => ?_⟩
      · rw [hlj]
        unfold maxLen at h3
        refine ⟨hlj, by omega, fun hp => ?_⟩
        cases hA : A j with
        | none => have := h6 hA; omega
        | some a' =>
          refine ⟨a', rfl, fun i hi => ?_⟩
          rw [(h7 a' hA).2 i (by omega)]
          simp [List.getD_eq_getElem?_getD, hi]
      · obtain ⟨rfl, rfl⟩ : i = 0 ∧ u = .slice (A j) (L j) (C j) := by
          cases i with
          | zero => exact ⟨rfl, by simpa using hu.symm⟩
          | succ i => simp at hu
        have : j * (Kd.slice E (Kd.int k)).sz + 0 = j := by show j * 1 + 0 = j; omega
        rw [this]
        exact h1
    · intro y hy n hn
      obtain ⟨r, hr, rfl⟩ := List.mem_map.1 hy
      have hr' : r < cap := by have := List.mem_range.1 hr; omega
      exact (hrow r hr').2.2.2.2.1 n (List.mem_of_mem_take hn)
theorem open_is {H : Type} {enc : TypeId × Value → H} {P : Program} {W : World} {base : Nat} {held : Bool} {t e : TypeId} {k : IntKind} {a : Option Addr} {len cap : Nat} {d : DataW H} {ps : List MemPlace}
    (ht : P.underlying t = some (.slice e)) (he : P.underlying e = some (.int k)) (ce : P.cellsOf e = 1)
    (h : DataW.Trod enc P W base (fun _ => true) held t (.slice a len cap) d ps) :
    ∃ xs : List Int, Kd.C (Kd.int k) W a len xs ∧ len ≤ cap ∧ ∀ n ∈ xs, (Lit.int k n).wf = true := by
  obtain ⟨fuel, hf⟩ := h
  rcases open_ints ht he ce hf with ⟨hcs, _⟩ | ⟨x, l, c, zs, hcs, _, hl, hm, hz, _, hcell, hwz⟩
  · simp [Value.cells] at hcs
    obtain ⟨rfl, rfl, rfl⟩ := hcs
    exact ⟨[], C_int ⟨rfl, by decide, fun h => absurd h (by decide)⟩, Nat.le_refl _, fun x hx => by simp at hx⟩
  · simp [Value.cells] at hcs
    obtain ⟨rfl, rfl, rfl⟩ := hcs
    unfold maxLen at hm
    simp only [if_true] at hz
    have hl1 : (zs.take len).length = len := by rw [List.length_take, hz]; omega
    refine ⟨zs.take len, C_int ⟨hl1, by omega, fun _ => ⟨x, rfl, fun i hi => ?_⟩⟩, hl, fun n hn => hwz n (List.mem_of_mem_take hn)⟩
    rw [hcell i (by omega)]
    simp [List.getD_eq_getElem?_getD, hi]
theorem byte_wf {xs : List Int} (h : ∀ n ∈ xs, (Lit.int .u8 n).wf = true) : ∀ x ∈ xs, 0 ≤ x ∧ x < 256 := fun x hx => by
  have := h x hx
  simp only [Lit.wf, Bool.and_eq_true, decide_eq_true_eq] at this
  have h1 : IntKind.u8.min = 0 := by decide
  have h2 : IntKind.u8.max = 255 := by decide
  omega
theorem wf_range {x : Int} (h : (Lit.int .i64 x).wf = true) : -9223372036854775808 ≤ x ∧ x ≤ 9223372036854775807 := by
  simp only [Lit.wf, Bool.and_eq_true, decide_eq_true_eq] at h
  have h1 : IntKind.i64.min = -9223372036854775808 := by decide
  have h2 : IntKind.i64.max = 9223372036854775807 := by decide
  omega
end Go.Proofs.YtpdficnjjmapmaaDoorRRR.K
namespace Go.Proofs.YtpdficnjjmapmaaDoorRRR.Laid
open Go.RowKit Go.Proofs.YtpdficnjjmapmaaDoorRRRW.PrintWords Go.Proofs.YtpdficnjjmapmaaDoorRRR.K
set_option linter.unusedVariables false
theorem laidVars_mem {P : Program} {w : World} {n : String} {d : DataW Unit} : ∀ {l : List (String × DataW Unit)} {ps : List MemPlace}, DataW.LaidVars P w l ps → (n, d) ∈ l →
    ∃ g t cs fuel p, P.globalNamed n = some g ∧ (P.globals[g]?).map (·.type) = some t ∧ w.var? P n = some cs ∧ DataW.trod (fun _ => ()) P w 0 (fun _ => true) false fuel t cs.toList = some (d, p) := by
  intro l
  induction l with
  | nil => intro ps _ h; cases h
  | cons x l ih =>
    intro ps h hm
    obtain ⟨m, y⟩ := x
    obtain ⟨g, t, cs, fuel, p, q, h1, h2, h3, h4, h5, _⟩ := h
    rcases List.mem_cons.1 hm with e | e
    · cases e
      exact ⟨g, t, cs, fuel, p, h1, h2, h3, h4⟩
    · exact ih h5 e
theorem lit_of_trod {H : Type} {enc : TypeId × Value → H} {P : Program} {w : World} {base : Nat} {sp : Nat → Bool} {held : Bool} {fuel : Nat} {t : TypeId} {k : IntKind} {c : Value} {y : DataW H × List MemPlace}
    (ht : P.underlying t = some (.int k)) (h : DataW.trod enc P w base sp held fuel t [c] = some y) : ∃ n, c = .int k n ∧ y = (.lit (.int k n), []) := by
  cases fuel with
  | zero => simp [DataW.trod] at h
  | succ fuel =>
    cases c <;> simp [DataW.trod, ht] at h
    rename_i k' n
    obtain ⟨⟨rfl, _⟩, rfl⟩ := h
    exact ⟨n, rfl, rfl⟩
theorem ints_cells {P : Program} {w : World} {sp : Nat → Bool} {fuel : Nat} {t E : TypeId} {k : IntKind} {N : Nat} {cs : List Value} {xs : List Int} {p : List MemPlace}
    (ht : P.underlying t = some (.array N E)) (hE : P.underlying E = some (.int k)) (hc : P.cellsOf E = 1) (hct : P.cellsOf t = N)
    (h : DataW.trod (fun _ => ()) P w 0 sp false fuel t cs = some (.agg (xs.map fun x => .lit (.int k x)), p)) : cs = nums k xs := by
  obtain ⟨ys, m, _, hx, hl, hn, hel⟩ := DataW.trod_array ht h
  simp only [Prod.mk.injEq, DataW.agg.injEq] at hx
  obtain ⟨hx, _⟩ := hx
  have hlen : xs.length = N := by have := congrArg List.length hx; simpa [hn] using this
  rw [hct] at hl
  refine List.ext_getElem (by rw [hl, nums, List.length_map, hlen]) fun i h1 h2 => ?_
  have hi : i < N := by omega
  have h3 := hel i hi
  rw [hc, Nat.mul_one, List.drop_eq_getElem_cons h1, List.take_succ_cons, List.take_zero, List.getElem?_eq_getElem (by omega)] at h3
  obtain ⟨n, e1, e2⟩ := lit_of_trod hE h3
  have h4 := congrArg (·[i]?) hx
  simp only [List.getElem?_map] at h4
  rw [List.getElem?_eq_getElem (by omega), List.getElem?_eq_getElem (by omega), Option.map_some, Option.map_some, e2] at h4
  simp at h4
  rw [e1, ← h4]
  simp [nums]
theorem laidAt_of {P : Program} {W : World} {l : List (String × DataW Unit)} {n : String} {g N : Nat} {t E : TypeId} {k : IntKind} {xs : List Int}
    (h : laidMetH P l W) (hp : (l.all fun x => x.2.handleName?.isNone) = true) (hm : (n, DataW.agg (xs.map fun x => .lit (.int k x))) ∈ l) (hg : P.globalNamed n = some g) (hgt : (P.globals[g]?).map (·.type) = some t)
    (ht : P.underlying t = some (.array N E)) (hE : P.underlying E = some (.int k)) (hc : P.cellsOf E = 1) (hct : P.cellsOf t = N) : LaidAt W g (nums k xs).toArray := by
  rw [MakeChecks.laidMetH_plain _ _ _ hp] at h
  obtain ⟨ps, hv, _⟩ := h
  obtain ⟨g', t', cs, fuel, p, h1, h2, h3, h4⟩ := laidVars_mem hv hm
  obtain rfl := Option.some.inj (hg.symm.trans h1)
  obtain rfl := Option.some.inj (hgt.symm.trans h2)
  have h5 := ints_cells ht hE hc hct h4
  have h6 : cs = (nums k xs).toArray := by rw [← h5]
  subst h6
  simp only [World.var?, h1, Option.bind_some] at h3
  split at h3
  · rename_i c t2 fr hh
    cases h3
    exact ⟨t2, fr, hh⟩
  · cases h3
theorem i64_b {a : Int} (h : (Lit.int .i64 a).wf = true) : -9223372036854775808 ≤ a ∧ a ≤ 9223372036854775807 := by
  have h2 : (decide (-9223372036854775808 ≤ a) && decide (a ≤ 9223372036854775807)) = true := h
  simpa using h2
end Go.Proofs.YtpdficnjjmapmaaDoorRRR.Laid
