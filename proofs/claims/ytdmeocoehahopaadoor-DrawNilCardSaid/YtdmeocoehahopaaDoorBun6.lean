/- Texts put together: NumP, DrawRefN, ShaTab, OpenDig, Open, Laid. -/
import Derived.Test.YtdmeocoehahopaaDoorBun5
import Derived.Test.YtdmeocoehahopaaDoorPDrawNumbersx1
import Derived.OpenShut
import Derived.ChangeOld
import Derived.Deep.Matrix
import Derived.WalkKit
import Derived.ChangeAt
import Derived.ProofKit
import Derived.ShutString
import Derived.Below
import Derived.SizedLaws
import Derived.Test.YtdmeocoehahopaaDoorRows
import Derived.LaidMore
import Derived.MakeChecks
namespace Go.Proofs.YtdmeocoehahopaaDoor.Num
open Go.RowKit Go.Proofs.YtdmeocoehahopaaDoorW.PrintWords Go.Proofs.YtdmeocoehahopaaDoorW.PrintLast Go.Proofs.YtdmeocoehahopaaDoorW.PrintMore Go.Proofs.YtdmeocoehahopaaDoor.K Go.Proofs.YtdmeocoehahopaaDoor.PDrawNumbers
set_option linter.unusedVariables false
def I64 (x : Int) : Prop := -9223372036854775808 ≤ x ∧ x < 9223372036854775808
theorem w64 (x : Int) (h : I64 x) : wrap64 x = x := by
  have h0 := h.1
  have h1 := h.2
  rw [wrap64]
  first
  | (rw [IntKind.wrap_i64]; omega)
  | omega
theorem num_step (k : Nat) (x : Int) (xs : List Int) (j : Nat) (h : I64 x) (hj : j < xs.length) (hs : xs.length ≤ 8) :
    cupelref02_Number.l0 (k + 1) x xs (j : Int) = cupelref02_Number.l0 k (x / 256) (xs.set j (x % 256)) ((j : Int) - 1) := by
  have h0 := h.1
  have h1 := h.2
  have hr := Int.tmod_def x 256
  have hd : Int.tdiv x 256 = if 0 ≤ x ∨ x % 256 = 0 then x / 256 else x / 256 + 1 := by
    rw [Int.tdiv_eq_ediv]
    have : (256 : Int) ∣ x ↔ x % 256 = 0 := by omega
    simp only [this]
    have hs : Int.sign 256 = 1 := rfl
    split <;> simp [hs]
  have hj0 : (0 : Int) ≤ (j : Int) := by omega
  have hj1 : (j : Int) < (xs.length : Int) := by omega
  have hw : wrap64 ((j : Int) - 1) = (j : Int) - 1 := w64 _ ⟨by omega, by omega⟩
  rw [cupelref02_Number.l0, if_pos hj0]
  by_cases hx : 0 ≤ x ∨ x % 256 = 0
  · rw [if_pos hx] at hd
    have e1 : Int.tmod x 256 = x % 256 := by rw [hr, hd]; omega
    rw [e1, if_neg (by omega), if_pos hj0, if_pos hj1, hd, hw, w64 (x / 256) ⟨by omega, by omega⟩, Int.emod_emod_of_dvd _ (Int.dvd_refl 256), Int.toNat_natCast]
  · rw [if_neg hx] at hd
    have e1 : Int.tmod x 256 = x % 256 - 256 := by rw [hr, hd]; omega
    rw [e1, if_pos (by omega), if_pos hj0, if_pos hj1, hd, hw, w64 (x / 256 + 1) ⟨by omega, by omega⟩, w64 (x / 256 + 1 - 1) ⟨by omega, by omega⟩, w64 (x % 256 - 256 + 256) ⟨by omega, by omega⟩, Int.toNat_natCast]
    congr 2 <;> omega
theorem num_eight (k : Nat) (x : Int) (h : I64 x) : cupelref02_Number.f (k + 9) x = some (be8 x) := by
  have h0 := h.1
  have h1 := h.2
  have hd : ∀ y : Int, I64 y → I64 (y / 256) := fun y hy => ⟨by have := hy.1; omega, by have := hy.2; omega⟩
  have hs := hd
  rw [cupelref02_Number.f, if_pos (by decide)]
  have q7 := num_step (k + 8) x (List.replicate 8 0) 7 h (by decide) (by decide)
  have a1 := hd _ h
  have q6 := num_step (k + 7) _ ((List.replicate 8 0).set 7 (x % 256)) 6 a1 (by simp) (by simp)
  have a2 := hd _ a1
  have q5 := num_step (k + 6) _ (((List.replicate 8 0).set 7 (x % 256)).set 6 (x / 256 % 256)) 5 a2 (by simp) (by simp)
  have a3 := hd _ a2
  have q4 := num_step (k + 5) _ ((((List.replicate 8 0).set 7 (x % 256)).set 6 (x / 256 % 256)).set 5 (x / 256 / 256 % 256)) 4 a3 (by simp) (by simp)
  have a4 := hd _ a3
  have q3 := num_step (k + 4) _ (((((List.replicate 8 0).set 7 (x % 256)).set 6 (x / 256 % 256)).set 5 (x / 256 / 256 % 256)).set 4 (x / 256 / 256 / 256 % 256)) 3 a4 (by simp) (by simp)
  have a5 := hd _ a4
  have q2 := num_step (k + 3) _ ((((((List.replicate 8 0).set 7 (x % 256)).set 6 (x / 256 % 256)).set 5 (x / 256 / 256 % 256)).set 4 (x / 256 / 256 / 256 % 256)).set 3 (x / 256 / 256 / 256 / 256 % 256)) 2 a5 (by simp) (by simp)
  have a6 := hd _ a5
  have q1 := num_step (k + 2) _ (((((((List.replicate 8 0).set 7 (x % 256)).set 6 (x / 256 % 256)).set 5 (x / 256 / 256 % 256)).set 4 (x / 256 / 256 / 256 % 256)).set 3 (x / 256 / 256 / 256 / 256 % 256)).set 2 (x / 256 / 256 / 256 / 256 / 256 % 256)) 1 a6 (by simp) (by simp)
  have a7 := hd _ a6
  have q0 := num_step (k + 1) _ ((((((((List.replicate 8 0).set 7 (x % 256)).set 6 (x / 256 % 256)).set 5 (x / 256 / 256 % 256)).set 4 (x / 256 / 256 / 256 % 256)).set 3 (x / 256 / 256 / 256 / 256 % 256)).set 2 (x / 256 / 256 / 256 / 256 / 256 % 256)).set 1 (x / 256 / 256 / 256 / 256 / 256 / 256 % 256)) 0 a7 (by simp) (by simp)
  have e7 : ((7 : Nat) : Int) = 7 := rfl
  have e6 : ((7 : Nat) : Int) - 1 = ((6 : Nat) : Int) := rfl
  have e5 : ((6 : Nat) : Int) - 1 = ((5 : Nat) : Int) := rfl
  have e4 : ((5 : Nat) : Int) - 1 = ((4 : Nat) : Int) := rfl
  have e3 : ((4 : Nat) : Int) - 1 = ((3 : Nat) : Int) := rfl
  have e2 : ((3 : Nat) : Int) - 1 = ((2 : Nat) : Int) := rfl
  have e1 : ((2 : Nat) : Int) - 1 = ((1 : Nat) : Int) := rfl
  have e0 : ((1 : Nat) : Int) - 1 = ((0 : Nat) : Int) := rfl
  rw [← e7, q7, e6, q6, e5, q5, e4, q4, e3, q3, e2, q2, e1, q1, e0, q0, cupelref02_Number.l0, if_neg (by decide)]
  have c2 : x / 256 / 256 = x / 65536 := by omega
  have c3 : x / 256 / 256 / 256 = x / 16777216 := by omega
  have c4 : x / 256 / 256 / 256 / 256 = x / 4294967296 := by omega
  have c5 : x / 256 / 256 / 256 / 256 / 256 = x / 1099511627776 := by omega
  have c6 : x / 256 / 256 / 256 / 256 / 256 / 256 = x / 281474976710656 := by omega
  have c7 : x / 256 / 256 / 256 / 256 / 256 / 256 / 256 = x / 72057594037927936 := by omega
  rw [c7, c6, c5, c4, c3, c2]
  rfl
theorem nums_f (l : List Int) (hl : ∀ x ∈ l, I64 x) (hb : l.length * 8 ≤ 1000000) : ∀ d i, i + d = l.length → cupelref02_Numbers.l0 (d + 10) l (numsL (l.take i)) (i : Int) = some (numsL l)
  | 0, i, h => by
    rw [cupelref02_Numbers.l0, if_neg (by omega), List.take_of_length_le (by omega)]
  | d + 1, i, h => by
    have hi : i < l.length := by omega
    rw [show d + 1 + 10 = (d + 10) + 1 by omega, cupelref02_Numbers.l0, if_pos (by omega), if_pos (by omega), show d + 10 = (d + 1) + 9 by omega]
    have hx : I64 (rd l (i : Int)) := by
      rw [rd, Int.toNat_natCast, List.getD, List.getElem?_eq_getElem hi]
      exact hl _ (List.getElem_mem hi)
    rw [num_eight _ _ hx, Option.bind_some]
    have hlen := numsL_len (l.take i)
    rw [List.length_take] at hlen
    rw [if_pos (by simp only [be8, List.length_cons, List.length_nil]; omega), w64 _ ⟨by omega, by omega⟩]
    have hs := numsL_snoc l i hi
    rw [rd, Int.toNat_natCast, ← hs, show (d + 1) + 9 = d + 10 by omega]
    exact nums_f l hl hb d (i + 1) (by omega)
theorem numbers_f (l : List Int) (hl : ∀ x ∈ l, I64 x) (hb : l.length * 8 ≤ 1000000) : cupelref02_Numbers.f (l.length + 10) l = some (numsL l) := nums_f l hl hb l.length 0 (by omega)
end Go.Proofs.YtdmeocoehahopaaDoor.Num
namespace Go.Proofs.YtdmeocoehahopaaDoor.Draw
open Go.RowKit Go.Proofs.YtdmeocoehahopaaDoorW.PrintWords Go.Proofs.YtdmeocoehahopaaDoorW.PrintLast Go.Proofs.YtdmeocoehahopaaDoorW.PrintMore Go.Proofs.YtdmeocoehahopaaDoor.K Go.Proofs.YtdmeocoehahopaaDoor.Sha Go.Proofs.YtdmeocoehahopaaDoor.Codec Go.Proofs.YtdmeocoehahopaaDoor.RI Go.Proofs.YtdmeocoehahopaaDoor.Num Go.Proofs.YtdmeocoehahopaaDoor.Ref
set_option linter.unusedVariables false
set_option linter.unusedSimpArgs false
theorem rnumbers_n (A0 : Option Addr) (n c0 : Nat) (l0 : List Int) (w : World) (hr0 : Kd.C (Kd.int .i64) w A0 n l0) (hc : n ≤ c0) (hl : ∀ x ∈ l0, I64 x) (hb : l0.length * 8 ≤ 1000000) :
    Calls Tryd.prog 27 #[.slice A0 n c0] w fun e w' => ∃ v0_ : Value, e = .returned (v0_) ∧ Kd.R (Kd.int .u8) 5 w' w.heap.size (fun _ => True) v0_ (numsL l0) ∧ Below w.heap.size w w' := by
  obtain rfl := hr0.1
  exact (PDrawNumbers.cupelref02_Numbers.calls _ A0 c0 l0 _ w hr0 hc (numbers_f l0 hl hb)).mono fun e w' h => h
theorem rhor_lt {D : List Int} (hD : ∀ x ∈ D, 0 ≤ x ∧ x < 256) : ∀ k, 0 ≤ rhor D k ∧ rhor D k < 128 * 256 ^ k
  | 0 => by simp only [rhor]; omega
  | k + 1 => by
    have h1 := rhor_lt hD k
    have h2 := byte_at hD (k + 1)
    simp only [rhor]
    have e : (256 : Int) ^ (k + 1) = 256 ^ k * 256 := Int.pow_succ ..
    rw [e]
    omega
theorem rhor_step {D : List Int} (hD : ∀ x ∈ D, 0 ≤ x ∧ x < 256) (k : Nat) (hk : k < 7) : IntKind.i64.wrap (256 * rhor D k) = 256 * rhor D k ∧ IntKind.i64.wrap (256 * rhor D k + D.getD (k + 1) 0) = rhor D (k + 1) := by
  have h1 := rhor_lt hD k
  have h2 := byte_at hD (k + 1)
  have h3 : (256 : Int) ^ k ≤ 256 ^ 6 := by
    have : ((256 ^ k : Nat) : Int) ≤ ((256 ^ 6 : Nat) : Int) := Int.ofNat_le.2 (Nat.pow_le_pow_right (by decide) (by omega))
    rwa [Int.natCast_pow, Int.natCast_pow] at this
  have h4 : (256 : Int) ^ 6 = 281474976710656 := by decide
  rw [show rhor D (k + 1) = 256 * rhor D k + D.getD (k + 1) 0 from rfl, IntKind.wrap_i64, IntKind.wrap_i64]
  omega
set_option maxHeartbeats 4000000 in
set_option maxRecDepth 100000 in
theorem rnumber_calls (d : List Int) (c : Int) (w : World) (hd : d.length = 32) (hby : ∀ x ∈ d, 0 ≤ x ∧ x < 256) (hI : -9223372036854775808 ≤ c ∧ c < 9223372036854775808) :
    Calls Tryd.prog 14 #[.agg (dA d), .int .i64 c] w fun e w' => e = .returned (.int .i64 (numV d c)) ∧ Below w.heap.size w w' := by
  have HBy := Aside0.mk hby
  have HDl := Aside0.mk hd
  have HI := Aside0.mk hI
  clear hI hby hd
  go_enter Tryd.func14, Tryd.ntmps14
  go_upto_region 1 with fail
  have HB1 : Aside0 (Below w.heap.size w (w.alloc (.cells (dA d) 23))) := ⟨bel_alloc (Below.refl _ _) _⟩
  have HR1 : Aside0 ((w.alloc (.cells (dA d) 23)).heap[w.heap.size]? = some (.cells (dA d) 23 (0, 0))) := ⟨heap_alloc_new _ _⟩
  generalize w.alloc (.cells (dA d) 23) = w1 at *
  go_cut [5] (fun s5 wx => ∃ g, s5 = .pointer (some ⟨g, 0, none⟩) ∧ wx.heap[g]? = some (.cells (dA (shaV (joinL [d, numsL [c]]))) 23 (0, 0)) ∧ Below w.heap.size w wx)
  case first =>
    refine wp_region_mono 8 [false, false, false, false, false, true, false, false, true, true, true, true, true, true, true] (by kernel_rfl) (by kernel_rfl) (fun W => Below w1.heap.size w1 W) (fun W W' => Below W.heap.size W W') (NumF d c w w1) (fun i x W W' _ hb h => h.step i x W W' hb) (below_drew (Below.refl _ _)) ?_
    refine ⟨?_, ?_, ?_, ?_, ?_, ?_, ?_, ?_, ?_, trivial⟩
    · intro v W hb hd
      refine step_list fun K hK => ?_
      simp only [fill_lit, fillL, Act.put, List.setIfInBounds_toArray, List.set_cons_zero, List.set_cons_succ, Nat.reduceAdd] at hK ⊢
      clear hd
      go_wp2
      exact ⟨hb, Below.refl _ _, rfl⟩
    · intro v W hb hd
      refine step_list fun K hK => ?_
      simp only [fill_lit, fillL, Act.put, List.setIfInBounds_toArray, List.set_cons_zero, List.set_cons_succ, Nat.reduceAdd] at hK ⊢
      clear hd
      go_wp2
      exact ⟨hb, Below.refl _ _, rfl⟩
    · intro v W hb hd
      have h1 : v 9 = .int .i64 c := hd 1 (by kernel_rfl)
      refine step_list fun K hK => ?_
      simp only [fill_lit, fillL, Act.put, List.setIfInBounds_toArray, List.set_cons_zero, List.set_cons_succ, Nat.reduceAdd] at hK ⊢
      rw [h1] at hK ⊢
      clear hd h1
      go_wp2
      exact ⟨below_alloc hb _, below_alloc (Below.refl _ _) _, W.heap.size, rfl, C_int (reads_lit W .i64 3 [c] (by simp))⟩
    · intro v W hb hd
      have h2 : ∃ g, v 10 = .slice (some ⟨g, 0, none⟩) 1 1 ∧ Kd.C (Kd.int .i64) W (some ⟨g, 0, none⟩) 1 [c] := hd 2 (by kernel_rfl)
      obtain ⟨g, h1, hC⟩ := h2
      have HC := Aside0.mk hC
      refine step_list fun K hK => ?_
      simp only [fill_lit, fillL, Act.put, List.setIfInBounds_toArray, List.set_cons_zero, List.set_cons_succ, Nat.reduceAdd] at hK ⊢
      rw [h1] at hK ⊢
      clear hd h1 hC
      go_wp2_with (fail)
      refine (rnumbers_n (some ⟨g, 0, none⟩) 1 1 [c] W HC.out (by decide) (by simp; exact HI.out) (by simp)).mono ?_
      rintro e W' ⟨v0, rfl, hR, hb'⟩
      have HR := Aside0.mk hR
      have HB' := Aside0.mk hb'
      clear hR hb'
      go_wp2_with (fail)
      exact ⟨below_step hb HB'.out, HB'.out, Kd.R_lower HR.out (Nat.le_trans HB1.out.size hb.size)⟩
    · intro v W hb hd
      have h0 : v 8 = .slice (some ⟨w.heap.size, 0, none⟩) 32 32 := hd 0 (by kernel_rfl)
      have h3 : Kd.R (Kd.int .u8) 5 W w.heap.size (fun _ => True) (v 11) (numsL [c]) := hd 3 (by kernel_rfl)
      obtain ⟨A, cc, hA⟩ := Kd.R_slice h3
      rw [hA] at h3
      have HR := Aside0.mk h3
      refine step_list fun K hK => ?_
      simp only [fill_lit, fillL, Act.put, List.setIfInBounds_toArray, List.set_cons_zero, List.set_cons_succ, Nat.reduceAdd] at hK ⊢
      rw [h0, hA] at hK ⊢
      clear hd h0 h3 hA
      go_wp2
      refine ⟨below_alloc hb _, below_alloc (Below.refl _ _) _, W.heap.size, rfl, ?_⟩
      exact rows_lit W 57 [.slice (some ⟨w.heap.size, 0, none⟩) 32 32, .slice A (numsL [c]).length cc] [d, numsL [c]] (by simp) (fun j x hj => by
        match j, hj with
        | 0, hj =>
          obtain rfl : d = x := by simpa using hj
          exact ⟨_, 32, by rw [HDl.out]; rfl, by rw [HDl.out]; exact Nat.le_refl _, by rw [HDl.out]; exact dig_reads ((hb.block _ (blk_lt HR1.out)).trans HR1.out) HDl.out (by decide)⟩
        | 1, hj =>
          obtain rfl : numsL [c] = x := by simpa using hj
          exact ⟨A, cc, rfl, (Kd.R_reads' HR.out).2.1, (Kd.R_reads' HR.out).2.2⟩
        | j + 2, hj => simp at hj)
    · intro v W hb hd
      have h2 : ∃ g, v 12 = .slice (some ⟨g, 0, none⟩) 2 2 ∧ Kd.C (Kd.slice 5 (Kd.int .u8)) W (some ⟨g, 0, none⟩) 2 [d, numsL [c]] := hd 4 (by kernel_rfl)
      obtain ⟨g, h1, hC⟩ := h2
      have HC := Aside0.mk hC
      refine step_list fun K hK => ?_
      simp only [fill_lit, fillL, Act.put, List.setIfInBounds_toArray, List.set_cons_zero, List.set_cons_succ, Nat.reduceAdd] at hK ⊢
      rw [h1] at hK ⊢
      clear hd h1 hC
      go_wp2_with (fail)
      refine (rjoin_calls (some ⟨g, 0, none⟩) 2 [d, numsL [c]] W HC.out (by rw [join2_len HDl.out]; decide)).mono ?_
      rintro e W' ⟨v0, rfl, hR, hb'⟩
      have HR := Aside0.mk hR
      have HB' := Aside0.mk hb'
      clear hR hb'
      go_wp2_with (fail)
      exact ⟨below_step hb HB'.out, HB'.out, Kd.R_lower HR.out (Nat.le_trans HB1.out.size hb.size)⟩
    · intro v W hb hd
      have h3 : Kd.R (Kd.int .u8) 5 W w.heap.size (fun _ => True) (v 13) (joinL [d, numsL [c]]) := hd 5 (by kernel_rfl)
      obtain ⟨A, cc, hA⟩ := Kd.R_slice h3
      rw [hA] at h3
      have HR := Aside0.mk h3
      have HBw : Aside0 (Below w.heap.size w W) := ⟨below_step HB1.out hb⟩
      refine step_list fun K hK => ?_
      simp only [fill_lit, fillL, Act.put, List.setIfInBounds_toArray, List.set_cons_zero, List.set_cons_succ, Nat.reduceAdd] at hK ⊢
      rw [hA] at hK ⊢
      clear hd h3 hA
      go_wp2_with (fail)
      refine (rsum_calls A cc (joinL [d, numsL [c]]) W (Kd.R_reads' HR.out).2.2 (Kd.R_reads' HR.out).2.1 (join2_bytes HBy.out c) (by rw [join2_len HDl.out]; decide)).mono ?_
      rintro e W' ⟨rfl, hb'⟩
      have HB' := Aside0.mk hb'
      clear hb'
      go_wp2_with (fail)
      exact ⟨below_step hb HB'.out, HB'.out, rfl⟩
    · intro v W hb hd
      refine step_list fun K hK => ?_
      simp only [fill_lit, fillL, Act.put, List.setIfInBounds_toArray, List.set_cons_zero, List.set_cons_succ, Nat.reduceAdd] at hK ⊢
      clear hd
      go_wp2
      rw [z32_lit]
      exact ⟨below_alloc hb _, below_alloc (Below.refl _ _) _, W.heap.size, rfl, heap_alloc_new _ _, hb.size⟩
    · intro v W hb hd
      have h6 : v 14 = .agg (dA (shaV (joinL [d, numsL [c]]))) := hd 6 (by kernel_rfl)
      have h7 : ∃ g, v 5 = .pointer (some ⟨g, 0, none⟩) ∧ W.heap[g]? = some (.cells (dA (List.replicate 32 0)) 23 (0, 0)) ∧ w1.heap.size ≤ g := hd 7 (by kernel_rfl)
      obtain ⟨g, hp, hz, hg⟩ := h7
      have HZ := Aside0.mk hz
      have HGe := Aside0.mk hg
      have HBw : Aside0 (Below w.heap.size w W) := ⟨below_step HB1.out hb⟩
      have HD1 := Aside0.mk (dig_info (shaV_length (joinL [d, numsL [c]])))
      have HD2 : Aside0 ((dA (List.replicate 32 0)).size = (dA (shaV (joinL [d, numsL [c]]))).size) := ⟨by rw [dA_size, dA_size, shaV_length]; rfl⟩
      have HI3 := Aside0.mk (dA_one (shaV (joinL [d, numsL [c]])))
      have HG1 : Aside0 (w.heap.size ≤ g) := ⟨Nat.le_trans HB1.out.size hg⟩
      refine step_list fun K hK => ?_
      simp only [fill_lit, fillL, Act.put, List.setIfInBounds_toArray, List.set_cons_zero, List.set_cons_succ, Nat.reduceAdd] at hK ⊢
      rw [h6, hp] at hK ⊢
      clear hd h6 hp hz hg
      generalize shaV (joinL [d, numsL [c]]) = D at *
      go_wp2_with (with_reducible refine wpList_store_row rfl 23 (.tmp 5) (.tmp 14) rfl g (dA D) rfl rfl 23 _ HZ.out HD1.out HD2.out HI3.out ?_)
      refine hK undef _ ?_
      rw [if_pos trivial]
      go_wp2
      go_meet
      case rel => exact ⟨g, rfl, setRow_heap _ _ _ _ _ _ HZ.out, below_setRow HBw.out HG1.out _⟩
  case rest =>
    obtain ⟨g, rfl, hg, hb⟩ := hcut
    have HG := Aside0.mk hg
    have HB := Aside0.mk hb
    have HDy : Aside0 (∀ x ∈ shaV (joinL [d, numsL [c]]), 0 ≤ x ∧ x < 256) := ⟨shaV_byte _⟩
    have HDn : Aside0 ((shaV (joinL [d, numsL [c]])).length = 32) := ⟨shaV_length _⟩
    have HV : Aside0 (numV d c = rhor (shaV (joinL [d, numsL [c]])) 7) := ⟨rfl⟩
    clear hg hb
    have HH : Aside0 (∀ k, k < 7 → 256 * rhor (shaV (joinL [d, numsL [c]])) k + (shaV (joinL [d, numsL [c]])).getD (k + 1) 0 = rhor (shaV (joinL [d, numsL [c]])) (k + 1)) := ⟨fun k _ => rfl⟩
    generalize shaV (joinL [d, numsL [c]]) = D at *
    have hc0 : wc.cell? ⟨g, 0, none⟩ = some (.int .u8 (D.getD 0 0)) := (blk_cell HG.out 0).trans (dA_get D 0 (by rw [HDn.out]; decide))
    have hr0 : 0 ≤ D.getD 0 0 := (byte_at HDy.out 0).1
    have hr1 : D.getD 0 0 < 256 := (byte_at HDy.out 0).2
    have HR0 : Aside0 (D.getD 0 0 % 128 = rhor D 0) := ⟨rfl⟩
    generalize D.getD 0 0 = x0 at *
    go_wp2_with (fail)
    rw [HR0.out]
    go_loop [6, 7] (fun n i => ∃ k : Nat, k ≤ 7 ∧ i = .int .i64 ((k : Int) + 1) ∧ n = .int .i64 (rhor D k)) (fun _ i => 8 - (intOf i).toNat)
    case atStart => exact ⟨0, by decide, rfl, rfl⟩
    case round =>
      obtain ⟨k, hk, rfl, rfl⟩ := hrel
      clear hc0 hr0 hr1
      by_cases hlt : k < 7
      · obtain ⟨s1, s2⟩ := rhor_step HDy.out k hlt
        have hc : wc.cell? ⟨g, k + 1, none⟩ = some (.int .u8 (D.getD (k + 1) 0)) := (blk_cell HG.out (k + 1)).trans (dA_get D (k + 1) (by rw [HDn.out]; omega))
        have hx0 := (byte_at HDy.out (k + 1)).1
        have hx1 := (byte_at HDy.out (k + 1)).2
        have HS : Aside0 (rhor D (k + 1) = rhor D (k + 1)) := ⟨rfl⟩
        obtain ⟨y, hy⟩ : ∃ y, y = rhor D (k + 1) := ⟨_, rfl⟩
        rw [← hy] at s2
        have HY := Aside0.mk hy
        clear hy HS
        generalize D.getD (k + 1) 0 = z at *
        generalize rhor D k = h at *
        go_wp2
        refine ⟨⟨k + 1, by omega, by go_num, by rw [← HY.out]⟩, by simp [intOf]; omega⟩
      · obtain rfl : k = 7 := by omega
        go_wp2
        go_ret
        exact ⟨congrArg (fun x => Ending.returned (Value.int .i64 x)) HV.out.symm, HB.out⟩
end Go.Proofs.YtdmeocoehahopaaDoor.Draw
namespace Go.Proofs.YtdmeocoehahopaaDoor.Sha
open Go.RowKit Go.Proofs.YtdmeocoehahopaaDoorW.PrintWords Go.Proofs.YtdmeocoehahopaaDoor.K
def firstL : List Int := [1779033703, 3144134277, 1013904242, 2773480762, 1359893119, 2600822924, 528734635, 1541459225]
def constantsL : List Int := (1116352408 :: 1899447441 :: 3049323471 :: 3921009573 :: 961987163 :: 1508970993 :: 2453635748 :: 2870763221 :: 3624381080 :: 310598401 :: 607225278 :: 1426881987 :: 1925078388 :: 2162078206 :: 2614888103 :: 3248222580 :: 3835390401 :: 4022224774 :: 264347078 :: 604807628 :: 770255983 :: 1249150122 :: 1555081692 :: 1996064986 :: 2554220882 :: 2821834349 :: 2952996808 :: 3210313671 :: 3336571891 :: 3584528711 :: 113926993 :: 338241895 :: 666307205 :: 773529912 :: 1294757372 :: 1396182291 :: 1695183700 :: 1986661051 :: 2177026350 :: 2456956037 :: 2730485921 :: 2820302411 :: 3259730800 :: 3345764771 :: 3516065817 :: 3600352804 :: 4094571909 :: 275423344 :: 430227734 :: 506948616 :: 659060556 :: 883997877 :: 958139571 :: 1322822218 :: 1537002063 :: 1747873779 :: 1955562222 :: 2024104815 :: 2227730452 :: 2361852424 :: 2428436474 :: 2756734187 :: 3204031479 :: 3329325298 :: [])
set_option maxRecDepth 100000 in
theorem first_arr : (nums .u32 firstL).toArray = firstA := by
  have h : firstL = init.l.map wi := by decide +kernel
  rw [h]
  rfl
set_option maxRecDepth 100000 in
theorem constants_arr : (nums .u32 constantsL).toArray = constA := by
  have h : constantsL = kL.map wi := by decide +kernel
  rw [h]
  rfl
end Go.Proofs.YtdmeocoehahopaaDoor.Sha
namespace Go.Proofs.YtdmeocoehahopaaDoor.K
open Go.RowKit Go.ChangeShapes Go.WideShapes Go.ChangeAt Go.Proofs.YtdmeocoehahopaaDoorW.PrintWords
/-- A cell's number. -/
def intOfV : Value → Int
  | .int _ n => n
  | _ => 0
theorem arr_cells {H : Type} {enc : TypeId × Value → H} {P : Program} {W : World} {base N fuel : Nat} {sp : Nat → Bool} {held : Bool} {t E : TypeId} {k : IntKind} {cs : List Value} {x : DataW H × List MemPlace}
    (ht : P.underlying t = some (.array N E)) (hE : P.underlying E = some (.int k)) (hc : P.cellsOf E = 1) (hct : P.cellsOf t = N)
    (hf : DataW.trod enc P W base sp held fuel t cs = some x) : ∃ xs : List Int, cs = nums k xs ∧ xs.length = N ∧ ∀ n ∈ xs, (Lit.int k n).wf = true := by
  obtain ⟨ys, m, _, _, hl, hn, hel⟩ := DataW.trod_array ht hf
  rw [hct] at hl
  have key : ∀ i (h : i < cs.length), ∃ n, cs[i] = .int k n ∧ (Lit.int k n).wf = true := by
    intro i h
    have h3 := hel i (by omega)
    rw [hc, Nat.mul_one, List.drop_eq_getElem_cons h, List.take_succ_cons, List.take_zero, List.getElem?_eq_getElem (by omega)] at h3
    obtain ⟨n, e1, _, e3⟩ := DataW.trod_int hE h3
    exact ⟨n, by simpa using e1, e3⟩
  refine ⟨cs.map intOfV, ?_, by rw [List.length_map, hl], ?_⟩
  · refine List.ext_getElem (by simp [nums]) fun i h1 h2 => ?_
    obtain ⟨n, e, _⟩ := key i h1
    simp [nums, e, intOfV]
  · intro n hm
    obtain ⟨v, hv, rfl⟩ := List.mem_map.1 hm
    obtain ⟨i, hi, rfl⟩ := List.getElem_of_mem hv
    obtain ⟨n, e, hw⟩ := key i hi
    rw [e]
    exact hw
theorem open_dig {H : Type} {enc : TypeId × Value → H} {P : Program} {W : World} {base b0 N : Nat} {r : Reach} {sp : Nat → Bool} {held : Bool} {t E : TypeId} {k : IntKind} {v : Value} {d : DataW H} {ps : List MemPlace}
    (ht : P.underlying t = some (.array N E)) (hE : P.underlying E = some (.int k)) (hc : P.cellsOf E = 1) (hct : P.cellsOf t = N) (hval : Value.okWide P W r b0 t v)
    (h : DataW.Trod enc P W base sp held t v d ps) : ∃ xs : List Int, v = .agg (nums k xs).toArray ∧ xs.length = N ∧ ∀ n ∈ xs, (Lit.int k n).wf = true := by
  simp only [Value.okWide, ht] at hval
  obtain ⟨cs, rfl, _, _⟩ := hval
  obtain ⟨fuel, hf⟩ := h
  obtain ⟨xs, e, h1, h2⟩ := arr_cells ht hE hc hct hf
  refine ⟨xs, ?_, h1, h2⟩
  rw [← e]
  simp [Value.cells]
end Go.Proofs.YtdmeocoehahopaaDoor.K
namespace Go.Proofs.YtdmeocoehahopaaDoor.K
open Go.RowKit Go.ChangeShapes Go.WideShapes Go.ChangeAt Go.Proofs.YtdmeocoehahopaaDoorW.PrintWords Go.Proofs.YtdmeocoehahopaaDoorW.PrintLast Go.Proofs.YtdmeocoehahopaaDoorW.PrintMore
theorem open_bss {H : Type} {enc : TypeId × Value → H} {P : Program} {W : World} {base : Nat} {held : Bool} {t e q E : TypeId} {k : IntKind} {a : Option Addr} {len cap : Nat} {d : DataW H} {ps : List MemPlace}
    (ht : P.underlying t = some (.slice e)) (he : P.underlying e = some (.slice q)) (hq : P.underlying q = some (.int k)) (ce : P.cellsOf e = 1) (cq : P.cellsOf q = 1)
    (h : DataW.Trod enc P W base (fun _ => true) held t (.slice a len cap) d ps) :
    ∃ xs : List (List Int), Kd.C (Kd.slice E (Kd.int k)) W a len xs ∧ len ≤ cap ∧ ∀ x ∈ xs, ∀ n ∈ x, (Lit.int k n).wf = true := by
  obtain ⟨fuel, hf⟩ := h
  rcases Deep.open_int_rows ht he hq ce cq hf with ⟨hcs, _⟩ | ⟨x, l, c, A, L, C, Z, hcs, _, hl, hm, _, hrow⟩
  · simp [Value.cells] at hcs
    obtain ⟨rfl, rfl, rfl⟩ := hcs
    exact ⟨[], ⟨rfl, by decide, fun h => absurd h (by decide)⟩, Nat.le_refl _, fun x hx => by simp at hx⟩
  · simp [Value.cells] at hcs
    obtain ⟨rfl, rfl, rfl⟩ := hcs
    unfold maxLen at hm
    have hlen : ∀ r, r < cap → ((Z r).take (L r)).length = L r := fun r hr => by
      obtain ⟨_, h1, _, h2, _⟩ := hrow r hr
      rw [List.length_take, h2]
      omega
    refine ⟨(List.range len).map fun r => (Z r).take (L r), ⟨by simp, by omega, fun _ => ⟨x, rfl, fun j p hj => ?_⟩⟩, hl, ?_⟩
    · have hj' : j < len := by have := (List.getElem?_eq_some_iff.1 hj).1; simpa using this
      have hp : p = (Z j).take (L j) := by simpa [List.getElem?_map, List.getElem?_range hj'] using hj.symm
      subst hp
      obtain ⟨h1, h2, h3, h4, h5, h6, h7⟩ := hrow j (by omega)
      have hlj := hlen j (by omega)
      refine ⟨[.slice (A j) (L j) (C j)], rfl, ⟨A j, C j, by rw [hlj], by rw [hlj]; exact h2, C_int ?_⟩, fun i u hu => ?_⟩
      · rw [hlj]
        unfold maxLen at h3
        refine ⟨hlj, by omega, fun hp => ?_⟩
        cases hA : A j with
        | none => have := h6 hA; omega
        | some a' =>
          refine ⟨a', rfl, fun i hi => ?_⟩
          rw [(h7 a' hA).2 i (by omega)]
          simp [List.getD_eq_getElem?_getD, hi]
      · obtain ⟨rfl, rfl⟩ : i = 0 ∧ u = .slice (A j) (L j) (C j) := by
          cases i with
          | zero => exact ⟨rfl, by simpa using hu.symm⟩
          | succ i => simp at hu
        have : j * (Kd.slice E (Kd.int k)).sz + 0 = j := by show j * 1 + 0 = j; omega
        rw [this]
        exact h1
    · intro y hy n hn
      obtain ⟨r, hr, rfl⟩ := List.mem_map.1 hy
      have hr' : r < cap := by have := List.mem_range.1 hr; omega
      exact (hrow r hr').2.2.2.2.1 n (List.mem_of_mem_take hn)
theorem open_is {H : Type} {enc : TypeId × Value → H} {P : Program} {W : World} {base : Nat} {held : Bool} {t e : TypeId} {k : IntKind} {a : Option Addr} {len cap : Nat} {d : DataW H} {ps : List MemPlace}
    (ht : P.underlying t = some (.slice e)) (he : P.underlying e = some (.int k)) (ce : P.cellsOf e = 1)
    (h : DataW.Trod enc P W base (fun _ => true) held t (.slice a len cap) d ps) :
    ∃ xs : List Int, Kd.C (Kd.int k) W a len xs ∧ len ≤ cap ∧ ∀ n ∈ xs, (Lit.int k n).wf = true := by
  obtain ⟨fuel, hf⟩ := h
  rcases open_ints ht he ce hf with ⟨hcs, _⟩ | ⟨x, l, c, zs, hcs, _, hl, hm, hz, _, hcell, hwz⟩
  · simp [Value.cells] at hcs
    obtain ⟨rfl, rfl, rfl⟩ := hcs
    exact ⟨[], C_int ⟨rfl, by decide, fun h => absurd h (by decide)⟩, Nat.le_refl _, fun x hx => by simp at hx⟩
  · simp [Value.cells] at hcs
    obtain ⟨rfl, rfl, rfl⟩ := hcs
    unfold maxLen at hm
    simp only [if_true] at hz
    have hl1 : (zs.take len).length = len := by rw [List.length_take, hz]; omega
    refine ⟨zs.take len, C_int ⟨hl1, by omega, fun _ => ⟨x, rfl, fun i hi => ?_⟩⟩, hl, fun n hn => hwz n (List.mem_of_mem_take hn)⟩
    rw [hcell i (by omega)]
    simp [List.getD_eq_getElem?_getD, hi]
theorem byte_wf {xs : List Int} (h : ∀ n ∈ xs, (Lit.int .u8 n).wf = true) : ∀ x ∈ xs, 0 ≤ x ∧ x < 256 := fun x hx => by
  have := h x hx
  simp only [Lit.wf, Bool.and_eq_true, decide_eq_true_eq] at this
  have h1 : IntKind.u8.min = 0 := by decide
  have h2 : IntKind.u8.max = 255 := by decide
  omega
theorem wf_range {x : Int} (h : (Lit.int .i64 x).wf = true) : -9223372036854775808 ≤ x ∧ x ≤ 9223372036854775807 := by
  simp only [Lit.wf, Bool.and_eq_true, decide_eq_true_eq] at h
  have h1 : IntKind.i64.min = -9223372036854775808 := by decide
  have h2 : IntKind.i64.max = 9223372036854775807 := by decide
  omega
end Go.Proofs.YtdmeocoehahopaaDoor.K
namespace Go.Proofs.YtdmeocoehahopaaDoor.Laid
open Go.RowKit Go.Proofs.YtdmeocoehahopaaDoorW.PrintWords Go.Proofs.YtdmeocoehahopaaDoor.K
set_option linter.unusedVariables false
theorem laidVars_mem {P : Program} {w : World} {n : String} {d : DataW Unit} : ∀ {l : List (String × DataW Unit)} {ps : List MemPlace}, DataW.LaidVars P w l ps → (n, d) ∈ l →
    ∃ g t cs fuel p, P.globalNamed n = some g ∧ (P.globals[g]?).map (·.type) = some t ∧ w.var? P n = some cs ∧ DataW.trod (fun _ => ()) P w 0 (fun _ => true) false fuel t cs.toList = some (d, p) := by
  intro l
  induction l with
  | nil => intro ps _ h; cases h
  | cons x l ih =>
    intro ps h hm
    obtain ⟨m, y⟩ := x
    obtain ⟨g, t, cs, fuel, p, q, h1, h2, h3, h4, h5, _⟩ := h
    rcases List.mem_cons.1 hm with e | e
    · cases e
      exact ⟨g, t, cs, fuel, p, h1, h2, h3, h4⟩
    · exact ih h5 e
theorem lit_of_trod {H : Type} {enc : TypeId × Value → H} {P : Program} {w : World} {base : Nat} {sp : Nat → Bool} {held : Bool} {fuel : Nat} {t : TypeId} {k : IntKind} {c : Value} {y : DataW H × List MemPlace}
    (ht : P.underlying t = some (.int k)) (h : DataW.trod enc P w base sp held fuel t [c] = some y) : ∃ n, c = .int k n ∧ y = (.lit (.int k n), []) := by
  cases fuel with
  | zero => simp [DataW.trod] at h
  | succ fuel =>
    cases c <;> simp [DataW.trod, ht] at h
    rename_i k' n
    obtain ⟨⟨rfl, _⟩, rfl⟩ := h
    exact ⟨n, rfl, rfl⟩
theorem ints_cells {P : Program} {w : World} {sp : Nat → Bool} {fuel : Nat} {t E : TypeId} {k : IntKind} {N : Nat} {cs : List Value} {xs : List Int} {p : List MemPlace}
    (ht : P.underlying t = some (.array N E)) (hE : P.underlying E = some (.int k)) (hc : P.cellsOf E = 1) (hct : P.cellsOf t = N)
    (h : DataW.trod (fun _ => ()) P w 0 sp false fuel t cs = some (.agg (xs.map fun x => .lit (.int k x)), p)) : cs = nums k xs := by
  obtain ⟨ys, m, _, hx, hl, hn, hel⟩ := DataW.trod_array ht h
  simp only [Prod.mk.injEq, DataW.agg.injEq] at hx
  obtain ⟨hx, _⟩ := hx
  have hlen : xs.length = N := by have := congrArg List.length hx; simpa [hn] using this
  rw [hct] at hl
  refine List.ext_getElem (by rw [hl, nums, List.length_map, hlen]) fun i h1 h2 => ?_
  have hi : i < N := by omega
  have h3 := hel i hi
  rw [hc, Nat.mul_one, List.drop_eq_getElem_cons h1, List.take_succ_cons, List.take_zero, List.getElem?_eq_getElem (by omega)] at h3
  obtain ⟨n, e1, e2⟩ := lit_of_trod hE h3
  have h4 := congrArg (·[i]?) hx
  simp only [List.getElem?_map] at h4
  rw [List.getElem?_eq_getElem (by omega), List.getElem?_eq_getElem (by omega), Option.map_some, Option.map_some, e2] at h4
  simp at h4
  rw [e1, ← h4]
  simp [nums]
theorem laidAt_of {P : Program} {W : World} {l : List (String × DataW Unit)} {n : String} {g N : Nat} {t E : TypeId} {k : IntKind} {xs : List Int}
    (h : laidMetH P l W) (hp : (l.all fun x => x.2.handleName?.isNone) = true) (hm : (n, DataW.agg (xs.map fun x => .lit (.int k x))) ∈ l) (hg : P.globalNamed n = some g) (hgt : (P.globals[g]?).map (·.type) = some t)
    (ht : P.underlying t = some (.array N E)) (hE : P.underlying E = some (.int k)) (hc : P.cellsOf E = 1) (hct : P.cellsOf t = N) : LaidAt W g (nums k xs).toArray := by
  rw [MakeChecks.laidMetH_plain _ _ _ hp] at h
  obtain ⟨ps, hv, _⟩ := h
  obtain ⟨g', t', cs, fuel, p, h1, h2, h3, h4⟩ := laidVars_mem hv hm
  obtain rfl := Option.some.inj (hg.symm.trans h1)
  obtain rfl := Option.some.inj (hgt.symm.trans h2)
  have h5 := ints_cells ht hE hc hct h4
  have h6 : cs = (nums k xs).toArray := by rw [← h5]
  subst h6
  simp only [World.var?, h1, Option.bind_some] at h3
  split at h3
  · rename_i c t2 fr hh
    cases h3
    exact ⟨t2, fr, hh⟩
  · cases h3
theorem i64_b {a : Int} (h : (Lit.int .i64 a).wf = true) : -9223372036854775808 ≤ a ∧ a ≤ 9223372036854775807 := by
  have h2 : (decide (-9223372036854775808 ≤ a) && decide (a ≤ 9223372036854775807)) = true := h
  simpa using h2
end Go.Proofs.YtdmeocoehahopaaDoor.Laid
