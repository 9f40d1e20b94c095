/- The walk of Near and Order: pure laws, and two ways that come together: whatever the numbers, it answers true. -/
import Derived.Test.YtjlnjknmiojfoaaDoorFixed5
namespace Go.Proofs.YtjlnjknmiojfoaaDoor.Fixed
open Go.RowKit Go.Proofs.YtjlnjknmiojfoaaDoorW.PrintWords Go.Proofs.YtjlnjknmiojfoaaDoorW.PrintLast Go.Proofs.YtjlnjknmiojfoaaDoorW.PrintMore Go.Proofs.YtjlnjknmiojfoaaDoor.K
set_option linter.unusedVariables false
structure Stopped (p : Prop) : Prop where
  out : p
theorem wp_stop {P : Program} {x y z : Code} {Q : Exit → Act → World → Prop} {a : Act} {w : World} (h : Stopped ((Code.seq (Code.seq x y) z).wp P Q a w)) : (Code.seq (Code.seq x y) z).wp P Q a w := h.out
theorem wp_join {P : Program} {x y : Code} {Q : Exit → Act → World → Prop} {a : Act} {w : World} (F : (Nat → Value) → Act) (R : World → Prop) (hJ : ∀ u w, R w → y.wp P Q (F u) w)
    (h : ∀ K : Act → World → Prop, Aside0 (∀ a w, a = F (fun i => a.tmps.toList.getD i undef) → R w → K a w) → x.wp P (Exit.then K Q) a w) : Stopped ((Code.seq x y).wp P Q a w) :=
  ⟨wp_seq (h _ ⟨fun a w e r => by rw [e]; exact hJ _ w r⟩)⟩
theorem told_ok {x n : Int} (h : toldV x = (n, 0)) : n = x ∧ inR x = true := by
  unfold toldV at h
  split at h
  · rename_i hx
    simp at h
    exact ⟨h.symm, hx⟩
  · simp at h
theorem add_ok {a b n : Int} (h : addV a b = (n, 0)) : n = a + b ∧ inR a = true ∧ inR b = true ∧ inR (a + b) = true := by
  unfold addV at h
  split at h
  · rename_i hx
    obtain ⟨h1, h2⟩ := told_ok h
    exact ⟨h1, hx.1, hx.2, h2⟩
  · simp at h
theorem mul_ok {a b n : Int} (h : mulV a b = (n, 0)) : n = prodV a b ∧ inR a = true ∧ inR b = true ∧ inR (prodV a b) = true := by
  unfold mulV at h
  split at h
  · rename_i hx
    obtain ⟨h1, h2⟩ := told_ok h
    exact ⟨h1, hx.1, hx.2, h2⟩
  · simp at h
theorem div_ok {a b n : Int} (h : divV a b = (n, 0)) : b ≠ 0 ∧ n = Int.fdiv (a * 65536) b ∧ inR a = true ∧ inR b = true ∧ inR (Int.fdiv (a * 65536) b) = true := by
  unfold divV at h
  split at h
  · rename_i hx
    split at h
    · simp at h
    · rename_i hb
      obtain ⟨h1, h2⟩ := told_ok h
      exact ⟨hb, h1, hx.1, hx.2, h2⟩
  · simp at h
theorem addV_comm (a b : Int) : addV a b = addV b a := by
  unfold addV
  rw [Int.add_comm]
  by_cases h : inR a = true ∧ inR b = true
  · rw [if_pos h, if_pos ⟨h.2, h.1⟩]
  · rw [if_neg h, if_neg (fun k => h ⟨k.2, k.1⟩)]
theorem mulV_comm (a b : Int) : mulV a b = mulV b a := by
  unfold mulV prodV
  rw [Int.mul_comm]
  by_cases h : inR a = true ∧ inR b = true
  · rw [if_pos h, if_pos ⟨h.2, h.1⟩]
  · rw [if_neg h, if_neg (fun k => h ⟨k.2, k.1⟩)]
theorem add_mono {a b c n m : Int} (h : a ≤ b) (h1 : addV a c = (n, 0)) (h2 : addV b c = (m, 0)) : n ≤ m := by
  have := (add_ok h1).1
  have := (add_ok h2).1
  omega
theorem mul_mono {a b c n m : Int} (h : a ≤ b) (h1 : mulV a c = (n, 0)) (h2 : mulV b c = (m, 0)) : (0 ≤ c → n ≤ m) ∧ (c ≤ 0 → m ≤ n) := by
  have e1 := (mul_ok h1).1
  have e2 := (mul_ok h2).1
  unfold prodV at e1 e2
  exact ⟨fun hc => by have := Int.mul_le_mul_of_nonneg_right h hc; omega, fun hc => by have := Int.mul_le_mul_of_nonpos_right h hc; omega⟩
theorem div_mono {a b c n m : Int} (h : a ≤ b) (h1 : divV a c = (n, 0)) (h2 : divV b c = (m, 0)) : (0 < c → n ≤ m) ∧ (c < 0 → m ≤ n) := by
  have e1 := (div_ok h1).2.1
  have e2 := (div_ok h2).2.1
  refine ⟨fun hc => ?_, fun hc => ?_⟩
  · rw [Int.fdiv_eq_ediv_of_nonneg _ (Int.le_of_lt hc)] at e1 e2
    rw [e1, e2]
    exact Int.ediv_le_ediv hc (by omega)
  · rw [fdiv_neg _ _ hc] at e1 e2
    rw [e1, e2]
    exact Int.ediv_le_ediv (by omega) (by omega)
theorem root_mono {a b u v : Int} (h : a ≤ b) (h1 : rootP a u) (h2 : rootP b v) : u ≤ v := by
  have := sq_lt (a := u) (b := v + 1) h1.1 (by have := h1.2.1; have := h2.2.2; omega) (by have := h2.1; omega)
  omega
theorem Root_any (n : Int) : ∃ r k, (k = 0 → rootP n r) ∧ ∀ w : World, Calls Tryd.prog 10 #[.int .i64 n] w fun e w' => e = .returned (.tuple #[.int .i64 r, .int .i64 k]) ∧ Below w.heap.size w w' := by
  by_cases h : 0 ≤ n ∧ n ≤ 2147483647
  · obtain ⟨r, hr⟩ := rootP_ex n h.1 h.2
    exact ⟨r, 0, fun _ => hr, fun w => Root_calls n w h.1 h.2 r hr⟩
  · exact ⟨0, 10, fun h => absurd h (by decide), fun w => Root_bad_calls n w h⟩
/-- What is added is taken away again. -/
theorem add_back {a b n : Int} (h : addV a b = (n, 0)) (hb : b ≠ -2147483648) : addV n (-b) = (a, 0) := by
  obtain ⟨h1, h2, h3, h4⟩ := add_ok h
  obtain ⟨b1, b2⟩ := inR_true h3
  unfold addV
  rw [if_pos ⟨by rw [h1]; exact h4, by unfold inR; simp; omega⟩, show n + -b = a by omega]
  unfold toldV
  rw [if_pos h2]
theorem add_least {n : Int} : addV n 2147483648 = (0, 10) := by
  unfold addV
  rw [if_neg (fun k => by have := k.2; revert this; decide)]
theorem div_near {a b p x : Int} (h : mulV a b = (p, 0)) (hd : divV p b = (x, 0)) (s : Int) (hs : s = if b < 0 then -b else b) : x - a ≤ 32768 / s + 1 ∧ a - x ≤ 32768 / s + 1 := by
  have e1 := (mul_ok h).1
  obtain ⟨hb, e2, _⟩ := div_ok hd
  unfold prodV at e1
  obtain ⟨q, hq⟩ : ∃ q, a * b = q := ⟨_, rfl⟩
  rw [hq] at e1
  have hd1 : -32768 ≤ p * 65536 - q ∧ p * 65536 - q ≤ 32768 := by omega
  obtain ⟨d, hdd⟩ : ∃ d, p * 65536 - q = d := ⟨_, rfl⟩
  rw [hdd] at hd1
  have key : ∀ t s : Int, 0 < s → -32768 ≤ t → t ≤ 32768 → t / s ≤ 32768 / s + 1 ∧ -(t / s) ≤ 32768 / s + 1 := by
    intro t s hs h1 h2
    refine ⟨by have := Int.ediv_le_ediv hs h2; omega, ?_⟩
    have h3 : (-32768) / s ≤ t / s := Int.ediv_le_ediv hs h1
    have h4 : -(32768 / s + 1) ≤ (-32768) / s := by
      rw [Int.le_ediv_iff_mul_le hs, Int.neg_mul, Int.add_mul, Int.one_mul]
      have h5 := Int.emod_add_mul_ediv 32768 s
      have h6 := Int.emod_lt_of_pos 32768 hs
      rw [Int.mul_comm] at h5
      omega
    omega
  rcases Int.lt_or_le b 0 with hn | hn
  · rw [if_pos hn] at hs
    rw [fdiv_neg _ _ hn] at e2
    have h6 : -(p * 65536) = (-d) + a * s := by rw [hs, Int.mul_neg, hq]; omega
    rw [← hs, h6, Int.add_mul_ediv_right _ _ (by omega)] at e2
    obtain ⟨k1, k2⟩ := key (-d) s (by omega) (by omega) (by omega)
    omega
  · rw [if_neg (by omega)] at hs
    rw [Int.fdiv_eq_ediv_of_nonneg _ hn] at e2
    have h6 : p * 65536 = d + a * s := by rw [hs, hq]; omega
    rw [← hs, h6, Int.add_mul_ediv_right _ _ (by omega)] at e2
    obtain ⟨k1, k2⟩ := key d s (by omega) (by omega) (by omega)
    omega
end Go.Proofs.YtjlnjknmiojfoaaDoor.Fixed
