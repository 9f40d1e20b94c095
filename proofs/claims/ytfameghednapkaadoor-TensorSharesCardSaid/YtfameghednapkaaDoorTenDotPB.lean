/- tensor: the reference's Dot, in plain Lean. -/
import Derived.Test.YtfameghednapkaaDoorBunT3
import Derived.Test.YtfameghednapkaaDoorPTensorDotsx1
namespace Go.Proofs.YtfameghednapkaaDoor.Ten
open Go.RowKit Go.Proofs.YtfameghednapkaaDoorW.PrintWords Go.Proofs.YtfameghednapkaaDoorW.PrintLast Go.Proofs.YtfameghednapkaaDoorW.PrintMore Go.Proofs.YtfameghednapkaaDoor.K Go.Proofs.YtfameghednapkaaDoor.Fixed Go.Proofs.YtfameghednapkaaDoor.PTensorDots
set_option linter.unusedVariables false
set_option linter.unusedSimpArgs false
theorem w64_in (x : Int) (h0 : -9223372036854775808 ≤ x) (h1 : x < 9223372036854775808) : wrap64 x = x := by
  rw [wrap64]
  omega
theorem rweight_f (x : Int) : cupelref07_Weight.f x = some (isW x) := by
  unfold cupelref07_Weight.f isW
  by_cases h : -16777216 ≤ x
  · rw [if_pos h]
    simp [h]
  · rw [if_neg h]
    simp [h]
theorem ris_f (x : Int) : cupelref06_Is.f x = some (inR x) := by
  unfold cupelref06_Is.f inR
  by_cases h : -2147483648 ≤ x
  · rw [if_pos h]
    simp [h]
  · rw [if_neg h]
    simp [h]
theorem rtold_f (x : Int) : cupelref07_told.f x = some (toldV x) := by
  unfold cupelref07_told.f
  rw [ris_f]
  simp only [Option.bind_some]
  unfold toldV
  split <;> rfl
theorem rround_f (x : Int) (h0 : -4611686018427387904 ≤ x) (h1 : x ≤ 4611686018427387904) : cupelref06_Round.f x = some (rndV x) := by
  have hw : wrap64 (x + 32768) = x + 32768 := w64_in _ (by omega) (by omega)
  unfold cupelref06_Round.f cupelref06_Floor.f
  rw [hw, if_neg (by decide)]
  have h2 : Int.tmod (x + 32768) 65536 = if 0 ≤ x + 32768 then (x + 32768) % 65536 else -((-(x + 32768)) % 65536) := by
    split
    · rename_i h; exact Int.tmod_eq_emod_of_nonneg h
    · rename_i h
      rw [show x + 32768 = -(-(x + 32768)) by omega, Int.neg_tmod, Int.tmod_eq_emod_of_nonneg (by omega), Int.neg_neg]
  have h3 : Int.tdiv (x + 32768) 65536 = if 0 ≤ x + 32768 then (x + 32768) / 65536 else -((-(x + 32768)) / 65536) := by
    split
    · rename_i h; exact Int.tdiv_eq_ediv_of_nonneg h
    · rename_i h
      rw [show x + 32768 = -(-(x + 32768)) by omega, Int.neg_tdiv, Int.tdiv_eq_ediv_of_nonneg (by omega), Int.neg_neg]
  rw [h2, h3]
  have hw2 : ∀ y : Int, -4611686018427387904 ≤ y → y ≤ 4611686018427387904 → wrap64 y = y := fun y _ _ => w64_in _ (by omega) (by omega)
  unfold rndV
  by_cases hx : 0 ≤ x + 32768
  · rw [if_pos hx, if_pos hx, if_neg (by omega), hw2 _ (by omega) (by omega)]
    rfl
  · rw [if_neg hx, if_neg hx]
    by_cases hy : -(-(x + 32768) % 65536) < 0
    · rw [if_pos hy, hw2 (-(-(x + 32768) / 65536)) (by omega) (by omega), hw2 _ (by omega) (by omega)]
      simp only [Option.bind_some]
      congr 1
      omega
    · rw [if_neg hy, hw2 _ (by omega) (by omega)]
      simp only [Option.bind_some]
      congr 1
      omega
theorem rd_nat (l : List Int) (k : Nat) : rd l (k : Int) = l.getD k 0 := rfl
theorem dot_end (r v : List Int) (hr : r.all isW = true) (hv : v.all inR = true) (hn : v.length ≤ 64) : cupelref07_Dot.l0 1 r v (dotS r v v.length) (v.length : Int) = some (rtV (dotS r v v.length)) := by
  have hb := dotS_bd hr hv v.length
  generalize dotS r v v.length = s at *
  unfold cupelref07_Dot.l0
  rw [if_neg (by omega), rround_f s (by omega) (by omega)]
  simp only [Option.bind_some]
  rw [rtold_f]
  rfl
theorem dot_step (r v : List Int) (m k : Nat) (s s' : Int) (hl : r.length = v.length) (hk : k < v.length) (hn : v.length ≤ 64) (hw : isW (r.getD k 0) = true) (hq : inR (v.getD k 0) = true) (h1 : wrap64 (s + wrap64 (r.getD k 0 * v.getD k 0)) = s') :
    cupelref07_Dot.l0 (m + 1) r v s (k : Int) = cupelref07_Dot.l0 m r v s' ((k + 1 : Nat) : Int) := by
  rw [cupelref07_Dot.l0]
  rw [if_pos (by omega), if_pos (by omega), if_pos (by omega), rweight_f, rd_nat, hw]
  simp only [Option.bind_some, if_true]
  rw [ris_f, rd_nat, hq]
  simp only [Option.bind_some, if_true]
  rw [h1, w64_in ((k : Int) + 1) (by omega) (by omega), Int.natCast_add]
  rfl
theorem dot_good (r v : List Int) (hl : r.length = v.length) (hn : v.length ≤ 64) (hr : r.all isW = true) (hv : v.all inR = true) (m : Nat) : ∀ k : Nat, m + k = v.length → cupelref07_Dot.l0 (m + 1) r v (dotS r v k) (k : Int) = some (rtV (dotS r v v.length)) := by
  induction m with
  | zero => 
    intro k h
    obtain rfl : k = v.length := by omega
    exact dot_end r v hr hv hn
  | succ m ih =>
    intro k h
    have hb := dotS_bd hr hv (k + 1)
    have h1 := getD_w hr k
    have h2 := getD_r hv k
    have hx := mul_bd (A := 16777216) (B := 2147483648) h1 (show -2147483648 ≤ v.getD k 0 ∧ v.getD k 0 ≤ 2147483648 by omega) (by decide) (by decide)
    have hS : dotS r v (k + 1) = dotS r v k + r.getD k 0 * v.getD k 0 := rfl
    rw [dot_step r v (m + 1) k (dotS r v k) (dotS r v (k + 1)) hl (by omega) hn (decide_eq_true h1) (decide_eq_true h2) (by
      rw [w64_in (r.getD k 0 * v.getD k 0) (by omega) (by omega), w64_in _ (by omega) (by omega)]
      exact hS.symm)]
    exact ih (k + 1) (by omega)
theorem dot_wrong (r v : List Int) (hl : r.length = v.length) (hn : v.length ≤ 64) : ∀ (m k : Nat) (s : Int), m + k = v.length → (∃ i, k ≤ i ∧ i < v.length ∧ (isW (r.getD i 0) = false ∨ inR (v.getD i 0) = false)) → cupelref07_Dot.l0 (m + 1) r v s (k : Int) = some (0, 10)
  | 0, k, s, h, ⟨i, h1, h2, _⟩ => by omega
  | m + 1, k, s, h, ⟨i, h1, h2, h3⟩ => by
    unfold cupelref07_Dot.l0
    rw [if_pos (by omega), if_pos (by omega), if_pos (by omega), rweight_f, rd_nat]
    simp only [Option.bind_some]
    cases hw : isW (r.getD k 0) with
    | false => rfl
    | true =>
      simp only [if_true]
      rw [ris_f, rd_nat]
      simp only [Option.bind_some]
      cases hq : inR (v.getD k 0) with
      | false => rfl
      | true =>
        simp only [if_true]
        rw [w64_in ((k : Int) + 1) (by omega) (by omega)]
        have h9 := fun s h => dot_wrong r v hl hn m (k + 1) s (by omega) ⟨i, h, h2, h3⟩
        rw [show ((k + 1 : Nat) : Int) = (k : Int) + 1 from Int.natCast_add k 1] at h9
        refine h9 _ ?_
        clear h9
        rcases Nat.lt_or_ge k i with h8 | h8
        · omega
        · obtain rfl : i = k := by omega
          rw [hw, hq] at h3
          simp at h3
theorem all_false {p : Int → Bool} {l : List Int} (h : l.all p = false) : ∃ i, i < l.length ∧ p (l.getD i 0) = false := by
  induction l with
  | nil => simp at h
  | cons x t ih =>
    rw [List.all_cons] at h
    cases hx : p x with
    | false => exact ⟨0, by simp, hx⟩
    | true =>
      rw [hx, Bool.true_and] at h
      obtain ⟨i, h1, h2⟩ := ih h
      exact ⟨i + 1, by simpa using h1, h2⟩
theorem rdot_f (r v : List Int) : cupelref07_Dot.f (v.length + 2) r v = some (dotV r v) := by
  have hj : ∀ b, cupelref07_Dot.j0 (v.length + 2) r v b = if b = true then some (0, 13) else cupelref07_Dot.l0 (v.length + 1) r v 0 0 := fun b => by rw [cupelref07_Dot.j0]
  unfold cupelref07_Dot.f dotV
  by_cases h1 : r.length = v.length
  · rw [if_pos (by omega)]
    by_cases h2 : v.length = 0
    · rw [if_pos (by omega), hj, if_pos rfl, if_pos (.inr (.inl h2))]
    · rw [if_neg (by omega), hj]
      by_cases h3 : 64 < v.length
      · rw [if_pos (by simp; omega), if_pos (.inr (.inr h3))]
      · rw [if_neg (by simp; omega), if_neg (by omega)]
        by_cases h4 : r.all isW = true ∧ v.all inR = true
        · rw [if_pos h4]
          exact dot_good r v h1 (by omega) h4.1 h4.2 v.length 0 rfl
        · rw [if_neg h4]
          refine dot_wrong r v h1 (by omega) v.length 0 0 rfl ?_
          cases hr : r.all isW with
          | false =>
            obtain ⟨i, h5, h6⟩ := all_false hr
            exact ⟨i, Nat.zero_le _, by omega, .inl h6⟩
          | true =>
            cases hv : v.all inR with
            | false =>
              obtain ⟨i, h5, h6⟩ := all_false hv
              exact ⟨i, Nat.zero_le _, by omega, .inr h6⟩
            | true => exact absurd ⟨hr, hv⟩ h4
  · rw [if_neg (by omega), hj, if_pos rfl, if_pos (.inl h1)]
end Go.Proofs.YtfameghednapkaaDoor.Ten
