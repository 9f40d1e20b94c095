/- draw: plain: which weight a number is of. -/
import Derived.Test.YtdmeocoehahopaaDoorBun6
import Derived.Test.YtdmeocoehahopaaDoorSumVB
namespace Go.Proofs.YtdmeocoehahopaaDoor.Draw
open Go.RowKit Go.Proofs.YtdmeocoehahopaaDoorW.PrintWords Go.Proofs.YtdmeocoehahopaaDoorW.PrintLast Go.Proofs.YtdmeocoehahopaaDoorW.PrintMore Go.Proofs.YtdmeocoehahopaaDoor.K Go.Proofs.YtdmeocoehahopaaDoor.Sha Go.Proofs.YtdmeocoehahopaaDoor.Codec Go.Proofs.YtdmeocoehahopaaDoor.RI Go.Proofs.YtdmeocoehahopaaDoor.Ten
set_option linter.unusedVariables false
set_option linter.unusedSimpArgs false
def isWt (n : Int) : Bool := decide (0 ≤ n ∧ n ≤ 2147483648)
def atL : List Int → Int → Nat
  | [], _ => 0
  | y :: ys, x => if y ≤ x then atL ys (x - y) + 1 else 0
def preV (ws : List Int) (k : Nat) : Int := sumV (ws.take k)
def chooseV (d ws : List Int) (c : Int) : Int × Int × Int :=
  if ws.length = 0 ∨ 512 < ws.length then (0, 13, c)
  else if ws.all isWt = true then (if sumV ws = 0 then (0, 14, c) else if (belowV d (sumV ws) c).2.1 = 0 then ((atL ws (belowV d (sumV ws) c).1 : Int), 0, (belowV d (sumV ws) c).2.2) else (0, (belowV d (sumV ws) c).2.1, c))
  else (0, 10, c)
def ChooseR (d ws : List Int) (c x er c' : Int) : Prop := chooseV d ws c = (x, er, c')
theorem sumV_one (x : Int) : sumV [x] = x := by simp [sumV]
theorem preV_zero (ws : List Int) : preV ws 0 = 0 := rfl
theorem preV_succ (ws : List Int) (k : Nat) (h : k < ws.length) : preV ws (k + 1) = preV ws k + ws.getD k 0 := by
  unfold preV
  rw [List.take_succ_eq_append_getElem h, sumV_append, sumV_one, List.getD_eq_getElem?_getD, List.getElem?_eq_getElem h, Option.getD_some]
theorem preV_all (ws : List Int) : preV ws ws.length = sumV ws := by unfold preV; rw [List.take_length]
theorem atL_drop (ws : List Int) (k : Nat) (h : k < ws.length) (y : Int) : atL (ws.drop k) y = if ws.getD k 0 ≤ y then atL (ws.drop (k + 1)) (y - ws.getD k 0) + 1 else 0 := by
  rw [List.drop_eq_getElem_cons h, List.getD_eq_getElem?_getD, List.getElem?_eq_getElem h, Option.getD_some]
  rfl
/-- How far the search has come. -/
def AtInv (ws : List Int) (x : Int) (k : Nat) : Prop := k < ws.length ∧ atL ws x = k + atL (ws.drop k) (x - preV ws k) ∧ preV ws k ≤ x ∧ x < sumV ws
theorem AtInv.start {ws : List Int} {x : Int} (h : 0 < ws.length) (h0 : 0 ≤ x) (h1 : x < sumV ws) : AtInv ws x 0 := ⟨h, by simp [preV_zero], by rw [preV_zero]; exact h0, h1⟩
theorem AtInv.next {ws : List Int} {x : Int} {k : Nat} (h : AtInv ws x k) (hle : preV ws (k + 1) ≤ x) : AtInv ws x (k + 1) := by
  obtain ⟨h1, h2, h3, h4⟩ := h
  have hs := preV_succ ws k h1
  have hd := atL_drop ws k h1 (x - preV ws k)
  rw [if_pos (by omega)] at hd
  refine ⟨?_, ?_, hle, h4⟩
  · rcases Nat.lt_or_ge (k + 1) ws.length with h | h
    · exact h
    · have e : k + 1 = ws.length := by omega
      rw [e, preV_all] at hle
      omega
  · rw [h2, hd, hs, show x - (preV ws k + ws.getD k 0) = x - preV ws k - ws.getD k 0 by omega]
    omega
theorem AtInv.done {ws : List Int} {x : Int} {k : Nat} (h : AtInv ws x k) (hgt : x < preV ws (k + 1)) : atL ws x = k := by
  obtain ⟨h1, h2, h3, h4⟩ := h
  have hs := preV_succ ws k h1
  have hd := atL_drop ws k h1 (x - preV ws k)
  rw [if_neg (by omega)] at hd
  omega
theorem wt_get {ws : List Int} (h : ws.all isWt = true) (k : Nat) : 0 ≤ ws.getD k 0 ∧ ws.getD k 0 ≤ 2147483648 := by
  rcases Nat.lt_or_ge k ws.length with h1 | h1
  · rw [List.getD_eq_getElem?_getD, List.getElem?_eq_getElem h1]
    exact of_decide_eq_true (List.all_eq_true.1 h _ (List.getElem_mem h1))
  · rw [List.getD_eq_getElem?_getD, List.getElem?_eq_none h1]
    decide
theorem preV_bd {ws : List Int} (h : ws.all isWt = true) : ∀ k : Nat, k ≤ ws.length → 0 ≤ preV ws k ∧ preV ws k ≤ 2147483648 * (k : Int)
  | 0, _ => by rw [preV_zero]; omega
  | k + 1, hk => by
    have h1 := preV_bd h k (by omega)
    have h2 := wt_get h k
    rw [preV_succ ws k (by omega), Int.natCast_add]
    omega
theorem take_all_succ {p : Int → Bool} {l : List Int} {k : Nat} (h : k < l.length) (hk : (l.take k).all p = true) (hp : p (l.getD k 0) = true) : (l.take (k + 1)).all p = true := by
  rw [List.take_succ_eq_append_getElem h, List.all_append, hk]
  rw [List.getD_eq_getElem?_getD, List.getElem?_eq_getElem h, Option.getD_some] at hp
  simp [hp]
theorem all_not {p : Int → Bool} {l : List Int} {k : Nat} (h : k < l.length) (hp : p (l.getD k 0) = false) : l.all p = false := by
  rw [List.all_eq_false]
  rw [List.getD_eq_getElem?_getD, List.getElem?_eq_getElem h, Option.getD_some] at hp
  exact ⟨_, List.getElem_mem h, by simp [hp]⟩
theorem preV_bd' {ws : List Int} {k : Nat} (h : (ws.take k).all isWt = true) (hk : k ≤ ws.length) : 0 ≤ preV ws k ∧ preV ws k ≤ 2147483648 * (k : Int) := by
  have h1 := preV_bd h k (by rw [List.length_take]; omega)
  have e : preV (ws.take k) k = preV ws k := by unfold preV; rw [List.take_take, Nat.min_self]
  rwa [e] at h1
theorem chooseV_size {d ws : List Int} {c : Int} (h : ws.length = 0 ∨ 512 < ws.length) : chooseV d ws c = (0, 13, c) := if_pos h
theorem chooseV_range {d ws : List Int} {c : Int} (h : ¬ (ws.length = 0 ∨ 512 < ws.length)) (h2 : ws.all isWt = false) : chooseV d ws c = (0, 10, c) := by
  unfold chooseV
  rw [if_neg h, if_neg (by rw [h2]; simp)]
theorem chooseV_none {d ws : List Int} {c : Int} (h : ¬ (ws.length = 0 ∨ 512 < ws.length)) (h2 : ws.all isWt = true) (h3 : sumV ws = 0) : chooseV d ws c = (0, 14, c) := by
  unfold chooseV
  rw [if_neg h, if_pos h2, if_pos h3]
theorem chooseV_err {d ws : List Int} {c x er c' : Int} (h : ¬ (ws.length = 0 ∨ 512 < ws.length)) (h2 : ws.all isWt = true) (h3 : sumV ws ≠ 0) (h4 : belowV d (sumV ws) c = (x, er, c')) (h5 : er ≠ 0) : chooseV d ws c = (0, er, c) := by
  unfold chooseV
  rw [if_neg h, if_pos h2, if_neg h3, h4, if_neg h5]
theorem chooseV_ok {d ws : List Int} {c x c' : Int} (h : ¬ (ws.length = 0 ∨ 512 < ws.length)) (h2 : ws.all isWt = true) (h3 : sumV ws ≠ 0) (h4 : belowV d (sumV ws) c = (x, 0, c')) : chooseV d ws c = ((atL ws x : Int), 0, c') := by
  unfold chooseV
  rw [if_neg h, if_pos h2, if_neg h3, h4, if_pos rfl]
theorem belowF_x (d : List Int) (n : Int) (hn : 0 < n) : ∀ (k : Nat) (c x er c' : Int), belowF d n k c = (x, er, c') → 0 ≤ x ∧ x < n
  | 0, c, x, er, c', h => by cases h; exact ⟨by decide, hn⟩
  | k + 1, c, x, er, c', h => by
    unfold belowF at h
    split at h
    · cases h; exact ⟨by decide, hn⟩
    · split at h
      · cases h; exact ⟨Int.emod_nonneg _ (by omega), Int.emod_lt_of_pos _ hn⟩
      · exact belowF_x d n hn k (c + 1) x er c' h
theorem belowV_x {d : List Int} {n c x er c' : Int} (hn : 0 < n) (h : belowV d n c = (x, er, c')) : 0 ≤ x ∧ x < n := by
  unfold belowV at h
  rw [if_neg (by omega)] at h
  exact belowF_x d n hn 64 c x er c' h
end Go.Proofs.YtdmeocoehahopaaDoor.Draw
