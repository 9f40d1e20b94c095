/- bpe in plain Lean: neighbours, merging, the least pair, encoding. -/
import Derived.Test.YtbgiccbegcepcaaK
namespace Go.Proofs.Ytbgiccbegcepcaa.Bpe
set_option linter.unusedVariables false
set_option linter.unusedSimpArgs false
abbrev Pr := Int × Int
def nb (p : Pr) : List Int → Bool
  | a :: b :: l => decide (a = p.1 ∧ b = p.2) || nb p (b :: l)
  | _ => false
def mergeL (p : Pr) (t : Int) : List Int → List Int
  | a :: b :: l => if a = p.1 ∧ b = p.2 then t :: mergeL p t l else a :: mergeL p t (b :: l)
  | l => l
def look (ps : List Pr) (p : Pr) : Option Nat := ps.findIdx? (fun q => decide (q = p))
def firstP (ps : List Pr) (l : List Int) : Option Nat := ps.findIdx? (nb · l)
def omin : Option Nat → Option Nat → Option Nat
  | none, y => y
  | x, none => x
  | some a, some b => some (if b < a then b else a)
def tokV (n : Int) : Option Nat → Int
  | none => -1
  | some k => n + k
def encF (n : Int) (ps : List Pr) : Nat → List Int → List Int
  | 0, l => l
  | f + 1, l => match firstP ps l with
    | none => l
    | some k => encF n ps f (mergeL (ps.getD k (0, 0)) (n + k) l)
def encL (n : Int) (ps : List Pr) (l : List Int) : List Int := encF n ps l.length l

theorem mergeL_le (p : Pr) (t : Int) : ∀ l : List Int, (mergeL p t l).length ≤ l.length
  | [] => Nat.le_refl _
  | [a] => Nat.le_refl _
  | a :: b :: l => by
    unfold mergeL
    split
    · have := mergeL_le p t l
      simp only [List.length_cons]; omega
    · have := mergeL_le p t (b :: l)
      simp only [List.length_cons] at this ⊢; omega
theorem mergeL_lt (p : Pr) (t : Int) : ∀ l : List Int, nb p l = true → (mergeL p t l).length < l.length
  | [], h => by simp [nb] at h
  | [a], h => by simp [nb] at h
  | a :: b :: l, h => by
    unfold mergeL
    split
    · have := mergeL_le p t l
      simp only [List.length_cons]; omega
    · rename_i hc
      simp only [nb, decide_eq_false hc, Bool.false_or] at h
      have := mergeL_lt p t (b :: l) h
      simp only [List.length_cons] at this ⊢; omega
theorem first_some {ps : List Pr} {l : List Int} {k : Nat} (h : firstP ps l = some k) : k < ps.length ∧ nb (ps.getD k (0, 0)) l = true := by
  obtain ⟨h1, h2, _⟩ := List.findIdx?_eq_some_iff_getElem.1 h
  refine ⟨h1, ?_⟩
  rw [List.getD_eq_getElem?_getD, List.getElem?_eq_getElem h1]
  simpa using h2
theorem encF_more (n : Int) (ps : List Pr) : ∀ (f g : Nat) (l : List Int), l.length ≤ f → l.length ≤ g → encF n ps f l = encF n ps g l := by
  intro f
  induction f with
  | zero =>
    intro g l hf hg
    obtain rfl : l = [] := List.eq_nil_of_length_eq_zero (by omega)
    cases g with
    | zero => rfl
    | succ g =>
      rw [encF, encF]
      cases hh : firstP ps [] with
      | none => rfl
      | some k => have := (first_some hh).2; simp [nb] at this
  | succ f ih =>
    intro g l hf hg
    cases g with
    | zero =>
      obtain rfl : l = [] := List.eq_nil_of_length_eq_zero (by omega)
      rw [encF, encF]
      cases hh : firstP ps [] with
      | none => rfl
      | some k => have := (first_some hh).2; simp [nb] at this
    | succ g =>
      rw [encF, encF]
      cases hh : firstP ps l with
      | none => rfl
      | some k =>
        have := mergeL_lt (ps.getD k (0, 0)) (n + k) l (first_some hh).2
        exact ih g _ (by omega) (by omega)
theorem encL_none {n : Int} {ps : List Pr} {l : List Int} (h : firstP ps l = none) : encL n ps l = l := by
  unfold encL
  cases hl : l.length with
  | zero => rfl
  | succ f => rw [encF, h]
theorem encL_some {n : Int} {ps : List Pr} {l : List Int} {k : Nat} (h : firstP ps l = some k) : encL n ps l = encL n ps (mergeL (ps.getD k (0, 0)) (n + k) l) := by
  have h1 := mergeL_lt (ps.getD k (0, 0)) (n + k) l (first_some h).2
  unfold encL
  cases hl : l.length with
  | zero => omega
  | succ f =>
    rw [encF, h]
    exact encF_more n ps _ _ _ (by omega) (Nat.le_refl _)
/-- An induction by the runs of encoding. -/
theorem enc_ind (n : Int) (ps : List Pr) (P : List Int → Prop) (h0 : ∀ l, firstP ps l = none → P l) (h1 : ∀ l k, firstP ps l = some k → P (mergeL (ps.getD k (0, 0)) (n + k) l) → P l) : ∀ (f : Nat) (l : List Int), l.length ≤ f → P l := by
  intro f
  induction f with
  | zero =>
    intro l hl
    cases h : firstP ps l with
    | none => exact h0 l h
    | some k => have := mergeL_lt (ps.getD k (0, 0)) (n + k) l (first_some h).2; omega
  | succ f ih =>
    intro l hl
    cases h : firstP ps l with
    | none => exact h0 l h
    | some k => exact h1 l k h (ih _ (by have := mergeL_lt (ps.getD k (0, 0)) (n + k) l (first_some h).2; omega))

/-! the least pair, place by place -/
theorem findIdx_or (f g : Pr → Bool) : ∀ ps : List Pr, ps.findIdx? (fun p => f p || g p) = omin (ps.findIdx? f) (ps.findIdx? g)
  | [] => rfl
  | p :: ps => by
    rw [List.findIdx?_cons, List.findIdx?_cons, List.findIdx?_cons, findIdx_or f g ps]
    cases hf : f p <;> cases hg : g p
    · simp only [Bool.or_false, Bool.false_eq_true, if_false]
      cases ps.findIdx? f <;> cases ps.findIdx? g <;> simp [omin]
      split <;> rfl
    · simp only [Bool.false_or, Bool.false_eq_true, if_false, if_true]
      cases ps.findIdx? f <;> simp [omin]
    · simp only [Bool.true_or, Bool.false_eq_true, if_false, if_true]
      cases ps.findIdx? g <;> simp [omin]
    · simp [omin]
theorem nb_snoc (p : Pr) : ∀ (l : List Int) (a b : Int), nb p (l ++ [a, b]) = (nb p (l ++ [a]) || decide (b = p.2 ∧ a = p.1))
  | [], a, b => by simp [nb, and_comm]
  | [x], a, b => by simp [nb, and_comm]
  | x :: y :: l, a, b => by
    have h := nb_snoc p (y :: l) a b
    simp only [List.cons_append] at h ⊢
    rw [nb, h, nb, Bool.or_assoc]
theorem take_two (l : List Int) (i : Nat) (h : i + 1 < l.length) : l.take (i + 2) = l.take i ++ [l.getD i 0, l.getD (i + 1) 0] ∧ l.take (i + 1) = l.take i ++ [l.getD i 0] := by
  have h1 : l.take (i + 1) = l.take i ++ [l.getD i 0] := by
    rw [List.take_succ_eq_append_getElem (by omega), List.getD_eq_getElem?_getD, List.getElem?_eq_getElem (by omega)]; rfl
  refine ⟨?_, h1⟩
  rw [show i + 2 = (i + 1) + 1 from rfl, List.take_succ_eq_append_getElem h, h1, List.append_assoc, List.getD_eq_getElem?_getD (i := i + 1), List.getElem?_eq_getElem h]; rfl
theorem first_step (ps : List Pr) (l : List Int) (i : Nat) (h : i + 1 < l.length) : firstP ps (l.take (i + 2)) = omin (firstP ps (l.take (i + 1))) (look ps (l.getD i 0, l.getD (i + 1) 0)) := by
  obtain ⟨h1, h2⟩ := take_two l i h
  unfold firstP look
  rw [h1, h2, ← findIdx_or]
  congr 1
  funext p
  rw [nb_snoc]
  congr 1
  rw [Bool.eq_iff_iff]
  simp only [decide_eq_true_eq]
  constructor
  · rintro ⟨h1, h2⟩; exact Prod.ext h2.symm h1.symm
  · rintro rfl; exact ⟨rfl, rfl⟩
theorem first_one (ps : List Pr) (l : List Int) : firstP ps (l.take 1) = none := by
  unfold firstP
  rw [List.findIdx?_eq_none_iff]
  intro p _
  cases l <;> simp [nb]
theorem tokV_min (n : Int) (h : 0 ≤ n) (x y : Option Nat) : tokV n (omin x y) = if y.isSome ∧ (tokV n x = -1 ∨ tokV n y < tokV n x) then tokV n y else tokV n x := by
  cases x with
  | none => cases y <;> simp [omin, tokV]
  | some a =>
    cases y with
    | none => simp [omin, tokV]
    | some b =>
      simp only [omin, tokV, Option.isSome_some, true_and]
      by_cases hb : b < a
      · rw [if_pos hb, if_pos (.inr (by omega))]
      · rw [if_neg hb, if_neg (by omega)]
theorem look_snoc (ps : List Pr) (p q : Pr) (h : look ps p = none) : look (ps ++ [p]) q = if q = p then some ps.length else look ps q := by
  unfold look at h ⊢
  rw [List.findIdx?_append]
  by_cases hq : q = p
  · subst hq
    rw [h, if_pos rfl]
    simp [List.findIdx?_cons]
  · rw [if_neg hq]
    cases hh : ps.findIdx? (fun r => decide (r = q)) with
    | some k => rfl
    | none =>
      have : decide (p = q) = false := by simpa using fun e => hq e.symm
      simp [List.findIdx?_cons, this]
theorem look_none {ps : List Pr} {p : Pr} : look ps p = none ↔ p ∉ ps := by
  unfold look
  rw [List.findIdx?_eq_none_iff]
  simp only [decide_eq_false_iff_not]
  exact ⟨fun h hp => h p hp rfl, fun h x hx e => h (e ▸ hx)⟩
theorem look_lt {ps : List Pr} {p : Pr} {k : Nat} (h : look ps p = some k) : k < ps.length := (List.findIdx?_eq_some_iff_getElem.1 h).1

/-! merging, place by place -/
theorem merge_hit (p : Pr) (t : Int) (l : List Int) (i : Nat) (h : i + 1 < l.length) (ha : l.getD i 0 = p.1) (hb : l.getD (i + 1) 0 = p.2) : mergeL p t (l.drop i) = t :: mergeL p t (l.drop (i + 2)) := by
  have h1 : l.drop i = l.getD i 0 :: l.getD (i + 1) 0 :: l.drop (i + 2) := by
    rw [List.drop_eq_getElem_cons (by omega), List.drop_eq_getElem_cons h, List.getD_eq_getElem?_getD, List.getElem?_eq_getElem (by omega), List.getD_eq_getElem?_getD, List.getElem?_eq_getElem h]; rfl
  rw [h1, mergeL, if_pos ⟨ha, hb⟩]
theorem merge_miss (p : Pr) (t : Int) (l : List Int) (i : Nat) (h : i < l.length) (hn : ¬ (i + 1 < l.length ∧ l.getD i 0 = p.1 ∧ l.getD (i + 1) 0 = p.2)) : mergeL p t (l.drop i) = l.getD i 0 :: mergeL p t (l.drop (i + 1)) := by
  by_cases h2 : i + 1 < l.length
  · have h1 : l.drop i = l.getD i 0 :: l.getD (i + 1) 0 :: l.drop (i + 2) := by
      rw [List.drop_eq_getElem_cons (by omega), List.drop_eq_getElem_cons h2, List.getD_eq_getElem?_getD, List.getElem?_eq_getElem (by omega), List.getD_eq_getElem?_getD, List.getElem?_eq_getElem h2]; rfl
    have h3 : l.drop (i + 1) = l.getD (i + 1) 0 :: l.drop (i + 2) := by
      rw [List.drop_eq_getElem_cons h2, List.getD_eq_getElem?_getD, List.getElem?_eq_getElem h2]; rfl
    rw [h1, h3, mergeL, if_neg (fun hc => hn ⟨h2, hc⟩)]
  · have h1 : l.drop i = [l.getD i 0] := by
      rw [List.drop_eq_getElem_cons (by omega), List.drop_eq_nil_of_le (by omega), List.getD_eq_getElem?_getD, List.getElem?_eq_getElem (by omega)]; rfl
    rw [h1, List.drop_eq_nil_of_le (show l.length ≤ i + 1 by omega)]
    rfl
theorem nb_take_step (p : Pr) (l : List Int) (i : Nat) (h : i + 1 < l.length) (hn : nb p (l.take (i + 1)) = false) : nb p (l.take (i + 2)) = decide (l.getD i 0 = p.1 ∧ l.getD (i + 1) 0 = p.2) := by
  obtain ⟨h1, h2⟩ := take_two l i h
  rw [h1, nb_snoc, ← h2, hn, Bool.false_or]
  congr 1
  exact propext and_comm
theorem nb_of_take (p : Pr) (l : List Int) : ∀ i, nb p (l.take i) = true → nb p l = true := by
  intro i h
  conv => rw [← List.take_append_drop i l]
  generalize l.take i = a at h
  generalize l.drop i = b
  induction a with
  | nil => simp [nb] at h
  | cons x a ih =>
    cases a with
    | nil => simp [nb] at h
    | cons y a =>
      simp only [List.cons_append] at ih ⊢
      rw [nb] at h ⊢
      rw [Bool.or_eq_true] at h ⊢
      exact h.imp id (fun h => ih h)
end Go.Proofs.Ytbgiccbegcepcaa.Bpe
