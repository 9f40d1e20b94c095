/- Plain: the halves behind a turn. -/
import Derived.Test.YtfameghednapkaaDoorSort3B
namespace Go.Proofs.YtfameghednapkaaDoor.Sort
open Go.RowKit
set_option linter.unusedVariables false
set_option linter.unusedSimpArgs false
theorem rot_nop {f : Nat → Int} {s m e : Nat} (h : ¬ (s < m ∧ m < e)) (h1 : s ≤ m) (h2 : m ≤ e) (j : Nat) : rotF f s m e j = f j := by
  unfold rotF
  repeat' split
  all_goals first | (exfalso; omega) | (congr 1 <;> omega)
theorem Merged.same {pr : Int → Int → Prop} {f : Nat → Int} {a b : Nat} (h : SortedOn pr f a b) : Merged pr f f a b := ⟨h, fun i h1 h2 => ⟨i, h1, h2, rfl⟩, fun _ _ => rfl⟩
structure Halves (pr : Int → Int → Prop) (cf : Int → Int → Int) (h : Nat → Int) (a s mid : Nat) : Prop where
  l : SortedOn pr h a s
  r : SortedOn pr h s mid
  t : Tells2 pr cf h a s mid
theorem halves1 {pr : Int → Int → Prop} {cf : Int → Int → Int} {f : Nat → Int} {a m b mid s e : Nat} (hL : SortedOn pr f a m) (hR : SortedOn pr f m b) (hT : Tells2 pr cf f a m b) (h1 : a ≤ s) (h2 : s ≤ m) (h3 : m ≤ e) (h4 : e ≤ b) (h5 : s ≤ mid) (he : e = mid + m - s) : Halves pr cf (rotF f s m e) a s mid := by
  have eL : ∀ i, i < s → rotF f s m e i = f i := fun i _ => by unfold rotF; rw [if_neg (by omega), if_neg (by omega)]
  have eR : ∀ i, s ≤ i → i < mid → rotF f s m e i = f (m + (i - s)) := fun i _ _ => by unfold rotF; rw [if_pos (by omega)]
  refine ⟨fun i j hi hij hj => ?_, fun i j hi hij hj => ?_, fun p q p1 p2 q1 q2 => ?_⟩
  · rw [eL i (by omega), eL j hj]
    exact hL i j hi hij (by omega)
  · rw [eR i hi (by omega), eR j (by omega) hj]
    exact hR _ _ (by omega) (by omega) (by omega)
  · rw [eL p p2, eR q q1 q2]
    exact hT p _ p1 (by omega) (by omega) (by omega)
theorem halves2 {pr : Int → Int → Prop} {cf : Int → Int → Int} {f g : Nat → Int} {a m b mid s e : Nat} (hL : SortedOn pr f a m) (hR : SortedOn pr f m b) (hT : Tells2 pr cf f a m b) (h1 : a ≤ s) (h2 : s ≤ m) (h3 : m ≤ e) (h4 : e ≤ b) (h5 : s ≤ mid) (h6 : mid ≤ e) (he : e = mid + m - s) (hg : ∀ j, mid ≤ j → g j = rotF f s m e j) : Halves pr cf g mid e b := by
  have eL : ∀ i, mid ≤ i → i < e → g i = f (s + (i - mid)) := fun i hi _ => by rw [hg i hi]; unfold rotF; rw [if_neg (by omega), if_pos (by omega)]; congr 1 <;> omega
  have eR : ∀ i, e ≤ i → g i = f i := fun i _ => by rw [hg i (by omega)]; unfold rotF; rw [if_neg (by omega), if_neg (by omega)]
  refine ⟨fun i j hi hij hj => ?_, fun i j hi hij hj => ?_, fun p q p1 p2 q1 q2 => ?_⟩
  · rw [eL i hi (by omega), eL j (by omega) hj]
    exact hL _ _ (by omega) (by omega) (by omega)
  · rw [eR i hi, eR j (by omega)]
    exact hR i j (by omega) hij hj
  · rw [eL p p1 p2, eR q q1]
    exact hT _ q (by omega) (by omega) (by omega) q2
theorem Halves.same {pr : Int → Int → Prop} {cf : Int → Int → Int} {h : Nat → Int} {a s mid : Nat} (k : Halves pr cf h a s mid) (hc : ¬ (a < s ∧ s < mid)) (h1 : a ≤ s) (h2 : s ≤ mid) : Merged pr h h a mid := by
  refine Merged.same fun i j hi hij hj => ?_
  by_cases e : a = s
  · subst e; exact k.r i j hi hij hj
  · obtain rfl : s = mid := by omega
    exact k.l i j hi hij hj
/-- All the numbers of a row. -/
def AllF (D : Int → Prop) (n : Nat) (f : Nat → Int) : Prop := ∀ j, j < n → D (f j)
theorem AllF.list {D : Int → Prop} {n : Nat} {f : Nat → Int} {ys : List Int} (h : AllF D n f) (hl : ys.length = n) (he : ∀ j, ys.getD j 0 = f j) : ∀ x ∈ ys, D x := fun x hx => by
  obtain ⟨j, hj, rfl⟩ := List.mem_iff_getElem.1 hx
  have h1 := he j
  rw [List.getD_eq_getElem?_getD, List.getElem?_eq_getElem hj, Option.getD_some] at h1
  rw [h1]
  exact h j (by omega)
theorem AllF.from_ {D : Int → Prop} {n a b : Nat} {f g : Nat → Int} (h : AllF D n f) (h1 : FromOn f g a b) (h2 : SameOff f g a b) (hb : b ≤ n) : AllF D n g := fun j hj => by
  by_cases hi : a ≤ j ∧ j < b
  · obtain ⟨t, t1, t2, t3⟩ := h1 j hi.1 hi.2
    rw [t3]
    exact h t (by omega)
  · rw [h2 j (by omega)]
    exact h j hj
theorem list_allF {D : Int → Prop} {xs : List Int} (h : ∀ x ∈ xs, D x) : AllF D xs.length (fun j => xs.getD j 0) := fun j hj => by
  show D (xs.getD j 0)
  rw [List.getD_eq_getElem?_getD, List.getElem?_eq_getElem hj]
  exact h _ (List.getElem_mem hj)
def MergeEnd (pr : Int → Int → Prop) (B g c n a b : Nat) (f : Nat → Int) (w : World) (w' : World) : Prop := ∃ h, DatF B g c n w w' h ∧ Merged pr f h a b
end Go.Proofs.YtfameghednapkaaDoor.Sort
