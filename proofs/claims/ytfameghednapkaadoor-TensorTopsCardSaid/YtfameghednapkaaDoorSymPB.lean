/- Plain: changing ranges, turning, merging in place: rows as functions of places. -/
import Derived.Test.YtfameghednapkaaDoorBunT3
namespace Go.Proofs.YtfameghednapkaaDoor.Sort
set_option linter.unusedVariables false
set_option linter.unusedSimpArgs false
def swF (f : Nat → Int) (a b n : Nat) (j : Nat) : Int := if a ≤ j ∧ j < a + n then f (b + (j - a)) else if b ≤ j ∧ j < b + n then f (a + (j - b)) else f j
def rotF (f : Nat → Int) (a m b : Nat) (j : Nat) : Int := if a ≤ j ∧ j < a + (b - m) then f (m + (j - a)) else if a + (b - m) ≤ j ∧ j < b then f (a + (j - (a + (b - m)))) else f j
theorem rot_gt (f : Nat → Int) (i j m : Nat) (h1 : j < i) (h2 : i ≤ m) (t : Nat) : rotF (swF f (m - i) m j) (m - (i - j)) m (m + j) t = rotF f (m - i) m (m + j) t := by
  unfold rotF swF
  repeat' split
  all_goals first | (exfalso; omega) | (congr 1 <;> omega)
theorem rot_lt (f : Nat → Int) (i j m : Nat) (h1 : i < j) (h2 : i ≤ m) (t : Nat) : rotF (swF f (m - i) (m + j - i) i) (m - i) m (m + (j - i)) t = rotF f (m - i) m (m + j) t := by
  unfold rotF swF
  repeat' split
  all_goals first | (exfalso; omega) | (congr 1 <;> omega)
theorem rot_eq (f : Nat → Int) (i m : Nat) (h2 : i ≤ m) (t : Nat) : swF f (m - i) m i t = rotF f (m - i) m (m + i) t := by
  unfold rotF swF
  repeat' split
  all_goals first | (exfalso; omega) | (congr 1 <;> omega)
theorem swF_step (f : Nat → Int) (a b n : Nat) (h : a + (n + 1) ≤ b) (j : Nat) : swF f a b (n + 1) j = if j = b + n then swF f a b n (a + n) else if j = a + n then swF f a b n (b + n) else swF f a b n j := by
  unfold swF
  repeat' split
  all_goals first | (exfalso; omega) | (congr 1 <;> omega)
/-- A strict total order. -/
structure Strict (pr : Int → Int → Prop) : Prop where
  irrefl : ∀ x, ¬ pr x x
  trans : ∀ x y z, pr x y → pr y z → pr x z
  total : ∀ x y, x ≠ y → pr x y ∨ pr y x
def SortedOn (pr : Int → Int → Prop) (f : Nat → Int) (a b : Nat) : Prop := ∀ i j, a ≤ i → i < j → j < b → pr (f i) (f j)
def FromOn (f g : Nat → Int) (a b : Nat) : Prop := ∀ i, a ≤ i → i < b → ∃ j, a ≤ j ∧ j < b ∧ g i = f j
def SameOff (f g : Nat → Int) (a b : Nat) : Prop := ∀ i, (i < a ∨ b ≤ i) → g i = f i
/-- What the comparison tells of one from the right, and one from the left. -/
def Tells2 (pr : Int → Int → Prop) (cf : Int → Int → Int) (f : Nat → Int) (a m b : Nat) : Prop := ∀ p q, a ≤ p → p < m → m ≤ q → q < b → f p ≠ f q ∧ (cf (f q) (f p) < 0 ↔ pr (f q) (f p))
/-- The cut of a merge by turning: up to it the left one is ahead, from it on the right one. -/
def CutAt (pr : Int → Int → Prop) (f : Nat → Int) (lo hi n s : Nat) : Prop := lo ≤ s ∧ s ≤ hi ∧ (∀ c, lo ≤ c → c < s → pr (f c) (f (n - 1 - c))) ∧ (∀ c, s ≤ c → c < hi → pr (f (n - 1 - c)) (f c))
structure Merged (pr : Int → Int → Prop) (f g : Nat → Int) (a b : Nat) : Prop where
  sorted : SortedOn pr g a b
  from_ : FromOn f g a b
  off : SameOff f g a b
theorem Merged.comp {pr : Int → Int → Prop} {f g h : Nat → Int} {a b : Nat} (h1 : FromOn f g a b) (h2 : SameOff f g a b) (k : Merged pr g h a b) : Merged pr f h a b :=
  ⟨k.sorted, fun i hi1 hi2 => by
    obtain ⟨j, j1, j2, j3⟩ := k.from_ i hi1 hi2
    obtain ⟨t, t1, t2, t3⟩ := h1 j j1 j2
    exact ⟨t, t1, t2, j3.trans t3⟩, fun i hi => (k.off i hi).trans (h2 i hi)⟩
theorem rot_from (f : Nat → Int) (a s m e b : Nat) (h1 : a ≤ s) (h2 : s ≤ m) (h3 : m ≤ e) (h4 : e ≤ b) : FromOn f (rotF f s m e) a b := fun i hi1 hi2 => by
  unfold rotF
  repeat' split
  · exact ⟨m + (i - s), by omega, by omega, rfl⟩
  · exact ⟨s + (i - (s + (e - m))), by omega, by omega, rfl⟩
  · exact ⟨i, hi1, hi2, rfl⟩
theorem rot_off (f : Nat → Int) (a s m e b : Nat) (h1 : a ≤ s) (h2 : s ≤ m) (h3 : m ≤ e) (h4 : e ≤ b) : SameOff f (rotF f s m e) a b := fun i hi => by
  unfold rotF
  repeat' split
  all_goals first | (exfalso; omega) | rfl
/-- The whole of a merge by turning. -/
theorem sym_merge {pr : Int → Int → Prop} {cf : Int → Int → Int} (hS : Strict pr) {f g1 g2 : Nat → Int} {a m b mid s e : Nat} (ham : a < m) (hmb : m < b) (hmid : mid = (a + b) / 2) (hL : SortedOn pr f a m) (hR : SortedOn pr f m b)
    (hcut : CutAt pr f (if mid < m then mid + m - b else a) (if mid < m then mid else m) (mid + m) s) (he : e = mid + m - s)
    (h1 : Merged pr (rotF f s m e) g1 a mid) (h2 : Merged pr g1 g2 mid b) : Merged pr f g2 a b ∧ a ≤ s ∧ s ≤ m ∧ m ≤ e ∧ e ≤ b ∧ s ≤ mid ∧ mid ≤ e := by
  obtain ⟨lo, hi', hlh, c1, c2, c3, c4⟩ : ∃ lo hi, ((mid < m ∧ lo = mid + m - b ∧ hi = mid) ∨ (m ≤ mid ∧ lo = a ∧ hi = m)) ∧ CutAt pr f lo hi (mid + m) s := by
    by_cases h : mid < m
    · rw [if_pos h, if_pos h] at hcut
      exact ⟨_, _, .inl ⟨h, rfl, rfl⟩, hcut⟩
    · rw [if_neg h, if_neg h] at hcut
      exact ⟨_, _, .inr ⟨by omega, rfl, rfl⟩, hcut⟩
  clear hcut
  have hb : a ≤ s ∧ s ≤ m ∧ m ≤ e ∧ e ≤ b ∧ s ≤ mid ∧ mid ≤ e := by omega
  refine ⟨?_, hb⟩
  obtain ⟨b1, b2, b3, b4, b5, b6⟩ := hb
  -- those in the first half are ahead of those in the second one
  have low : ∀ i, a ≤ i → i < mid → ∀ j, mid ≤ j → j < b → pr (rotF f s m e i) (rotF f s m e j) := by
    intro i hi1 hi2 j hj1 hj2
    -- the four rows
    have eL : ∀ i, a ≤ i → i < s → rotF f s m e i = f i := fun i _ _ => by unfold rotF; rw [if_neg (by omega), if_neg (by omega)]
    have eR : ∀ i, s ≤ i → i < mid → rotF f s m e i = f (m + (i - s)) := fun i _ _ => by unfold rotF; rw [if_pos (by omega)]
    have eL2 : ∀ j, mid ≤ j → j < e → rotF f s m e j = f (s + (j - mid)) := fun j _ _ => by
      unfold rotF; rw [if_neg (by omega), if_pos (by omega)]; congr 1 <;> omega
    have eR2 : ∀ j, e ≤ j → j < b → rotF f s m e j = f j := fun j _ _ => by unfold rotF; rw [if_neg (by omega), if_neg (by omega)]
    have leL : ∀ p q, a ≤ p → p ≤ q → q < m → p = q ∨ pr (f p) (f q) := fun p q _ _ _ => by
      rcases Nat.lt_or_ge p q with h | h
      · exact .inr (hL p q (by omega) h (by omega))
      · exact .inl (by omega)
    have leR : ∀ p q, m ≤ p → p ≤ q → q < b → p = q ∨ pr (f p) (f q) := fun p q _ _ _ => by
      rcases Nat.lt_or_ge p q with h | h
      · exact .inr (hR p q (by omega) h (by omega))
      · exact .inl (by omega)
    have ch : ∀ {x y z w : Int}, (x = y ∨ pr x y) → pr y z → (z = w ∨ pr z w) → pr x w := fun {x y z w} h1 h2 h3 => by
      have h4 : pr x z := by rcases h1 with rfl | h1; exact h2; exact hS.trans _ _ _ h1 h2
      rcases h3 with rfl | h3
      · exact h4
      · exact hS.trans _ _ _ h4 h3
    have fe : ∀ {p q : Nat}, (p = q ∨ pr (f p) (f q)) → (f p = f q ∨ pr (f p) (f q)) := fun {p q} h => by rcases h with rfl | h; exact .inl rfl; exact .inr h
    rcases Nat.lt_or_ge i s with hi | hi
    · rw [eL i hi1 hi]
      rcases Nat.lt_or_ge j e with hj | hj
      · rw [eL2 j hj1 hj]
        exact hL _ _ hi1 (by omega) (by omega)
      · rw [eR2 j hj hj2]
        have h9 := c3 (s - 1) (by omega) (by omega)
        rw [show mid + m - 1 - (s - 1) = e by omega] at h9
        exact ch (fe (leL i (s - 1) hi1 (by omega) (by omega))) h9 (fe (leR e j (by omega) (by omega) hj2))
    · rw [eR i hi hi2]
      rcases Nat.lt_or_ge j e with hj | hj
      · rw [eL2 j hj1 hj]
        have h9 := c4 s (Nat.le_refl _) (by omega)
        rw [show mid + m - 1 - s = e - 1 by omega] at h9
        exact ch (fe (leR _ (e - 1) (by omega) (by omega) (by omega))) h9 (fe (leL s _ (by omega) (by omega) (by omega)))
      · rw [eR2 j hj hj2]
        exact hR _ _ (by omega) (by omega) hj2
  have g1off : ∀ j, mid ≤ j → g1 j = rotF f s m e j := fun j hj => h1.off j (.inr hj)
  have sorted : SortedOn pr g2 a b := by
    intro i j hi hij hj
    rcases Nat.lt_or_ge j mid with hj2 | hj2
    · rw [h2.off i (.inl (by omega)), h2.off j (.inl hj2)]
      exact h1.sorted i j hi hij hj2
    · rcases Nat.lt_or_ge i mid with hi2 | hi2
      · rw [h2.off i (.inl hi2)]
        obtain ⟨p, p1, p2, p3⟩ := h1.from_ i hi hi2
        obtain ⟨q, q1, q2, q3⟩ := h2.from_ j hj2 hj
        rw [p3, q3, g1off q q1]
        exact low p p1 p2 q q1 q2
      · exact h2.sorted i j hi2 hij hj
  have fr : FromOn (rotF f s m e) g2 a b := by
    intro i hi1 hi2
    rcases Nat.lt_or_ge i mid with h | h
    · rw [h2.off i (.inl h)]
      obtain ⟨p, p1, p2, p3⟩ := h1.from_ i hi1 h
      exact ⟨p, p1, by omega, p3⟩
    · obtain ⟨q, q1, q2, q3⟩ := h2.from_ i h hi2
      exact ⟨q, by omega, q2, by rw [q3, g1off q q1]⟩
  have of : SameOff (rotF f s m e) g2 a b := by
    intro i hi
    rw [h2.off i (by omega)]
    exact h1.off i (by omega)
  exact Merged.comp (rot_from f a s m e b b1 b2 b3 b4) (rot_off f a s m e b b1 b2 b3 b4) ⟨sorted, fr, of⟩
end Go.Proofs.YtfameghednapkaaDoor.Sort
