/- Plain: the cut of a merge, found by halving; one alone on a side. -/
import Derived.Test.YtfameghednapkaaDoorSymPB
namespace Go.Proofs.YtfameghednapkaaDoor.Sort
set_option linter.unusedVariables false
set_option linter.unusedSimpArgs false
/-- How far the search for the cut has come. -/
structure CutInv (pr : Int → Int → Prop) (f : Nat → Int) (lo hi n s r : Nat) : Prop where
  h1 : lo ≤ s
  h2 : s ≤ r
  h3 : r ≤ hi
  h4 : ∀ c, lo ≤ c → c < s → pr (f c) (f (n - 1 - c))
  h5 : ∀ c, r ≤ c → c < hi → pr (f (n - 1 - c)) (f c)
theorem CutInv.start {pr : Int → Int → Prop} {f : Nat → Int} {lo hi n : Nat} (h : lo ≤ hi) : CutInv pr f lo hi n lo hi := ⟨Nat.le_refl _, h, Nat.le_refl _, fun c h1 h2 => by omega, fun c h1 h2 => by omega⟩
theorem CutInv.done {pr : Int → Int → Prop} {f : Nat → Int} {lo hi n s : Nat} (h : CutInv pr f lo hi n s s) : CutAt pr f lo hi n s := ⟨h.h1, h.h3, h.h4, h.h5⟩
/-- The places of the search lie left and right. -/
structure CutOk (pr : Int → Int → Prop) (cf : Int → Int → Int) (f : Nat → Int) (a m b lo hi n : Nat) : Prop where
  strict : Strict pr
  left : SortedOn pr f a m
  right : SortedOn pr f m b
  tells : Tells2 pr cf f a m b
  lo_ : a ≤ lo
  hi_ : hi ≤ m
  in_ : ∀ c, lo ≤ c → c < hi → m ≤ n - 1 - c ∧ n - 1 - c < b ∧ c ≤ n - 1
theorem CutOk.up {pr : Int → Int → Prop} {cf : Int → Int → Int} {f : Nat → Int} {a m b lo hi n s r c : Nat} (k : CutOk pr cf f a m b lo hi n) (h : CutInv pr f lo hi n s r) (h1 : s ≤ c) (h2 : c < r) (ht : ¬ cf (f (n - 1 - c)) (f c) < 0) : CutInv pr f lo hi n (c + 1) r := by
  have hc := k.in_ c (by have := h.h1; omega) (by have := h.h3; omega)
  have ht2 := k.tells c (n - 1 - c) (by have := h.h1; have := k.lo_; omega) (by have := h.h3; have := k.hi_; omega) hc.1 hc.2.1
  have hp : pr (f c) (f (n - 1 - c)) := by
    rcases k.strict.total _ _ ht2.1 with h9 | h9
    · exact h9
    · exact absurd (ht2.2.2 h9) ht
  refine ⟨by have := h.h1; omega, by omega, h.h3, fun d d1 d2 => ?_, h.h5⟩
  rcases Nat.lt_or_ge d c with h9 | h9
  · have hd := k.in_ d d1 (by have := h.h3; omega)
    exact k.strict.trans _ _ _ (k.left d c (by have := k.lo_; omega) h9 (by have := h.h3; have := k.hi_; omega)) (k.strict.trans _ _ _ hp (k.right (n - 1 - c) (n - 1 - d) hc.1 (by omega) hd.2.1))
  · obtain rfl : d = c := by omega
    exact hp
theorem CutOk.down {pr : Int → Int → Prop} {cf : Int → Int → Int} {f : Nat → Int} {a m b lo hi n s r c : Nat} (k : CutOk pr cf f a m b lo hi n) (h : CutInv pr f lo hi n s r) (h1 : s ≤ c) (h2 : c < r) (ht : cf (f (n - 1 - c)) (f c) < 0) : CutInv pr f lo hi n s c := by
  have hc := k.in_ c (by have := h.h1; omega) (by have := h.h3; omega)
  have ht2 := k.tells c (n - 1 - c) (by have := h.h1; have := k.lo_; omega) (by have := h.h3; have := k.hi_; omega) hc.1 hc.2.1
  have hp : pr (f (n - 1 - c)) (f c) := ht2.2.1 ht
  refine ⟨h.h1, h1, by have := h.h3; omega, h.h4, fun d d1 d2 => ?_⟩
  rcases Nat.lt_or_ge c d with h9 | h9
  · have hd := k.in_ d (by have := h.h1; omega) d2
    exact k.strict.trans _ _ _ (k.right (n - 1 - d) (n - 1 - c) hd.1 (by omega) hc.2.1) (k.strict.trans _ _ _ hp (k.left c d (by have := h.h1; have := k.lo_; omega) h9 (by have := k.hi_; omega)))
  · obtain rfl : d = c := by omega
    exact hp
/-- One alone on the left. -/
structure OneL (pr : Int → Int → Prop) (f : Nat → Int) (a b i j : Nat) : Prop where
  h1 : a + 1 ≤ i
  h2 : i ≤ j
  h3 : j ≤ b
  h4 : ∀ h, a + 1 ≤ h → h < i → pr (f h) (f a)
  h5 : ∀ h, j ≤ h → h < b → pr (f a) (f h)
theorem OneL.start {pr : Int → Int → Prop} {f : Nat → Int} {a b : Nat} (h : a + 1 ≤ b) : OneL pr f a b (a + 1) b := ⟨Nat.le_refl _, h, Nat.le_refl _, fun h h1 h2 => by omega, fun h h1 h2 => by omega⟩
theorem OneL.up {pr : Int → Int → Prop} {cf : Int → Int → Int} {f : Nat → Int} {a b i j h : Nat} (hS : Strict pr) (hR : SortedOn pr f (a + 1) b) (hT : Tells2 pr cf f a (a + 1) b) (k : OneL pr f a b i j) (h1 : i ≤ h) (h2 : h < j) (ht : cf (f h) (f a) < 0) : OneL pr f a b (h + 1) j := by
  have hp := (hT a h (Nat.le_refl _) (by omega) (by have := k.h1; omega) (by have := k.h3; omega)).2.1 ht
  refine ⟨by have := k.h1; omega, by omega, k.h3, fun d d1 d2 => ?_, k.h5⟩
  rcases Nat.lt_or_ge d h with h9 | h9
  · exact hS.trans _ _ _ (hR d h d1 h9 (by have := k.h3; omega)) hp
  · obtain rfl : d = h := by omega
    exact hp
theorem OneL.down {pr : Int → Int → Prop} {cf : Int → Int → Int} {f : Nat → Int} {a b i j h : Nat} (hS : Strict pr) (hR : SortedOn pr f (a + 1) b) (hT : Tells2 pr cf f a (a + 1) b) (k : OneL pr f a b i j) (h1 : i ≤ h) (h2 : h < j) (ht : ¬ cf (f h) (f a) < 0) : OneL pr f a b i h := by
  have h0 := hT a h (Nat.le_refl _) (by omega) (by have := k.h1; omega) (by have := k.h3; omega)
  have hp : pr (f a) (f h) := by
    rcases hS.total _ _ h0.1 with h9 | h9
    · exact h9
    · exact absurd (h0.2.2 h9) ht
  refine ⟨k.h1, h1, by have := k.h3; omega, k.h4, fun d d1 d2 => ?_⟩
  rcases Nat.lt_or_ge h d with h9 | h9
  · exact hS.trans _ _ _ hp (hR h d (by have := k.h1; omega) h9 d2)
  · obtain rfl : d = h := by omega
    exact hp
theorem OneL.merged {pr : Int → Int → Prop} {f : Nat → Int} {a b i : Nat} (hS : Strict pr) (hR : SortedOn pr f (a + 1) b) (k : OneL pr f a b i i) : Merged pr f (rotF f a (a + 1) i) a b := by
  obtain ⟨k1, k2, k3, k4, k5⟩ := k
  refine ⟨fun p q hp hpq hq => ?_, rot_from f a a (a + 1) i b (Nat.le_refl _) (by omega) k1 k3, rot_off f a a (a + 1) i b (Nat.le_refl _) (by omega) k1 k3⟩
  have e1 : ∀ j, a ≤ j → j < i - 1 → rotF f a (a + 1) i j = f (j + 1) := fun j _ _ => by unfold rotF; rw [if_pos (by omega)]; congr 1 <;> omega
  have e2 : rotF f a (a + 1) i (i - 1) = f a := by
    unfold rotF
    rw [if_neg (by omega), if_pos (by omega)]
    congr 1 <;> omega
  have e3 : ∀ j, i ≤ j → rotF f a (a + 1) i j = f j := fun j _ => by unfold rotF; rw [if_neg (by omega), if_neg (by omega)]
  rcases Nat.lt_or_ge q (i - 1) with h | h
  · rw [e1 p hp (by omega), e1 q (by omega) h]
    exact hR _ _ (by omega) (by omega) (by omega)
  · rcases Nat.lt_or_ge q i with h2 | h2
    · obtain rfl : q = i - 1 := by omega
      rw [e1 p hp (by omega), e2]
      exact k4 _ (by omega) (by omega)
    · rw [e3 q h2]
      rcases Nat.lt_or_ge p (i - 1) with h3 | h3
      · rw [e1 p hp h3]
        exact hR _ _ (by omega) (by omega) hq
      · rcases Nat.lt_or_ge p i with h4 | h4
        · obtain rfl : p = i - 1 := by omega
          rw [e2]
          exact k5 q h2 hq
        · rw [e3 p h4]
          exact hR _ _ (by omega) hpq hq
/-- One alone on the right. -/
structure OneRt (pr : Int → Int → Prop) (f : Nat → Int) (a m i j : Nat) : Prop where
  h1 : a ≤ i
  h2 : i ≤ j
  h3 : j ≤ m
  h4 : ∀ h, a ≤ h → h < i → pr (f h) (f m)
  h5 : ∀ h, j ≤ h → h < m → pr (f m) (f h)
theorem OneRt.start {pr : Int → Int → Prop} {f : Nat → Int} {a m : Nat} (h : a ≤ m) : OneRt pr f a m a m := ⟨Nat.le_refl _, h, Nat.le_refl _, fun h h1 h2 => by omega, fun h h1 h2 => by omega⟩
theorem OneRt.up {pr : Int → Int → Prop} {cf : Int → Int → Int} {f : Nat → Int} {a m i j h : Nat} (hS : Strict pr) (hL : SortedOn pr f a m) (hT : Tells2 pr cf f a m (m + 1)) (k : OneRt pr f a m i j) (h1 : i ≤ h) (h2 : h < j) (ht : ¬ cf (f m) (f h) < 0) : OneRt pr f a m (h + 1) j := by
  have h0 := hT h m (by have := k.h1; omega) (by have := k.h3; omega) (Nat.le_refl _) (by omega)
  have hp : pr (f h) (f m) := by
    rcases hS.total _ _ h0.1 with h9 | h9
    · exact h9
    · exact absurd (h0.2.2 h9) ht
  refine ⟨by have := k.h1; omega, by omega, k.h3, fun d d1 d2 => ?_, k.h5⟩
  rcases Nat.lt_or_ge d h with h9 | h9
  · exact hS.trans _ _ _ (hL d h d1 h9 (by have := k.h3; omega)) hp
  · obtain rfl : d = h := by omega
    exact hp
theorem OneRt.down {pr : Int → Int → Prop} {cf : Int → Int → Int} {f : Nat → Int} {a m i j h : Nat} (hS : Strict pr) (hL : SortedOn pr f a m) (hT : Tells2 pr cf f a m (m + 1)) (k : OneRt pr f a m i j) (h1 : i ≤ h) (h2 : h < j) (ht : cf (f m) (f h) < 0) : OneRt pr f a m i h := by
  have hp := (hT h m (by have := k.h1; omega) (by have := k.h3; omega) (Nat.le_refl _) (by omega)).2.1 ht
  refine ⟨k.h1, h1, by have := k.h3; omega, k.h4, fun d d1 d2 => ?_⟩
  rcases Nat.lt_or_ge h d with h9 | h9
  · exact hS.trans _ _ _ hp (hL h d (by have := k.h1; omega) h9 d2)
  · obtain rfl : d = h := by omega
    exact hp
theorem OneRt.merged {pr : Int → Int → Prop} {f : Nat → Int} {a m i : Nat} (hS : Strict pr) (hL : SortedOn pr f a m) (k : OneRt pr f a m i i) : Merged pr f (rotF f i m (m + 1)) a (m + 1) := by
  obtain ⟨k1, k2, k3, k4, k5⟩ := k
  refine ⟨fun p q hp hpq hq => ?_, rot_from f a i m (m + 1) (m + 1) k1 k3 (by omega) (Nat.le_refl _), rot_off f a i m (m + 1) (m + 1) k1 k3 (by omega) (Nat.le_refl _)⟩
  have e1 : ∀ j, j < i → rotF f i m (m + 1) j = f j := fun j _ => by unfold rotF; rw [if_neg (by omega), if_neg (by omega)]
  have e2 : rotF f i m (m + 1) i = f m := by
    unfold rotF
    rw [if_pos (by omega)]
    congr 1 <;> omega
  have e3 : ∀ j, i < j → j < m + 1 → rotF f i m (m + 1) j = f (j - 1) := fun j _ _ => by unfold rotF; rw [if_neg (by omega), if_pos (by omega)]; congr 1 <;> omega
  rcases Nat.lt_or_ge q i with h | h
  · rw [e1 p (by omega), e1 q h]
    exact hL _ _ hp hpq (by omega)
  · rcases Nat.lt_or_ge i q with h2 | h2
    · rw [e3 q h2 hq]
      rcases Nat.lt_or_ge p i with h3 | h3
      · rw [e1 p h3]
        exact hL _ _ hp (by omega) (by omega)
      · rcases Nat.lt_or_ge i p with h4 | h4
        · rw [e3 p h4 (by omega)]
          exact hL _ _ (by omega) (by omega) (by omega)
        · obtain rfl : p = i := by omega
          rw [e2]
          exact k5 _ (by omega) (by omega)
    · obtain rfl : q = i := by omega
      rw [e1 p hpq, e2]
      exact k4 p hp hpq
/-- A piece moves down, or up, by neighbours: what stands there on the way. -/
theorem move_up (f : Nat → Int) (a k : Nat) (h : a ≤ k) (j : Nat) : rotF f a (a + 1) (k + 2) j = if j = k then rotF f a (a + 1) (k + 1) (k + 1) else if j = k + 1 then rotF f a (a + 1) (k + 1) k else rotF f a (a + 1) (k + 1) j := by
  unfold rotF
  repeat' split
  all_goals first | (exfalso; omega) | (congr 1 <;> omega)
theorem move_down (f : Nat → Int) (k m : Nat) (h : k < m) (j : Nat) : rotF f k m (m + 1) j = if j = k then rotF f (k + 1) m (m + 1) (k + 1) else if j = k + 1 then rotF f (k + 1) m (m + 1) k else rotF f (k + 1) m (m + 1) j := by
  unfold rotF
  repeat' split
  all_goals first | (exfalso; omega) | (congr 1 <;> omega)
theorem rot_id (f : Nat → Int) (a j : Nat) : rotF f a (a + 1) (a + 1) j = f j := by
  unfold rotF
  repeat' split
  all_goals first | (exfalso; omega) | (congr 1 <;> omega)
theorem rot_id' (f : Nat → Int) (m j : Nat) : rotF f m m (m + 1) j = f j := by
  unfold rotF
  repeat' split
  all_goals first | (exfalso; omega) | (congr 1 <;> omega)
end Go.Proofs.YtfameghednapkaaDoor.Sort
