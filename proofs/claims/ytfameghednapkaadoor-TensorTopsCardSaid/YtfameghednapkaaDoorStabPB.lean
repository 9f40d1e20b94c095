/- Plain: insertion of a block; blocks that are merged. -/
import Derived.Test.YtfameghednapkaaDoorSymRB
namespace Go.Proofs.YtfameghednapkaaDoor.Sort
open Go.RowKit
set_option linter.unusedVariables false
set_option linter.unusedSimpArgs false
theorem swp_getD {xs : List Int} {j : Nat} (h : j + 1 < xs.length) (t : Nat) : (swp xs j).getD t 0 = if t = j then xs.getD (j + 1) 0 else if t = j + 1 then xs.getD j 0 else xs.getD t 0 := by
  unfold swp
  exact getD_set2 _ _ h (by omega) t
theorem insIn_rot {pr : Int → Int → Prop} {cf : Int → Int → Int} (hS : Strict pr) (a : Nat) : ∀ (j : Nat) (xs : List Int), a ≤ j → j < xs.length → SortedOn pr (fun t => xs.getD t 0) a j →
    (∀ p, a ≤ p → p < j → xs.getD p 0 ≠ xs.getD j 0 ∧ (cf (xs.getD j 0) (xs.getD p 0) < 0 ↔ pr (xs.getD j 0) (xs.getD p 0))) →
    ∃ i, a ≤ i ∧ i ≤ j ∧ (∀ t, (insIn (ltOf cf) a j xs).getD t 0 = rotF (fun t => xs.getD t 0) i j (j + 1) t) ∧ (∀ h, a ≤ h → h < i → pr (xs.getD h 0) (xs.getD j 0)) ∧ (∀ h, i ≤ h → h < j → pr (xs.getD j 0) (xs.getD h 0))
  | 0, xs, haj, hj, hs, ht => ⟨0, haj, Nat.le_refl _, fun t => (rot_id' (fun t => xs.getD t 0) 0 t).symm, fun h h1 h2 => by omega, fun h h1 h2 => by omega⟩
  | j + 1, xs, haj, hj, hs, ht => by
    rcases Nat.lt_or_ge j a with hlt | hge
    · have e : a = j + 1 := by omega
      subst e
      refine ⟨j + 1, Nat.le_refl _, Nat.le_refl _, fun t => ?_, fun h h1 h2 => by omega, fun h h1 h2 => by omega⟩
      rw [insIn_self]
      exact (rot_id' (fun t => xs.getD t 0) (j + 1) t).symm
    · have h0 := ht j hge (by omega)
      by_cases hc : cf (xs.getD (j + 1) 0) (xs.getD j 0) < 0
      · have hins : insIn (ltOf cf) a (j + 1) xs = insIn (ltOf cf) a j (swp xs j) := by
          show (if a < j + 1 ∧ ltOf cf (xs.getD (j + 1) 0) (xs.getD j 0) = true then insIn (ltOf cf) a j (swp xs j) else xs) = _
          rw [if_pos ⟨by omega, by unfold ltOf; simpa using hc⟩]
        have g1 : ∀ t, t < j → (swp xs j).getD t 0 = xs.getD t 0 := fun t h => by rw [swp_getD hj, if_neg (by omega), if_neg (by omega)]
        have g2 : (swp xs j).getD j 0 = xs.getD (j + 1) 0 := by rw [swp_getD hj, if_pos rfl]
        have g3 : (swp xs j).getD (j + 1) 0 = xs.getD j 0 := by rw [swp_getD hj, if_neg (by omega), if_pos rfl]
        have g4 : ∀ t, j + 1 < t → (swp xs j).getD t 0 = xs.getD t 0 := fun t h => by rw [swp_getD hj, if_neg (by omega), if_neg (by omega)]
        obtain ⟨i, i1, i2, i3, i4, i5⟩ := insIn_rot hS a j (swp xs j) hge (by rw [swp_length]; omega) (fun p q hp hpq hq => by
          show pr ((swp xs j).getD p 0) ((swp xs j).getD q 0)
          rw [g1 p (by omega), g1 q hq]
          exact hs p q hp hpq (by omega)) (fun p hp1 hp2 => by
          rw [g1 p hp2, g2]
          exact ht p hp1 (by omega))
        refine ⟨i, i1, by omega, fun t => ?_, fun h h1 h2 => ?_, fun h h1 h2 => ?_⟩
        · rw [hins, i3 t]
          unfold rotF
          rcases Nat.lt_or_ge t i with c1 | c1
          · rw [if_neg (by omega), if_neg (by omega), if_neg (by omega), if_neg (by omega)]
            exact g1 t (by omega)
          · rcases Nat.lt_or_ge i t with c2 | c2
            · rcases Nat.lt_or_ge j t with c3 | c3
              · rcases Nat.lt_or_ge (j + 1) t with c4 | c4
                · rw [if_neg (by omega), if_neg (by omega), if_neg (by omega), if_neg (by omega)]
                  exact g4 t c4
                · obtain rfl : t = j + 1 := by omega
                  rw [if_neg (by omega), if_neg (by omega), if_neg (by omega), if_pos (by omega)]
                  show (swp xs j).getD (j + 1) 0 = _
                  rw [g3]
                  congr 1 <;> omega
              · rw [if_neg (by omega), if_pos (by omega), if_neg (by omega), if_pos (by omega)]
                show (swp xs j).getD _ 0 = xs.getD _ 0
                rw [g1 _ (by omega)]
                congr 1 <;> omega
            · obtain rfl : t = i := by omega
              rw [if_pos (by omega), if_pos (by omega)]
              show (swp xs j).getD _ 0 = xs.getD _ 0
              rw [show j + (t - t) = j by omega, g2]
              congr 1 <;> omega
        · have := i4 h h1 h2
          rwa [g1 h (by omega), g2] at this
        · rcases Nat.lt_or_ge h j with c | c
          · have := i5 h h1 c
            rwa [g1 h c, g2] at this
          · obtain rfl : h = j := by omega
            exact h0.2.1 hc
      · have hins : insIn (ltOf cf) a (j + 1) xs = xs := by
          show (if a < j + 1 ∧ ltOf cf (xs.getD (j + 1) 0) (xs.getD j 0) = true then insIn (ltOf cf) a j (swp xs j) else xs) = _
          rw [if_neg (fun h => hc (by simpa [ltOf] using h.2))]
        have hp : pr (xs.getD j 0) (xs.getD (j + 1) 0) := by
          rcases hS.total _ _ h0.1 with h9 | h9
          · exact h9
          · exact absurd (h0.2.2 h9) hc
        refine ⟨j + 1, by omega, Nat.le_refl _, fun t => ?_, fun h h1 h2 => ?_, fun h h1 h2 => by omega⟩
        · rw [hins]
          exact (rot_id' (fun t => xs.getD t 0) (j + 1) t).symm
        · rcases Nat.lt_or_ge h j with c | c
          · exact hS.trans _ _ _ (hs h j h1 c (by omega)) hp
          · obtain rfl : h = j := by omega
            exact hp
theorem ins_block {pr : Int → Int → Prop} {cf : Int → Int → Int} (hS : Strict pr) (xs : List Int) (a : Nat) : ∀ (m : Nat), a + m < xs.length →
    (∀ p q, a ≤ p → p < q → q ≤ a + m → xs.getD p 0 ≠ xs.getD q 0 ∧ (cf (xs.getD q 0) (xs.getD p 0) < 0 ↔ pr (xs.getD q 0) (xs.getD p 0))) →
    Merged pr (fun t => xs.getD t 0) (fun t => (insOut (ltOf cf) a m xs).getD t 0) a (a + 1 + m)
  | 0, hl, ht => ⟨fun i j hi hij hj => by omega, fun i h1 h2 => ⟨i, h1, h2, rfl⟩, fun _ _ => rfl⟩
  | m + 1, hl, ht => by
    have ih := ins_block hS xs a m (by omega) (fun p q h1 h2 h3 => ht p q h1 h2 (by omega))
    have hoff : (insOut (ltOf cf) a m xs).getD (a + 1 + m) 0 = xs.getD (a + 1 + m) 0 := ih.off _ (.inr (Nat.le_refl _))
    obtain ⟨i, i1, i2, i3, i4, i5⟩ := insIn_rot (cf := cf) hS a (a + 1 + m) (insOut (ltOf cf) a m xs) (by omega) (by rw [insOut_length]; omega) ih.sorted (fun p p1 p2 => by
      obtain ⟨q, q1, q2, q3⟩ := ih.from_ p p1 p2
      replace q3 : (insOut (ltOf cf) a m xs).getD p 0 = xs.getD q 0 := q3
      rw [q3, hoff]
      exact ht q _ q1 q2 (by omega))
    have hm := OneRt.merged (f := fun t => (insOut (ltOf cf) a m xs).getD t 0) (i := i) hS ih.sorted ⟨i1, Nat.le_refl _, i2, i4, i5⟩
    have he : (fun t => (insOut (ltOf cf) a (m + 1) xs).getD t 0) = rotF (fun t => (insOut (ltOf cf) a m xs).getD t 0) i (a + 1 + m) (a + 1 + m + 1) := funext i3
    rw [he]
    have h1 : FromOn (fun t => xs.getD t 0) (fun t => (insOut (ltOf cf) a m xs).getD t 0) a (a + 1 + m + 1) := fun i hi1 hi2 => by
      rcases Nat.lt_or_ge i (a + 1 + m) with c | c
      · obtain ⟨q, q1, q2, q3⟩ := ih.from_ i hi1 c
        exact ⟨q, q1, by omega, q3⟩
      · exact ⟨i, hi1, hi2, ih.off i (.inr c)⟩
    have h2 : SameOff (fun t => xs.getD t 0) (fun t => (insOut (ltOf cf) a m xs).getD t 0) a (a + 1 + m + 1) := fun i hi => ih.off i (by omega)
    exact Merged.comp h1 h2 hm
def Good (pr : Int → Int → Prop) (f0 h : Nat → Int) (a b : Nat) : Prop := SortedOn pr h a b ∧ FromOn f0 h a b
theorem Good.congr {pr : Int → Int → Prop} {f0 h g : Nat → Int} {a b : Nat} (k : Good pr f0 h a b) (he : ∀ j, a ≤ j → j < b → g j = h j) : Good pr f0 g a b :=
  ⟨fun i j hi hij hj => by rw [he i hi (by omega), he j (by omega) hj]; exact k.1 i j hi hij hj, fun i h1 h2 => by rw [he i h1 h2]; exact k.2 i h1 h2⟩
inductive Front (G : Nat → Nat → Prop) (s : Nat) : Nat → Prop
  | nil : Front G s 0
  | snoc {a : Nat} : Front G s a → G a (a + s) → Front G s (a + s)
inductive Tail (G : Nat → Nat → Prop) (s n : Nat) : Nat → Prop
  | last {a : Nat} : a ≤ n → n - a < s → G a n → Tail G s n a
  | more {a : Nat} : a + s ≤ n → G a (a + s) → Tail G s n (a + s) → Tail G s n a
theorem Front.congr {pr : Int → Int → Prop} {f0 h g : Nat → Int} {s a : Nat} (k : Front (Good pr f0 h) s a) : (∀ j, j < a → g j = h j) → Front (Good pr f0 g) s a := by
  induction k with
  | nil => exact fun _ => .nil
  | snoc k1 k2 ih => exact fun he => .snoc (ih fun j hj => he j (by omega)) (k2.congr fun j _ hj => he j hj)
theorem Tail.congr {pr : Int → Int → Prop} {f0 h g : Nat → Int} {s n a : Nat} (k : Tail (Good pr f0 h) s n a) : (∀ j, a ≤ j → j < n → g j = h j) → Tail (Good pr f0 g) s n a := by
  induction k with
  | last h1 h2 h3 => exact fun he => .last h1 h2 (h3.congr he)
  | more h1 h2 h3 ih => exact fun he => .more h1 (h2.congr fun j hj1 hj2 => he j hj1 (by omega)) (ih fun j hj1 hj2 => he j (by omega) hj2)
theorem Front.tail {G : Nat → Nat → Prop} {s n a : Nat} (k : Front G s a) : Tail G s n a → a ≤ n → Tail G s n 0 := by
  induction k with
  | nil => exact fun h _ => h
  | snoc k1 k2 ih => exact fun h hn => ih (.more hn k2 h) (by omega)
theorem Tail.two {G : Nat → Nat → Prop} {s n a : Nat} (k : Tail G s n a) (h : a + 2 * s ≤ n) (hs : 0 < s) : G a (a + s) ∧ G (a + s) (a + 2 * s) ∧ Tail G s n (a + 2 * s) := by
  cases k with
  | last h1 h2 h3 => omega
  | more h1 h2 h3 =>
    cases h3 with
    | last g1 g2 g3 => omega
    | more g1 g2 g3 =>
      rw [show a + s + s = a + 2 * s by omega] at g2 g3
      exact ⟨h2, g2, g3⟩
theorem Tail.end_ {G : Nat → Nat → Prop} {s n a : Nat} (k : Tail G s n a) (h : n < a + 2 * s) (hn : a ≤ n) : (a + s < n ∧ G a (a + s) ∧ G (a + s) n) ∨ (n ≤ a + s ∧ G a n) := by
  cases k with
  | last h1 h2 h3 => exact .inr ⟨by omega, h3⟩
  | more h1 h2 h3 =>
    rcases Nat.lt_or_ge (a + s) n with c | c
    · cases h3 with
      | last g1 g2 g3 => exact .inl ⟨c, h2, g3⟩
      | more g1 g2 g3 => omega
    · obtain rfl : n = a + s := by omega
      exact .inr ⟨Nat.le_refl _, h2⟩
theorem Tail.whole {G : Nat → Nat → Prop} {s n : Nat} (k : Tail G s n 0) (h : n ≤ s) (hn : 0 < s) : G 0 n := by
  cases k with
  | last h1 h2 h3 => exact h3
  | more h1 h2 h3 =>
    obtain rfl : n = 0 + s := by omega
    exact h2
/-- What the comparison tells of what stood ahead. -/
def Ord0 (pr : Int → Int → Prop) (cf : Int → Int → Int) (f0 : Nat → Int) (n : Nat) : Prop := ∀ p q, p < q → q < n → f0 p ≠ f0 q ∧ (cf (f0 q) (f0 p) < 0 ↔ pr (f0 q) (f0 p))
theorem good_tells {pr : Int → Int → Prop} {cf : Int → Int → Int} {f0 h : Nat → Int} {a m b n : Nat} (hO : Ord0 pr cf f0 n) (hl : Good pr f0 h a m) (hr : Good pr f0 h m b) (hb : b ≤ n) : Tells2 pr cf h a m b := fun p q p1 p2 q1 q2 => by
  obtain ⟨p', p1', p2', p3'⟩ := hl.2 p p1 p2
  obtain ⟨q', q1', q2', q3'⟩ := hr.2 q q1 q2
  rw [p3', q3']
  exact hO p' q' (by omega) (by omega)
theorem good_merged {pr : Int → Int → Prop} {f0 h g : Nat → Int} {a m b : Nat} (ham : a ≤ m) (hmb : m ≤ b) (hl : Good pr f0 h a m) (hr : Good pr f0 h m b) (hm : Merged pr h g a b) : Good pr f0 g a b :=
  ⟨hm.sorted, fun i h1 h2 => by
    obtain ⟨j, j1, j2, j3⟩ := hm.from_ i h1 h2
    rw [j3]
    rcases Nat.lt_or_ge j m with c | c
    · obtain ⟨t, t1, t2, t3⟩ := hl.2 j j1 c
      exact ⟨t, t1, by omega, t3⟩
    · obtain ⟨t, t1, t2, t3⟩ := hr.2 j c j2
      exact ⟨t, by omega, t2, t3⟩⟩
theorem good_block {pr : Int → Int → Prop} {cf : Int → Int → Int} {f0 : Nat → Int} {ys : List Int} {a b n : Nat} (hS : Strict pr) (hO : Ord0 pr cf f0 n) (hl : ys.length = n) (hb : b ≤ n) (hab : a ≤ b) (he : ∀ j, a ≤ j → ys.getD j 0 = f0 j) :
    Good pr f0 (fun t => (insOut (ltOf cf) a (b - (a + 1)) ys).getD t 0) a b ∧ SameOff (fun t => ys.getD t 0) (fun t => (insOut (ltOf cf) a (b - (a + 1)) ys).getD t 0) a b := by
  rcases Nat.lt_or_ge a b with c | c
  · have hm := ins_block (cf := cf) hS ys a (b - (a + 1)) (by omega) (fun p q h1 h2 h3 => by
      rw [he p h1, he q (by omega)]
      exact hO p q h2 (by omega))
    rw [show a + 1 + (b - (a + 1)) = b by omega] at hm
    refine ⟨⟨hm.sorted, fun i h1 h2 => ?_⟩, hm.off⟩
    obtain ⟨j, j1, j2, j3⟩ := hm.from_ i h1 h2
    exact ⟨j, j1, j2, by rw [j3]; exact he j j1⟩
  · have e : b - (a + 1) = 0 := by omega
    rw [e]
    exact ⟨⟨fun i j _ _ _ => by omega, fun i _ _ => by omega⟩, fun _ _ => rfl⟩
end Go.Proofs.YtfameghednapkaaDoor.Sort
