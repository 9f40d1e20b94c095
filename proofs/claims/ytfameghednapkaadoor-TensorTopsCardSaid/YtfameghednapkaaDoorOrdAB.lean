/- The order of the places of numbers, however many. -/
import Derived.Test.YtfameghednapkaaDoorStabB
import Derived.Test.YtfameghednapkaaDoorBunT3
namespace Go.Proofs.YtfameghednapkaaDoor.Top
open Go.RowKit Go.Proofs.YtfameghednapkaaDoorW.PrintWords Go.Proofs.YtfameghednapkaaDoorW.PrintLast Go.Proofs.YtfameghednapkaaDoorW.PrintMore Go.Proofs.YtfameghednapkaaDoor.K Go.Proofs.YtfameghednapkaaDoor.RI Go.Proofs.YtfameghednapkaaDoor.Sort Go.Proofs.YtfameghednapkaaDoor.Ten Go.Proofs.YtfameghednapkaaDoor.Fixed
set_option linter.unusedVariables false
set_option linter.unusedSimpArgs false
theorem pigeon : ∀ (n : Nat) (f : Nat → Nat), (∀ i, i < n → f i < n) → (∀ i j, i < n → j < n → f i = f j → i = j) → ∀ y, y < n → ∃ i, i < n ∧ f i = y
  | 0, f, hf, inj, y, hy => by omega
  | m + 1, f, hf, inj, y, hy => by
    have key := pigeon m (fun i => if f i = m then f m else f i) (fun i hi => by
      show (if f i = m then f m else f i) < m
      have h1 := hf i (by omega)
      by_cases e : f i = m
      · rw [if_pos e]
        have h2 := hf m (by omega)
        rcases Nat.lt_or_ge (f m) m with c | c
        · exact c
        · have := inj i m (by omega) (by omega) (by omega)
          omega
      · rw [if_neg e]; omega) (fun i j hi hj h => by
      replace h : (if f i = m then f m else f i) = (if f j = m then f m else f j) := h
      by_cases e : f i = m
      · by_cases e2 : f j = m
        · exact inj i j (by omega) (by omega) (by omega)
        · rw [if_pos e, if_neg e2] at h
          have := inj m j (by omega) (by omega) h
          omega
      · by_cases e2 : f j = m
        · rw [if_neg e, if_pos e2] at h
          have := inj i m (by omega) (by omega) h
          omega
        · rw [if_neg e, if_neg e2] at h
          exact inj i j (by omega) (by omega) h)
    by_cases hc : f m = y
    · exact ⟨m, by omega, hc⟩
    · rcases Nat.lt_or_ge y m with hy2 | hy2
      · obtain ⟨i, hi, h⟩ := key y hy2
        replace h : (if f i = m then f m else f i) = y := h
        by_cases e : f i = m
        · rw [if_pos e] at h; exact absurd h hc
        · rw [if_neg e] at h; exact ⟨i, by omega, h⟩
      · have h2 := hf m (by omega)
        obtain ⟨i, hi, h⟩ := key (f m) (by omega)
        replace h : (if f i = m then f m else f i) = f m := h
        by_cases e : f i = m
        · exact ⟨i, by omega, by omega⟩
        · rw [if_neg e] at h
          have := inj i m (by omega) (by omega) h
          omega
/-- Ahead: a greater number, or the same one at a place ahead. -/
def prV (l : List Int) (x y : Int) : Prop := cfV l x y < 0 ∨ (cfV l x y = 0 ∧ x < y)
theorem prV_strict (l : List Int) : Strict (prV l) :=
  ⟨fun x h => by unfold prV cfV at h; omega, fun x y z h1 h2 => by unfold prV cfV at *; omega, fun x y h => by unfold prV cfV; omega⟩
theorem places_getD {n j : Nat} (h : j < n) : (places n).getD j 0 = (j : Int) := by
  simp [places, List.getD_eq_getElem?_getD, h]
theorem prV_ord (l : List Int) (n : Nat) : Ord0 (prV l) (cfV l) (fun j => (places n).getD j 0) n := fun p q h1 h2 => by
  show (places n).getD p 0 ≠ (places n).getD q 0 ∧ (cfV l ((places n).getD q 0) ((places n).getD p 0) < 0 ↔ prV l ((places n).getD q 0) ((places n).getD p 0))
  rw [places_getD h2, places_getD (show p < n by omega)]
  unfold prV
  refine ⟨by omega, fun h => .inl h, fun h => ?_⟩
  rcases h with h | h
  · exact h
  · omega
/-- All of a sorted row of places stand there. -/
theorem good_onto {l : List Int} {n : Nat} {h : Nat → Int} (k : Sort.Good (prV l) (fun j => (places n).getD j 0) h 0 n) (y : Nat) (hy : y < n) : ∃ i, i < n ∧ h i = (y : Int) := by
  have hv : ∀ i, i < n → ∃ t : Nat, t < n ∧ h i = (t : Int) := fun i hi => by
    obtain ⟨j, _, j2, j3⟩ := k.2 i (Nat.zero_le _) hi
    replace j3 : h i = (places n).getD j 0 := j3
    rw [places_getD j2] at j3
    exact ⟨j, j2, j3⟩
  obtain ⟨i, hi, h1⟩ := pigeon n (fun i => (h i).toNat) (fun i hi => by
    obtain ⟨t, t1, t2⟩ := hv i hi
    show (h i).toNat < n
    omega) (fun i j hi hj he => by
    replace he : (h i).toNat = (h j).toNat := he
    obtain ⟨t, t1, t2⟩ := hv i hi
    obtain ⟨s, s1, s2⟩ := hv j hj
    have e : h i = h j := by omega
    rcases Nat.lt_trichotomy i j with c | c | c
    · have := k.1 i j (Nat.zero_le _) c hj
      rw [e] at this
      exact absurd this ((prV_strict l).irrefl _)
    · exact c
    · have := k.1 j i (Nat.zero_le _) c hi
      rw [e] at this
      exact absurd this ((prV_strict l).irrefl _)) y hy
  replace h1 : (h i).toNat = y := h1
  obtain ⟨t, t1, t2⟩ := hv i hi
  exact ⟨i, hi, by omega⟩
theorem good_unique {l : List Int} {n : Nat} {h h' : Nat → Int} (k : Sort.Good (prV l) (fun j => (places n).getD j 0) h 0 n) (k' : Sort.Good (prV l) (fun j => (places n).getD j 0) h' 0 n) (i : Nat) (hi : i < n) : h i = h' i := by
  have ir := (prV_strict l).irrefl
  have tr := (prV_strict l).trans
  have val : ∀ {h : Nat → Int}, Sort.Good (prV l) (fun j => (places n).getD j 0) h 0 n → ∀ i, i < n → ∃ t : Nat, t < n ∧ h i = (t : Int) := fun {h} k i hi => by
    obtain ⟨j, _, j2, j3⟩ := k.2 i (Nat.zero_le _) hi
    replace j3 : h i = (places n).getD j 0 := j3
    rw [places_getD j2] at j3
    exact ⟨j, j2, j3⟩
  induction i using Nat.strongRecOn with
  | ind i ih =>
    obtain ⟨t, t1, t2⟩ := val k i hi
    obtain ⟨s, s1, s2⟩ := val k' i hi
    obtain ⟨j, j1, j2⟩ := good_onto k' t t1
    obtain ⟨m, m1, m2⟩ := good_onto k s s1
    have e1 : h' j = h i := by rw [j2, t2]
    have e2 : h m = h' i := by rw [m2, s2]
    rcases Nat.lt_trichotomy j i with c | c | c
    · have := ih j c (by omega)
      rw [e1] at this
      have h9 := k.1 j i (Nat.zero_le _) c hi
      rw [this] at h9
      exact absurd h9 (ir _)
    · subst c; exact e1.symm
    · rcases Nat.lt_trichotomy m i with d | d | d
      · have := ih m d (by omega)
        rw [e2] at this
        have h9 := k'.1 m i (Nat.zero_le _) d hi
        rw [← this] at h9
        exact absurd h9 (ir _)
      · subst d; exact e2
      · have p1 := k'.1 i j (Nat.zero_le _) c (by omega)
        have p2 := k.1 i m (Nat.zero_le _) d (by omega)
        rw [e1] at p1
        rw [e2] at p2
        exact absurd (tr _ _ _ p1 p2) (ir _)
/-- The places of numbers, the greatest one's first. -/
def ordL (l : List Int) : List Int := insOut (ltOf (cfV l)) 0 (l.length - 1) (places l.length)
theorem ordL_length (l : List Int) : (ordL l).length = l.length := by unfold ordL; rw [insOut_length, places_length]
theorem ordL_good (l : List Int) : Sort.Good (prV l) (fun j => (places l.length).getD j 0) (fun j => (ordL l).getD j 0) 0 l.length :=
  (good_block (ys := places l.length) (prV_strict l) (prV_ord l l.length) (places_length _) (Nat.le_refl _) (Nat.zero_le _) (fun j _ => rfl)).1
theorem getD_ext {a b : List Int} (hl : a.length = b.length) (h : ∀ j, j < a.length → a.getD j 0 = b.getD j 0) : a = b := by
  apply List.ext_getElem hl
  intro i h1 h2
  have := h i h1
  rwa [List.getD_eq_getElem?_getD, List.getD_eq_getElem?_getD, List.getElem?_eq_getElem h1, List.getElem?_eq_getElem h2] at this
theorem sorts_all (l : List Int) (hl : l.length ≤ 1000000) (fid : Nat) (fa lb : Array Value) (B : Nat) : Sorts fid fa lb (cfV l) (Top.Place l.length) B (places l.length) (ordL l) := fun g c w hc hd hB => by
  have hp := places_length l.length
  have h1 := sortstable_calls (prV_strict l) fid fa lb (cfV l) (Top.Place l.length) g l.length c B (places l.length) w hc hd hp (places_in _) hB hl (prV_ord l l.length)
  rw [← hp] at h1
  refine h1.mono ?_
  rintro e w' ⟨rfl, h, ⟨ys, y1, y2, y3⟩, hg⟩
  rw [hp] at y2 hg
  have e : ys = ordL l := getD_ext (by rw [y2, ordL_length]) fun j hj => by
    rw [y3 j]
    exact good_unique hg (ordL_good l) j (by omega)
  rw [← e]
  exact ⟨rfl, y1⟩
end Go.Proofs.YtfameghednapkaaDoor.Top
