/- bpe in plain Lean: what a coder that New made comes to. -/
import Derived.Test.YtbgiccbegcepcaaBpeAwake
import Derived.Test.YtbgiccbegcepcaaBpeText
namespace Go.Proofs.Ytbgiccbegcepcaa.Bpe
open Go.RowKit Go.Proofs.Ytbgiccbegcepcaa.Cat
set_option linter.unusedVariables false
set_option linter.unusedSimpArgs false
theorem runP_cons {p : Pr} {l : List Pr} {T : List (List Int)} {ps : List Pr} (h : (runP (p :: l) T ps).1 = 0) : addE T ps p = 0 ∧ (runP l (T ++ [catT T p]) (ps ++ [p])).1 = 0 ∧ runP (p :: l) T ps = runP l (T ++ [catT T p]) (ps ++ [p]) := by
  have e : runP (p :: l) T ps = if addE T ps p = 0 then runP l (T ++ [catT T p]) (ps ++ [p]) else (addE T ps p, T) := rfl
  by_cases h1 : addE T ps p = 0
  · rw [if_pos h1] at e
    exact ⟨h1, by rw [← e]; exact h, e⟩
  · rw [if_neg h1] at e
    rw [e] at h
    exact absurd h h1
theorem runP_length : ∀ (l : List Pr) (T : List (List Int)) (ps : List Pr), (runP l T ps).1 = 0 → (runP l T ps).2.length = T.length + l.length
  | [], T, ps, _ => rfl
  | p :: l, T, ps, h => by
    obtain ⟨h1, h2, h3⟩ := runP_cons h
    rw [h3, runP_length l _ _ h2, List.length_append, List.length_singleton, List.length_cons]
    omega
theorem runP_tok : ∀ (l : List Pr) (T : List (List Int)) (ps : List Pr), (runP l T ps).1 = 0 → ∀ j (h : j < l.length), isTok (T.length + j) l[j].1 = true ∧ isTok (T.length + j) l[j].2 = true
  | [], _, _, _, j, h => absurd h (Nat.not_lt_zero _)
  | p :: l, T, ps, h, j, hj => by
    obtain ⟨h1, h2, h3⟩ := runP_cons h
    cases j with
    | zero =>
      obtain ⟨a, b, _⟩ := addE_ok h1
      exact ⟨a, b⟩
    | succ j =>
      have := runP_tok l _ _ h2 j (by simpa using hj)
      rw [List.length_append, List.length_singleton, show T.length + 1 + j = T.length + (j + 1) by omega] at this
      exact this
theorem runP_pre (l2 : List Pr) : ∀ (l : List Pr) (T : List (List Int)) (ps : List Pr), (runP (l ++ l2) T ps).1 = 0 → (runP l T ps).1 = 0
  | [], _, _, _ => rfl
  | p :: l, T, ps, h => by
    obtain ⟨h1, h2, h3⟩ := runP_cons (l := l ++ l2) h
    unfold runP
    rw [if_pos h1]
    exact runP_pre l2 l _ _ h2
theorem runP_old : ∀ (l : List Pr) (T : List (List Int)) (ps : List Pr), (runP l T ps).1 = 0 → ∀ i, i < T.length → (runP l T ps).2.getD i [] = T.getD i []
  | [], _, _, _, i, _ => rfl
  | p :: l, T, ps, h, i, hi => by
    obtain ⟨h1, h2, h3⟩ := runP_cons h
    rw [h3, runP_old l _ _ h2 i (by rw [List.length_append]; omega), List.getD_eq_getElem?_getD, List.getElem?_append_left hi, List.getD_eq_getElem?_getD]
theorem runP_new : ∀ (l : List Pr) (T : List (List Int)) (ps : List Pr), (runP l T ps).1 = 0 → ∀ j (h : j < l.length), (runP l T ps).2.getD (T.length + j) [] = catT (runP l T ps).2 l[j]
  | [], _, _, _, j, h => absurd h (Nat.not_lt_zero _)
  | p :: l, T, ps, h, j, hj => by
    obtain ⟨h1, h2, h3⟩ := runP_cons h
    cases j with
    | zero =>
      rw [h3, Nat.add_zero, runP_old l _ _ h2 T.length (by simp)]
      obtain ⟨a, b, _⟩ := addE_ok h1
      simp only [isTok, Bool.and_eq_true, decide_eq_true_eq] at a b
      have e1 := runP_old l _ _ h2 p.1.toNat (by rw [List.length_append]; omega)
      have e2 := runP_old l _ _ h2 p.2.toNat (by rw [List.length_append]; omega)
      have f1 : ∀ i, i < T.length → (T ++ [catT T p]).getD i [] = T.getD i [] := fun i hi => by
        rw [List.getD_eq_getElem?_getD, List.getElem?_append_left hi, List.getD_eq_getElem?_getD]
      rw [f1 _ (by omega)] at e1
      rw [f1 _ (by omega)] at e2
      rw [List.getElem_cons_zero, show catT (runP l (T ++ [catT T p]) (ps ++ [p])).2 p = (runP l (T ++ [catT T p]) (ps ++ [p])).2.getD p.1.toNat [] ++ (runP l (T ++ [catT T p]) (ps ++ [p])).2.getD p.2.toNat [] from rfl, e1, e2, List.getD_eq_getElem?_getD, List.getElem?_append_right (Nat.le_refl _)]
      simp [catT]
    | succ j =>
      have := runP_new l _ _ h2 j (by simpa using hj)
      rw [h3, List.getElem_cons_succ, ← this, List.length_append, List.length_singleton]
      congr 1
      omega
theorem runP_16 : ∀ (l : List Pr) (T : List (List Int)) (ps : List Pr), (runP l T ps).1 = 0 → (∀ t ∈ T, t.length ≤ 16) → ∀ t ∈ (runP l T ps).2, t.length ≤ 16
  | [], _, _, _, h => h
  | p :: l, T, ps, h, hT => by
    obtain ⟨h1, h2, h3⟩ := runP_cons h
    rw [h3]
    refine runP_16 l _ _ h2 (fun t ht => ?_)
    rcases List.mem_append.1 ht with ht | ht
    · exact hT t ht
    · rw [List.mem_singleton.1 ht]; exact addE_cat h1
theorem singles_16 (al : List Int) : ∀ t ∈ singles al, t.length ≤ 16 := by
  intro t ht
  simp only [singles, List.mem_map] at ht
  obtain ⟨b, _, rfl⟩ := ht
  show 1 ≤ 16
  decide
theorem singles_get (al : List Int) (i : Nat) (h : i < al.length) : (singles al).getD i [] = [al[i]] := by
  simp [singles, List.getD_eq_getElem?_getD, h]
section
variable {al : List Int} {prs : List Pr}
theorem newT_length (h : newE al prs = 0) : (newT al prs).length = al.length + prs.length := by
  rw [newT, runP_length _ _ _ (newE_ok h).2.2.2]
  simp [singles]
theorem newT_16 (h : newE al prs = 0) : ∀ t ∈ newT al prs, t.length ≤ 16 := runP_16 _ _ _ (newE_ok h).2.2.2 (singles_16 al)
theorem newT_byte (h : newE al prs = 0) (i : Nat) (hi : i < al.length) : (newT al prs).getD i [] = [al[i]] := by
  rw [newT, runP_old _ _ _ (newE_ok h).2.2.2 i (by simpa [singles] using hi), singles_get al i hi]
theorem newT_pair (h : newE al prs = 0) (j : Nat) (hj : j < prs.length) : (newT al prs).getD (al.length + j) [] = catT (newT al prs) prs[j] := by
  have := runP_new _ _ _ (newE_ok h).2.2.2 j hj
  rw [show (singles al).length = al.length by simp [singles]] at this
  exact this
theorem new_tok (h : newE al prs = 0) (j : Nat) (hj : j < prs.length) : isTok (al.length + j) prs[j].1 = true ∧ isTok (al.length + j) prs[j].2 = true := by
  have := runP_tok _ _ _ (newE_ok h).2.2.2 j hj
  rwa [show (singles al).length = al.length by simp [singles]] at this
theorem newE_pre {l2 : List Pr} (h : newE al (prs ++ l2) = 0) : newE al prs = 0 := by
  obtain ⟨h1, h2, h3, h4⟩ := newE_ok h
  unfold newE
  rw [if_neg (by rw [List.length_append] at h2; omega), if_neg (not_not_intro h3)]
  exact runP_pre l2 _ _ _ h4
theorem newE_none (h : newE al prs = 0) : newE al [] = 0 := newE_pre (prs := []) (l2 := prs) (by simpa using h)
end
/-! decoding what was encoded -/
theorem decL_cons (T : List (List Int)) (x : Int) (l : List Int) : decL T (x :: l) = T.getD x.toNat [] ++ decL T l := by
  simp [decL]
theorem decL_merge (T : List (List Int)) (p : Pr) (t : Int) (h : T.getD t.toNat [] = catT T p) : ∀ l, decL T (mergeL p t l) = decL T l
  | [] => rfl
  | [a] => rfl
  | a :: b :: l => by
    unfold mergeL
    split
    · rename_i hc
      rw [decL_cons, decL_merge T p t h l, h, decL_cons, decL_cons, hc.1, hc.2, ← List.append_assoc]
      rfl
    · rw [decL_cons, decL_merge T p t h (b :: l), ← decL_cons]
theorem decL_toks {al : List Int} {T : List (List Int)} (hT : ∀ i (h : i < al.length), T.getD i [] = [al[i]]) : ∀ bs : List Int, badAt al bs = none → decL T (toksL al bs) = bs
  | [], _ => rfl
  | x :: bs, h => by
    unfold badAt at h
    rw [List.findIdx?_eq_none_iff] at h
    have h1 := h x List.mem_cons_self
    simp only [decide_eq_false_iff_not] at h1
    have h2 : badAt al bs = none := by
      unfold badAt
      rw [List.findIdx?_eq_none_iff]
      exact fun y hy => h y (List.mem_cons_of_mem _ hy)
    rw [show toksL al (x :: bs) = tokOf al x :: toksL al bs from rfl, decL_cons, decL_toks hT bs h2]
    unfold tokOf at h1 ⊢
    cases hh : al.findIdx? (fun y => decide (y = x)) with
    | none => rw [hh] at h1; exact absurd rfl h1
    | some i =>
      obtain ⟨hi, h3, _⟩ := List.findIdx?_eq_some_iff_getElem.1 hh
      simp only [decide_eq_true_eq] at h3
      simp only [Int.toNat_natCast]
      rw [hT i hi, h3]
      rfl
theorem decL_enc {al : List Int} {prs : List Pr} (h : newE al prs = 0) (l : List Int) : decL (newT al prs) (encL al.length prs l) = decL (newT al prs) l := by
  refine enc_ind al.length prs (fun l => decL (newT al prs) (encL al.length prs l) = decL (newT al prs) l) ?_ ?_ l.length l (Nat.le_refl _)
  · intro l hl
    rw [encL_none hl]
  · intro l k hk ih
    rw [encL_some hk, ih]
    obtain ⟨hkl, _⟩ := first_some hk
    refine decL_merge _ _ _ ?_ l
    have := newT_pair h k hkl
    rw [show ((al.length : Int) + (k : Int)).toNat = al.length + k by omega, this]
    congr 1
    rw [List.getD_eq_getElem?_getD, List.getElem?_eq_getElem hkl]
    rfl
theorem enc_len (n : Int) (ps : List Pr) (l : List Int) : (encL n ps l).length ≤ l.length := by
  refine enc_ind n ps (fun l => (encL n ps l).length ≤ l.length) ?_ ?_ l.length l (Nat.le_refl _)
  · intro l hl
    rw [encL_none hl]; exact Nat.le_refl _
  · intro l k hk ih
    rw [encL_some hk]
    exact Nat.le_trans ih (mergeL_le _ _ _)
theorem enc_end (n : Int) (ps : List Pr) (l : List Int) : firstP ps (encL n ps l) = none := by
  refine enc_ind n ps (fun l => firstP ps (encL n ps l) = none) ?_ ?_ l.length l (Nat.le_refl _)
  · intro l hl
    rw [encL_none hl]; exact hl
  · intro l k hk ih
    rw [encL_some hk]; exact ih
theorem enc_free (n : Int) (ps : List Pr) (l : List Int) (p : Pr) (hp : p ∈ ps) : nb p (encL n ps l) = false := by
  have := enc_end n ps l
  unfold firstP at this
  rw [List.findIdx?_eq_none_iff] at this
  exact this p hp
/-- Tokens in a range. -/
def below (m : Int) (l : List Int) : Prop := ∀ x ∈ l, 0 ≤ x ∧ x < m
theorem below_merge {m : Int} {p : Pr} {u : Int} (hu : 0 ≤ u ∧ u < m) : ∀ l : List Int, below m l → below m (mergeL p u l)
  | [], h => h
  | [a], h => h
  | a :: b :: l, h => by
    unfold mergeL
    split
    · intro x hx
      rcases List.mem_cons.1 hx with rfl | hx
      · exact hu
      · exact below_merge hu l (fun z hz => h z (List.mem_cons_of_mem _ (List.mem_cons_of_mem _ hz))) x hx
    · intro x hx
      rcases List.mem_cons.1 hx with rfl | hx
      · exact h _ List.mem_cons_self
      · exact below_merge hu (b :: l) (fun z hz => h z (List.mem_cons_of_mem _ hz)) x hx
theorem below_enc (n : Int) (h0 : 0 ≤ n) (ps : List Pr) (l : List Int) (h : below (n + ps.length) l) : below (n + ps.length) (encL n ps l) := by
  refine enc_ind n ps (fun l => below (n + ps.length) l → below (n + ps.length) (encL n ps l)) ?_ ?_ l.length l (Nat.le_refl _) h
  · intro l hl h
    rw [encL_none hl]; exact h
  · intro l k hk ih h
    rw [encL_some hk]
    have := (first_some hk).1
    exact ih (below_merge ⟨by omega, by omega⟩ l h)
theorem below_toks (al bs : List Int) (h : badAt al bs = none) : below al.length (toksL al bs) := by
  intro x hx
  simp only [toksL, List.mem_map] at hx
  obtain ⟨y, hy, rfl⟩ := hx
  unfold badAt at h
  rw [List.findIdx?_eq_none_iff] at h
  have h1 := h y hy
  simp only [decide_eq_false_iff_not] at h1
  exact tokOf_range al y h1
theorem okL_of_below (m : Nat) (l : List Int) (h : below m l) : okL m l = true := by
  rw [okL, List.all_eq_true]
  intro x hx
  have := h x hx
  simp [isTok, this.1, this.2]
theorem back (al : List Int) (prs : List Pr) (bs : List Int) (h : newE al prs = 0) (hb : badAt al bs = none) :
    okL (newT al prs).length (encL al.length prs (toksL al bs)) = true ∧ decL (newT al prs) (encL al.length prs (toksL al bs)) = bs ∧ (encL al.length prs (toksL al bs)).length ≤ bs.length ∧ encL al.length [] (toksL al bs) = toksL al bs := by
  refine ⟨okL_of_below _ _ ?_, ?_, ?_, encL_none rfl⟩
  · rw [newT_length h, Int.natCast_add]
    refine below_enc al.length (Int.natCast_nonneg _) prs _ (fun x hx => ?_)
    have := below_toks al bs hb x hx
    omega
  · rw [decL_enc h, decL_toks (fun i hi => newT_byte h i hi) bs hb]
  · have := enc_len al.length prs (toksL al bs)
    rw [show (toksL al bs).length = bs.length by simp [toksL]] at this
    exact this
/-! one more pair -/
theorem merge_id (p : Pr) (t : Int) : ∀ l : List Int, nb p l = false → mergeL p t l = l
  | [], _ => rfl
  | [a], _ => rfl
  | a :: b :: l, h => by
    simp only [nb, Bool.or_eq_false_iff, decide_eq_false_iff_not] at h
    rw [mergeL, if_neg h.1, merge_id p t (b :: l) h.2]
theorem merge_head (p : Pr) (t b : Int) (l : List Int) : ∃ c m, mergeL p t (b :: l) = c :: m ∧ (c = t ∨ c = b) := by
  cases l with
  | nil => exact ⟨b, [], rfl, .inr rfl⟩
  | cons d l =>
    unfold mergeL
    split
    · exact ⟨t, _, rfl, .inl rfl⟩
    · exact ⟨b, _, rfl, .inr rfl⟩
theorem merge_nb (p r : Pr) (t : Int) (h1 : r.1 ≠ t) (h2 : r.2 ≠ t) : ∀ l : List Int, (nb r l = false ∨ r = p) → nb r (mergeL p t l) = false
  | [], _ => rfl
  | [a], _ => rfl
  | a :: b :: l, h => by
    have hl : nb r (b :: l) = false ∨ r = p := h.imp (fun h => by simp only [nb, Bool.or_eq_false_iff] at h; exact h.2) id
    have hl2 : nb r l = false ∨ r = p := hl.imp (fun h => by
      cases l with
      | nil => rfl
      | cons d l => simp only [nb, Bool.or_eq_false_iff] at h; exact h.2) id
    unfold mergeL
    split
    · have ih := merge_nb p r t h1 h2 l hl2
      cases hm : mergeL p t l with
      | nil => rfl
      | cons c m =>
        rw [hm] at ih
        simp only [nb, Bool.or_eq_false_iff, decide_eq_false_iff_not]
        exact ⟨fun h => h1 h.1.symm, ih⟩
    · rename_i hc
      have ih := merge_nb p r t h1 h2 (b :: l) hl
      obtain ⟨c, m, hm, hcc⟩ := merge_head p t b l
      rw [hm] at ih ⊢
      simp only [nb, Bool.or_eq_false_iff, decide_eq_false_iff_not]
      refine ⟨fun h3 => ?_, ih⟩
      rcases hcc with rfl | rfl
      · exact h2 h3.2.symm
      · rcases h with h | rfl
        · simp only [nb, Bool.or_eq_false_iff, decide_eq_false_iff_not] at h
          exact h.1 h3
        · exact hc h3
theorem first_snoc (q : List Pr) (p : Pr) (l : List Int) : firstP (q ++ [p]) l = match firstP q l with
    | some k => some k
    | none => if nb p l = true then some q.length else none := by
  unfold firstP
  rw [List.findIdx?_append]
  cases q.findIdx? (nb · l) with
  | some k => rfl
  | none => by_cases h : nb p l = true <;> simp [h, List.findIdx?_cons]
theorem enc_snoc (n : Int) (q : List Pr) (p : Pr) (hq : ∀ r ∈ q ++ [p], r.1 ≠ n + q.length ∧ r.2 ≠ n + q.length) (l : List Int) : encL n (q ++ [p]) l = mergeL p (n + q.length) (encL n q l) := by
  refine enc_ind n q (fun l => encL n (q ++ [p]) l = mergeL p (n + q.length) (encL n q l)) ?_ ?_ l.length l (Nat.le_refl _)
  · intro l hl
    rw [encL_none hl]
    have hs := first_snoc q p l
    rw [hl] at hs
    by_cases hp : nb p l = true
    · simp only [hp, if_true] at hs
      rw [encL_some hs]
      have hg : (q ++ [p]).getD q.length (0, 0) = p := by simp [List.getD_eq_getElem?_getD]
      rw [hg]
      refine encL_none ?_
      unfold firstP
      rw [List.findIdx?_eq_none_iff]
      intro r hr
      refine merge_nb p r _ (hq r hr).1 (hq r hr).2 l ?_
      rcases List.mem_append.1 hr with h | h
      · unfold firstP at hl
        rw [List.findIdx?_eq_none_iff] at hl
        exact .inl (hl r h)
      · exact .inr (List.mem_singleton.1 h)
    · have hp' : nb p l = false := by simpa using hp
      simp only [hp', Bool.false_eq_true, if_false] at hs
      rw [encL_none hs, merge_id p _ l hp']
  · intro l k hk ih
    have hs := first_snoc q p l
    rw [hk] at hs
    rw [encL_some hs, encL_some hk]
    have hg : (q ++ [p]).getD k (0, 0) = q.getD k (0, 0) := by
      have := (first_some hk).1
      rw [List.getD_eq_getElem?_getD, List.getElem?_append_left this, List.getD_eq_getElem?_getD]
    rw [hg]
    exact ih
theorem last (al : List Int) (q : List Pr) (p : Pr) (l : List Int) (h : newE al (q ++ [p]) = 0) : encL al.length (q ++ [p]) l = mergeL p ((newT al (q ++ [p])).length - 1) (encL al.length q l) := by
  have hl := newT_length h
  rw [List.length_append, List.length_singleton] at hl
  rw [show (((newT al (q ++ [p])).length : Nat) : Int) - 1 = (al.length : Int) + (q.length : Int) by omega]
  refine enc_snoc al.length q p (fun r hr => ?_) l
  obtain ⟨j, hj, rfl⟩ := List.getElem_of_mem hr
  have := new_tok h j hj
  simp only [isTok, Bool.and_eq_true, decide_eq_true_eq] at this
  rw [List.length_append, List.length_singleton] at hj
  omega
end Go.Proofs.Ytbgiccbegcepcaa.Bpe
