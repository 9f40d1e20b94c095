/- bpe: what New comes to, in plain Lean. -/
import Derived.Test.YtbgiccbegcepcaaBpeAdd
namespace Go.Proofs.Ytbgiccbegcepcaa.Bpe
open Go.RowKit Go.Proofs.Ytbgiccbegcepcaa.Cat
set_option linter.unusedVariables false
set_option linter.unusedSimpArgs false
def tokOf (al : List Int) (x : Int) : Int := match al.findIdx? (fun y => decide (y = x)) with
  | none => -1
  | some i => (i : Int)
def ofL (al : List Int) : List Int := (List.range 256).map fun x : Nat => tokOf al (x : Int)
theorem ofL_length (al : List Int) : (ofL al).length = 256 := by simp [ofL]
theorem ofL_get (al : List Int) (m : Nat) (h : m < 256) : (ofL al).getD m 0 = tokOf al (m : Int) := by
  simp [ofL, List.getD_eq_getElem?_getD, h]
theorem ofL_nil : ofL [] = List.replicate 256 (-1) := by
  rw [List.eq_replicate_iff]
  refine ⟨ofL_length _, fun b hb => ?_⟩
  simp only [ofL, List.mem_map] at hb
  obtain ⟨x, _, rfl⟩ := hb
  rfl
theorem tokOf_none {al : List Int} {x : Int} : tokOf al x = -1 ↔ x ∉ al := by
  unfold tokOf
  cases h : al.findIdx? (fun y => decide (y = x)) with
  | none =>
    rw [List.findIdx?_eq_none_iff] at h
    simp only [decide_eq_false_iff_not] at h
    exact ⟨fun _ hx => h x hx rfl, fun _ => rfl⟩
  | some i =>
    obtain ⟨hi, h2, _⟩ := List.findIdx?_eq_some_iff_getElem.1 h
    simp only [decide_eq_true_eq] at h2
    exact ⟨fun e => by simp only at e; omega, fun hn => absurd (h2 ▸ List.getElem_mem hi) hn⟩
theorem tokOf_snoc (al : List Int) (y x : Int) (h : y ∉ al) : tokOf (al ++ [y]) x = if x = y then (al.length : Int) else tokOf al x := by
  unfold tokOf
  rw [List.findIdx?_append]
  by_cases hx : x = y
  · subst hx
    have : al.findIdx? (fun z => decide (z = x)) = none := by
      rw [List.findIdx?_eq_none_iff]
      intro z hz
      simp only [decide_eq_false_iff_not]
      rintro rfl
      exact h hz
    rw [this, if_pos rfl]
    simp [List.findIdx?_cons]
  · rw [if_neg hx]
    cases hh : al.findIdx? (fun z => decide (z = x)) with
    | some i => rfl
    | none =>
      have : decide (y = x) = false := by simpa using fun e => hx e.symm
      simp [List.findIdx?_cons, this]
theorem ofL_snoc (al : List Int) (m : Nat) (hm : m < 256) (h : (m : Int) ∉ al) : (ofL al).set m (al.length : Int) = ofL (al ++ [(m : Int)]) := by
  refine List.ext_getElem? fun i => ?_
  rw [List.getElem?_set, ofL_length]
  by_cases hi : i < 256
  · have e1 : (ofL (al ++ [(m : Int)]))[i]? = some (tokOf (al ++ [(m : Int)]) (i : Int)) := by simp [ofL, hi]
    have e2 : (ofL al)[i]? = some (tokOf al (i : Int)) := by simp [ofL, hi]
    rw [e1, e2, tokOf_snoc al m i h]
    by_cases hmi : m = i
    · subst hmi; simp [hm]
    · rw [if_neg hmi, if_neg (by omega)]
  · rw [List.getElem?_eq_none (by rw [ofL_length]; omega), List.getElem?_eq_none (by rw [ofL_length]; omega), if_neg (by omega)]
def singles (al : List Int) : List (List Int) := al.map fun b => [b]
theorem singles_take (al : List Int) (k : Nat) (h : k < al.length) : singles (al.take (k + 1)) = singles (al.take k) ++ [[al.getD k 0]] := by
  rw [List.take_succ_eq_append_getElem h, List.getD_eq_getElem?_getD, List.getElem?_eq_getElem h]
  unfold singles
  rw [List.map_append]
  rfl
/-- Pairs, one behind the other: what is wrong, and the texts. -/
def runP : List Pr → List (List Int) → List Pr → Int × List (List Int)
  | [], T, _ => (0, T)
  | p :: l, T, ps => if addE T ps p = 0 then runP l (T ++ [catT T p]) (ps ++ [p]) else (addE T ps p, T)
def newE (al : List Int) (prs : List Pr) : Int :=
  if al.length = 0 ∨ 512 < al.length + prs.length then 13 else if ¬ al.Nodup then 15 else (runP prs (singles al) []).1
def newT (al : List Int) (prs : List Pr) : List (List Int) := (runP prs (singles al) []).2
theorem nodup_snoc {al : List Int} {k : Nat} (h : k < al.length) : (al.take (k + 1)).Nodup ↔ (al.take k).Nodup ∧ al.getD k 0 ∉ al.take k := by
  rw [List.take_succ_eq_append_getElem h, List.getD_eq_getElem?_getD, List.getElem?_eq_getElem h, Option.getD_some, List.nodup_append]
  constructor
  · rintro ⟨h1, _, h3⟩
    exact ⟨h1, fun hm => h3 _ hm _ (List.mem_singleton.2 rfl) rfl⟩
  · rintro ⟨h1, h2⟩
    refine ⟨h1, List.nodup_cons.2 ⟨by simp, List.nodup_nil⟩, ?_⟩
    intro a ha b hb e
    rw [List.mem_singleton.1 hb] at e
    exact h2 (e ▸ ha)
theorem nodup_of_take {al : List Int} {k : Nat} (h : ¬ (al.take k).Nodup) : ¬ al.Nodup := fun hn => h (hn.sublist (List.take_sublist _ _))
theorem addE_ok {T : List (List Int)} {ps : List Pr} {p : Pr} (h : addE T ps p = 0) : isTok T.length p.1 = true ∧ isTok T.length p.2 = true ∧ look ps p = none ∧ (catT T p).length ≤ 16 := by
  unfold addE at h
  split at h
  · cases h
  · rename_i h1
    split at h
    · cases h
    · rename_i h2
      split at h
      · cases h
      · rename_i h3
        refine ⟨?_, ?_, ?_, by omega⟩
        · cases hh : isTok T.length p.1 <;> simp [hh] at h1 ⊢
        · cases hh : isTok T.length p.2 <;> simp [hh] at h1 ⊢
        · cases hh : look ps p <;> simp [hh] at h2 ⊢
end Go.Proofs.Ytbgiccbegcepcaa.Bpe
