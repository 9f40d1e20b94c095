/- Digits that are read one by one: what stands in the digest meanwhile. -/
import Derived.Test.YtlgljlgbnjjieaaDoorHexPure
namespace Go.Proofs.YtlgljlgbnjjieaaDoor.Hex
open Go.RowKit Go.Proofs.YtlgljlgbnjjieaaDoor.K
set_option linter.unusedVariables false
/-- The digest's bytes behind i digits. -/
def part (s : List UInt8) (i : Nat) : List Int := (List.range 32).map fun j => if 2 * j + 1 < i then 16 * nib (s.getD (2 * j) 0) + nib (s.getD (2 * j + 1) 0) else if 2 * j < i then nib (s.getD (2 * j) 0) else 0
theorem part_length (s : List UInt8) (i : Nat) : (part s i).length = 32 := by simp [part]
theorem part_zero (s : List UInt8) : part s 0 = List.replicate 32 0 := by
  simp [part]
  rfl
theorem part_at (s : List UInt8) (i j : Nat) (hj : j < 32) : (part s i).getD j 0 = if 2 * j + 1 < i then 16 * nib (s.getD (2 * j) 0) + nib (s.getD (2 * j + 1) 0) else if 2 * j < i then nib (s.getD (2 * j) 0) else 0 := by
  simp [part, List.getD_eq_getElem?_getD, hj]
theorem part_step (s : List UInt8) (i : Nat) (hi : i < 64) : (part s i).set (i / 2) ((part s i).getD (i / 2) 0 * 16 + nib (s.getD i 0)) = part s (i + 1) := by
  rw [part_at s i (i / 2) (by omega)]
  refine List.ext_getElem (by simp [part]) fun j h1 h2 => ?_
  have hj : j < 32 := by simpa [part] using h2
  rw [List.getElem_set]
  by_cases h : i / 2 = j
  · rw [if_pos h]
    simp only [part, List.getElem_map, List.getElem_range]
    rcases (show i = 2 * j ∨ i = 2 * j + 1 by omega) with rfl | rfl
    · rw [show 2 * j / 2 = j by omega, if_neg (by omega), if_neg (by omega), if_neg (by omega), if_pos (by omega)]
      omega
    · rw [show (2 * j + 1) / 2 = j by omega, if_neg (by omega), if_pos (by omega), if_pos (by omega)]
      omega
  · rw [if_neg h]
    simp only [part, List.getElem_map, List.getElem_range]
    by_cases h3 : 2 * j + 1 < i
    · rw [if_pos h3, if_pos (by omega)]
    · rw [if_neg h3]
      by_cases h4 : 2 * j < i
      · rw [if_pos h4, if_neg (by omega), if_pos (by omega)]
      · rw [if_neg h4, if_neg (by omega), if_neg (by omega)]
theorem pairs_get : ∀ (s : List UInt8) (j : Nat), 2 * j + 1 < s.length → (pairs s)[j]? = some (16 * nib (s.getD (2 * j) 0) + nib (s.getD (2 * j + 1) 0))
  | [], j, h => by simp at h
  | [_], j, h => by simp at h
  | a :: b :: l, 0, _ => rfl
  | a :: b :: l, j + 1, h => by
    rw [pairs, List.getElem?_cons_succ, pairs_get l j (by simp at h; omega), show 2 * (j + 1) = (2 * j) + 1 + 1 by omega, show (2 * j) + 1 + 1 + 1 = (2 * j + 1) + 1 + 1 by omega, List.getD_cons_succ, List.getD_cons_succ, List.getD_cons_succ, List.getD_cons_succ]
theorem pairs_length (n : Nat) : ∀ (s : List UInt8), s.length = 2 * n → (pairs s).length = n := by
  induction n with
  | zero =>
    intro s hs
    obtain rfl : s = [] := List.eq_nil_of_length_eq_zero (by omega)
    rfl
  | succ n ih =>
    intro s hs
    match s, hs with
    | a :: b :: s, hs =>
      show ((16 * nib a + nib b) :: pairs s).length = n + 1
      rw [List.length_cons, ih s (by simp at hs; omega)]
theorem part_end (s : List UInt8) (hs : s.length = 64) : part s 64 = pairs s := by
  refine List.ext_getElem? fun j => ?_
  by_cases hj : j < 32
  · rw [pairs_get s j (by omega), List.getElem?_eq_getElem (by rw [part_length]; exact hj)]
    simp only [part, List.getElem_map, List.getElem_range]
    rw [if_pos (by omega)]
  · rw [List.getElem?_eq_none (by rw [part_length]; omega), List.getElem?_eq_none (by rw [pairs_length 32 s hs]; omega)]
theorem all_dig (s : List UInt8) (n : Nat) (hn : s.length = n) (h : ∀ j, j < n → 0 ≤ nib (s.getD j 0)) : allDig s = true := by
  rw [allDig, List.all_eq_true]
  intro c hc
  obtain ⟨j, hj, rfl⟩ := List.getElem_of_mem hc
  have := h j (by omega)
  rw [List.getD_eq_getElem?_getD, List.getElem?_eq_getElem hj] at this
  simpa using this
theorem not_dig (s : List UInt8) (j : Nat) (hj : j < s.length) (h : nib (s.getD j 0) < 0) : unhexV s = none := by
  rw [unhexV, if_neg]
  rintro ⟨_, ha⟩
  rw [allDig, List.all_eq_true] at ha
  have := ha s[j] (List.getElem_mem hj)
  rw [List.getD_eq_getElem?_getD, List.getElem?_eq_getElem hj] at h
  simp at this h
  omega
theorem unhex_some (s : List UInt8) (hs : s.length = 64) (h : ∀ j, j < 64 → 0 ≤ nib (s.getD j 0)) : unhexV s = some (pairs s) := by
  rw [unhexV, if_pos ⟨hs, all_dig s 64 hs h⟩]
theorem unhex_len (s : List UInt8) (hs : s.length ≠ 64) : unhexV s = none := by
  rw [unhexV, if_neg]
  rintro ⟨h, _⟩
  exact hs h
/-- Between the digits: x is what stands in the place that is being laid. -/
theorem part_small (s : List UInt8) (i : Nat) (hi : i < 64) (h : ∀ j, j < i → 0 ≤ nib (s.getD j 0)) : 0 ≤ (part s i).getD (i / 2) 0 ∧ (part s i).getD (i / 2) 0 < 16 := by
  rw [part_at s i (i / 2) (by omega), if_neg (by omega)]
  by_cases h2 : 2 * (i / 2) < i
  · rw [if_pos h2]
    exact ⟨h _ h2, (nib_range _).2⟩
  · rw [if_neg h2]
    exact ⟨by decide, by decide⟩
end Go.Proofs.YtlgljlgbnjjieaaDoor.Hex
