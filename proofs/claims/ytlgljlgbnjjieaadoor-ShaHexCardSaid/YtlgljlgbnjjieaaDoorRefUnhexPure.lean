/- The reference's digit; two digits at a time. -/
import Derived.Test.YtlgljlgbnjjieaaDoorPShaHexx1
import Derived.Test.YtlgljlgbnjjieaaDoorUnhexPure
namespace Go.Proofs.YtlgljlgbnjjieaaDoor.Hex
open Go.RowKit Go.Proofs.YtlgljlgbnjjieaaDoorW.PrintWords Go.Proofs.YtlgljlgbnjjieaaDoor.K Go.Proofs.YtlgljlgbnjjieaaDoor.PShaHex
set_option linter.unusedVariables false
set_option maxRecDepth 100000
theorem digit_fin : ∀ n : Fin 256, cupelref01_digit.f 20 (n.1 : Int) = some (nib (UInt8.ofNat n.1)) := by decide +kernel
theorem digit_f (c : UInt8) : cupelref01_digit.f 20 (c.toNat : Int) = some (nib c) := by
  have h := digit_fin ⟨c.toNat, c.toNat_lt⟩
  rw [UInt8.ofNat_toNat] at h
  exact h
theorem part_two (s : List UInt8) (i : Nat) (hi : i < 32) : (part s (2 * i)).set i (16 * nib (s.getD (2 * i) 0) + nib (s.getD (2 * i + 1) 0)) = part s (2 * (i + 1)) := by
  refine List.ext_getElem (by simp [part]) fun j h1 h2 => ?_
  have hj : j < 32 := by simpa [part] using h2
  rw [List.getElem_set]
  by_cases h : i = j
  · subst h
    rw [if_pos rfl]
    simp only [part, List.getElem_map, List.getElem_range]
    rw [if_pos (by omega)]
  · rw [if_neg h]
    simp only [part, List.getElem_map, List.getElem_range]
    by_cases h3 : 2 * j + 1 < 2 * i
    · rw [if_pos h3, if_pos (by omega)]
    · rw [if_neg h3, if_neg (by omega), if_neg (by omega), if_neg (by omega)]
end Go.Proofs.YtlgljlgbnjjieaaDoor.Hex
