/- store, plain: seals, a store's bytes. -/
import Derived.Test.YtpndobhakmjglaaDoorShaPure
namespace Go.Proofs.YtpndobhakmjglaaDoor.Store
open Go.RowKit Go.Proofs.YtpndobhakmjglaaDoorW.PrintWords Go.Proofs.YtpndobhakmjglaaDoorW.PrintLast Go.Proofs.YtpndobhakmjglaaDoorW.PrintMore Go.Proofs.YtpndobhakmjglaaDoor.K Go.Proofs.YtpndobhakmjglaaDoor.Sha
set_option linter.unusedVariables false
/-- The seal of a record behind a mark. -/
def sealV (a r : List Int) : List Int := (shaV (joinL [a, r])).take 16
theorem sealV_len (a r : List Int) : (sealV a r).length = 16 := by rw [sealV, List.length_take, shaV_length]; rfl
theorem sealV_byte (a r : List Int) : ∀ x ∈ sealV a r, 0 ≤ x ∧ x < 256 := fun x hx => shaV_byte _ x (List.mem_of_mem_take hx)
theorem joinTwo (a r : List Int) : joinL [a, r] = be4 a.length ++ a ++ (be4 r.length ++ r) := by simp [joinL]
theorem joinTwo_len (a r : List Int) : (joinL [a, r]).length = a.length + r.length + 8 := by
  rw [joinTwo]; simp only [List.length_append, be4, List.length_cons, List.length_nil]; omega
theorem joinTwo_byte {a r : List Int} (ha : ∀ x ∈ a, 0 ≤ x ∧ x < 256) (hr : ∀ x ∈ r, 0 ≤ x ∧ x < 256) : ∀ x ∈ joinL [a, r], 0 ≤ x ∧ x < 256 := by
  have hb : ∀ n : Nat, ∀ x ∈ be4 n, 0 ≤ x ∧ x < 256 := fun n x hx => by
    simp only [be4, List.mem_cons, List.not_mem_nil, or_false] at hx
    omega
  intro x hx
  rw [joinTwo] at hx
  simp only [List.mem_append] at hx
  rcases hx with (h | h) | (h | h)
  · exact hb _ _ h
  · exact ha _ h
  · exact hb _ _ h
  · exact hr _ h
/-- The bytes of a store's records behind a mark; the last one's mark. -/
def storeB : List Int → List (List Int) → List Int
  | _, [] => []
  | a, r :: l => joinL [r, sealV a r] ++ storeB (sealV a r) l
def markV : List Int → List (List Int) → List Int
  | a, [] => a
  | a, r :: l => markV (sealV a r) l
theorem markV_snoc (r : List Int) : ∀ (l : List (List Int)) (a : List Int), markV a (l ++ [r]) = sealV (markV a l) r
  | [], a => rfl
  | x :: l, a => markV_snoc r l (sealV a x)
theorem storeB_snoc (r : List Int) : ∀ (l : List (List Int)) (a : List Int), storeB a (l ++ [r]) = storeB a l ++ joinL [r, sealV (markV a l) r]
  | [], a => by simp [storeB, markV]
  | x :: l, a => by
    show joinL [x, sealV a x] ++ storeB (sealV a x) (l ++ [r]) = joinL [x, sealV a x] ++ storeB (sealV a x) l ++ joinL [r, sealV (markV (sealV a x) l) r]
    rw [storeB_snoc r l, List.append_assoc]
theorem storeB_append (m : List (List Int)) : ∀ (l : List (List Int)) (a : List Int), storeB a (l ++ m) = storeB a l ++ storeB (markV a l) m
  | [], a => by simp [storeB, markV]
  | x :: l, a => by
    show joinL [x, sealV a x] ++ storeB (sealV a x) (l ++ m) = joinL [x, sealV a x] ++ storeB (sealV a x) l ++ storeB (markV (sealV a x) l) m
    rw [storeB_append m l, List.append_assoc]
theorem markV_append (m : List (List Int)) : ∀ (l : List (List Int)) (a : List Int), markV a (l ++ m) = markV (markV a l) m
  | [], a => rfl
  | x :: l, a => markV_append m l (sealV a x)
end Go.Proofs.YtpndobhakmjglaaDoor.Store
