/- store, plain: what is recovered. -/
import Derived.Test.YtpndobhakmjglaaDoorStoreHas
import Derived.Test.YtpndobhakmjglaaDoorStoreP
namespace Go.Proofs.YtpndobhakmjglaaDoor.Store
open Go.RowKit Go.Proofs.YtpndobhakmjglaaDoorW.PrintWords Go.Proofs.YtpndobhakmjglaaDoorW.PrintLast Go.Proofs.YtpndobhakmjglaaDoorW.PrintMore Go.Proofs.YtpndobhakmjglaaDoor.K Go.Proofs.YtpndobhakmjglaaDoor.Sha
set_option linter.unusedVariables false
/-- The number that four bytes are; the first record of bytes; its bytes behind a mark; is it there. -/
def num4 (b : List Int) : Int := ((b.getD 0 0 * 256 + b.getD 1 0) * 256 + b.getD 2 0) * 256 + b.getD 3 0
def recR (b : List Int) : List Int := (b.drop 4).take (num4 b).toNat
def recW (a b : List Int) : List Int := joinL [recR b, sealV a (recR b)]
def recOk (a b : List Int) : Bool := decide (4 ≤ b.length) && decide (num4 b ≤ 1048576) && decide (num4 b ≤ ((b.drop 4).length : Int)) && hasB b (recW a b)
theorem recW_len (a b : List Int) : (recW a b).length = (recR b).length + 24 := by
  rw [recW, joinTwo_len, sealV_len]
/-- The records with which bytes begin, behind a mark, and the bytes behind them. -/
def recV (a b : List Int) : List (List Int) × List Int :=
  if h : recOk a b = true then (recR b :: (recV (sealV a (recR b)) (b.drop (recW a b).length)).1, (recV (sealV a (recR b)) (b.drop (recW a b).length)).2) else ([], b)
termination_by b.length
decreasing_by all_goals
  simp only [recOk, Bool.and_eq_true, decide_eq_true_eq] at h
  rw [List.length_drop, recW_len]
  omega
theorem recV_no {a b : List Int} (h : recOk a b = false) : recV a b = ([], b) := by rw [recV]; simp [h]
theorem recV_yes {a b : List Int} (h : recOk a b = true) : recV a b = (recR b :: (recV (sealV a (recR b)) (b.drop (recW a b).length)).1, (recV (sealV a (recR b)) (b.drop (recW a b).length)).2) := by rw [recV]; simp [h]
theorem recOk_has {a b : List Int} (h : recOk a b = true) : b = recW a b ++ b.drop (recW a b).length := by
  simp only [recOk, Bool.and_eq_true, decide_eq_true_eq, hasB] at h
  have h2 := List.take_append_drop (recW a b).length b
  rw [h.2] at h2
  exact h2.symm
/-- The bytes are those of the records, and the rest. -/
theorem recV_bytes (n : Nat) : ∀ (a b : List Int), b.length ≤ n → storeB a (recV a b).1 ++ (recV a b).2 = b := by
  induction n with
  | zero =>
    intro a b hb
    have hno : recOk a b = false := by
      have : ¬ 4 ≤ b.length := by omega
      simp [recOk, this]
    rw [recV_no hno]; rfl
  | succ n ih =>
    intro a b hb
    cases h : recOk a b with
    | false => rw [recV_no h]; rfl
    | true =>
      rw [recV_yes h]
      show joinL [recR b, sealV a (recR b)] ++ storeB (sealV a (recR b)) _ ++ _ = b
      rw [List.append_assoc, ih _ _ (by rw [List.length_drop, recW_len]; omega)]
      exact (recOk_has h).symm
end Go.Proofs.YtpndobhakmjglaaDoor.Store
