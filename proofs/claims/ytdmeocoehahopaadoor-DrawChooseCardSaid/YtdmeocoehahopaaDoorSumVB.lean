/- Sums of whole numbers. -/
import Derived.Test.YtdmeocoehahopaaDoorBun6
namespace Go.Proofs.YtdmeocoehahopaaDoor.Ten
def sumV : List Int → Int
  | [] => 0
  | x :: t => x + sumV t
theorem sumV_append (a b : List Int) : sumV (a ++ b) = sumV a + sumV b := by
  induction a with
  | nil => simp [sumV]
  | cons x t ih => simp only [List.cons_append, sumV, ih]; omega
theorem sumV_bd {l : List Int} (h : ∀ x ∈ l, 0 ≤ x ∧ x ≤ 65536) : 0 ≤ sumV l ∧ sumV l ≤ 65536 * (l.length : Int) := by
  induction l with
  | nil => simp [sumV]
  | cons x t ih =>
    have h1 := ih fun y hy => h y (List.Mem.tail _ hy)
    have h2 := h x (List.Mem.head _)
    simp only [sumV, List.length_cons]
    omega
theorem sumV_ge {l : List Int} (h : ∀ x ∈ l, 0 ≤ x) {y : Int} (hy : y ∈ l) : y ≤ sumV l := by
  induction l with
  | nil => cases hy
  | cons x t ih =>
    have h0 : ∀ z ∈ t, 0 ≤ z := fun z hz => h z (List.Mem.tail _ hz)
    have h1 : 0 ≤ sumV t := by
      clear ih hy
      induction t with
      | nil => simp [sumV]
      | cons a t ih => have := ih (fun z hz => h z (by cases hz with | head => exact List.Mem.head _ | tail _ hz => exact List.Mem.tail _ (List.Mem.tail _ hz))) (fun z hz => h0 z (List.Mem.tail _ hz)); have := h0 a (List.Mem.head _); simp only [sumV]; omega
    have h2 := h x (List.Mem.head _)
    simp only [sumV]
    cases hy with
    | head => omega
    | tail _ hy => have := ih h0 hy; omega
end Go.Proofs.YtdmeocoehahopaaDoor.Ten
