/- The walk of Exps and Bounds: what Gate is: whatever the numbers, it answers true. -/
import Derived.Test.YtjlnjknmiojfoaaDoorFixed5
namespace Go.Proofs.YtjlnjknmiojfoaaDoor.Fixed
open Go.RowKit Go.Proofs.YtjlnjknmiojfoaaDoorW.PrintWords Go.Proofs.YtjlnjknmiojfoaaDoorW.PrintLast Go.Proofs.YtjlnjknmiojfoaaDoorW.PrintMore Go.Proofs.YtjlnjknmiojfoaaDoor.K
set_option linter.unusedVariables false
theorem gate_all (n : Int) (hn : inR n = true) : ∃ s q r, sigV n = s ∧ n * s = q ∧ roundV q = r ∧ gateV n = (r, 0) ∧ -140737488355328 ≤ q ∧ q ≤ 140737488355328 ∧ (0 ≤ n → 0 ≤ r ∧ r ≤ n) ∧ (n ≤ 0 → n ≤ r ∧ r ≤ 0) := by
  obtain ⟨h1, h2⟩ := inR_true hn
  obtain ⟨s1, s2⟩ := sigV_bound n
  obtain ⟨p, hp⟩ : ∃ p, n * sigV n = p := ⟨_, rfl⟩
  have hb : (0 ≤ n → 0 ≤ p ∧ p ≤ n * 65536) ∧ (n ≤ 0 → n * 65536 ≤ p ∧ p ≤ 0) := by
    rw [← hp]
    exact ⟨fun h => ⟨Int.mul_nonneg h s1, Int.mul_le_mul_of_nonneg_left s2 h⟩, fun h => ⟨Int.mul_le_mul_of_nonpos_left h s2, Int.mul_nonpos_of_nonpos_of_nonneg h s1⟩⟩
  have hi : inR (sigV n) = true := by unfold inR; simp; omega
  have hr : inR (roundV p) = true := by unfold inR roundV; simp; omega
  refine ⟨_, _, _, rfl, rfl, rfl, ?_, by rw [hp]; omega, by rw [hp]; omega, ?_, ?_⟩
  · unfold gateV mulV
    rw [if_pos ⟨hn, hi⟩, prodV_round, hp]
    unfold toldV
    rw [if_pos hr]
  · rw [hp]; unfold roundV; omega
  · rw [hp]; unfold roundV; omega
theorem Sigmoid_eq (n : Int) (w : World) (hn : inR n = true) (s : Int) (hs : sigV n = s) :
    Calls Tryd.prog 18 #[.int .i64 n] w fun e w' => e = .returned (.int .i64 s) ∧ Below w.heap.size w w' := by
  subst hs
  exact Sigmoid_calls n w hn
theorem Exp_eq (n : Int) (w : World) (hL : LaidAt w 0 stepsA) (hn : n ≤ 0) (h9 : -9223372036854775808 ≤ n) (x : Int) (hx : expV n = x) :
    Calls Tryd.prog 14 #[.int .i64 n] w fun e w' => e = .returned (.tuple #[.int .i64 x, .int .i64 0]) ∧ w = w' := by
  subst hx
  exact Exp_calls n w hL hn h9
theorem rExp_eq (n : Int) (w : World) (hn : n ≤ 0) (h9 : -9223372036854775808 ≤ n) (x : Int) (hx : expV n = x) :
    Calls Tryd.prog 16 #[.int .i64 n] w fun e w' => e = .returned (.int .i64 x) ∧ Below w.heap.size w w' := by
  subst hx
  exact rExp_calls n w hn h9
end Go.Proofs.YtjlnjknmiojfoaaDoor.Fixed
