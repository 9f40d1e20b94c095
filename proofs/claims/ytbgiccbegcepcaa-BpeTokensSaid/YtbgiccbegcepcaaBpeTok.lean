/- bpe: token, Many. -/
import Derived.Test.YtbgiccbegcepcaaBpeCod
namespace Go.Proofs.Ytbgiccbegcepcaa.Bpe
open Go.RowKit Go.Proofs.YtbgiccbegcepcaaW.PrintWords Go.Proofs.YtbgiccbegcepcaaW.PrintLast Go.Proofs.YtbgiccbegcepcaaW.PrintMore Go.Proofs.Ytbgiccbegcepcaa.K
set_option linter.unusedVariables false
set_option linter.unusedSimpArgs false
section
variable {w : World} {B g b : Nat} {vt vo : Value} {T : List (List Int)} {of : List Int} {n : Int} {ps os : List Pr}
def isTok (m : Nat) (x : Int) : Bool := decide (0 ≤ x) && decide (x < (m : Int))
set_option maxHeartbeats 1000000 in
theorem token_any (x : Int) (h : CodAt w B g vt vo b T of n ps os) :
    Calls Try.prog 27 #[.pointer (some ⟨g, 0, none⟩), .int .i64 x] w fun e w' => e = .returned (.bool (isTok T.length x)) ∧ w = w' := by
  obtain ⟨A, c, rfl, hcap, hC⟩ := Kd.R_reads h.2.2.2.2.1
  have h0 := cd0 h
  have HI : ∃ q, q = isTok T.length x := ⟨_, rfl⟩
  obtain ⟨q, hq⟩ := HI
  have HQ : Aside0 (q = isTok T.length x) := ⟨hq⟩
  have HL : Aside0 (T.length ≤ c) := ⟨hcap⟩
  clear hC h hq hcap
  by_cases hx : 0 ≤ x
  · by_cases hx2 : x < (T.length : Int)
    · have HV : Aside0 (q = true) := ⟨by rw [HQ.out]; simp [isTok, hx, hx2]⟩
      have hd1 : decide (0 ≤ x) = true := by simpa using hx
      have hd : decide (x < (T.length : Int)) = true := by simpa using hx2
      clear hx hx2
      go_enter Try.func27, Try.ntmps27
      go_wp2
      go_ret
      exact ⟨congrArg (fun b => Ending.returned (Value.bool b)) (HV.out.symm.trans HQ.out), rfl⟩
    · have HV : Aside0 (q = false) := ⟨by rw [HQ.out]; simp [isTok, hx2]⟩
      have hd1 : decide (0 ≤ x) = true := by simpa using hx
      have hd : decide (x < (T.length : Int)) = false := by simpa using hx2
      clear hx hx2
      go_enter Try.func27, Try.ntmps27
      go_wp2
      go_ret
      exact ⟨congrArg (fun b => Ending.returned (Value.bool b)) (HV.out.symm.trans HQ.out), rfl⟩
  · have HV : Aside0 (q = false) := ⟨by rw [HQ.out]; simp [isTok, hx]⟩
    have hd : decide (0 ≤ x) = false := by simpa using hx
    clear hx
    go_enter Try.func27, Try.ntmps27
    go_wp2
    go_ret
    exact ⟨congrArg (fun b => Ending.returned (Value.bool b)) (HV.out.symm.trans HQ.out), rfl⟩
theorem token_calls (x : Int) (q : Bool) (hq : isTok T.length x = q) (h : CodAt w B g vt vo b T of n ps os) :
    Calls Try.prog 27 #[.pointer (some ⟨g, 0, none⟩), .int .i64 x] w fun e w' => e = .returned (.bool q) ∧ w = w' := by
  subst hq
  exact token_any x h
set_option maxHeartbeats 1000000 in
theorem many_calls (h : CodAt w B g vt vo b T of n ps os) :
    Calls Try.prog 16 #[.pointer (some ⟨g, 0, none⟩)] w fun e w' => e = .returned (.int .i64 T.length) ∧ w = w' := by
  obtain ⟨A, c, rfl, hcap, hC⟩ := Kd.R_reads h.2.2.2.2.1
  have h0 := cd0 h
  clear hC h hcap
  go_enter Try.func16, Try.ntmps16
  go_wp2
  go_ret
  exact ⟨rfl, rfl⟩
end
end Go.Proofs.Ytbgiccbegcepcaa.Bpe
