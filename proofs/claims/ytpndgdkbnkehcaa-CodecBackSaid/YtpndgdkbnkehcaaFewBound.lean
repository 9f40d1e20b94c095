/- What Few lets in: how many bytes there are at the most. -/
import Derived.Test.YtpndgdkbnkehcaaCodecPure
import Derived.Test.YtpndgdkbnkehcaaLawFew
namespace Go.Proofs.Ytpndgdkbnkehcaa.Law
open Go.RowKit Go.Proofs.YtpndgdkbnkehcaaW.PrintWords Go.Proofs.YtpndgdkbnkehcaaW.PrintLast Go.Proofs.YtpndgdkbnkehcaaW.PrintMore Go.Proofs.Ytpndgdkbnkehcaa.K Go.Proofs.Ytpndgdkbnkehcaa.Codec
theorem few_bound {l : List (List Int)} (h : fewB l = true) : (∀ p ∈ l, p.length < 4294967296) ∧ (joinL l).length ≤ 14080 ∧ l.length ≤ 20 := by
  have h := of_decide_eq_true h
  refine ⟨fun p hp => by have := h.1 p hp; omega, ?_, h.2⟩
  have h1 := joinL_bound l 700 h.1
  have h2 := h.2
  have h3 : (700 + 4) * l.length ≤ 704 * 20 := Nat.mul_le_mul_left _ h2
  omega
end Go.Proofs.Ytpndgdkbnkehcaa.Law
