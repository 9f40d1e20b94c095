/- bpe's laws: Few; a cut of pairs. -/
import Derived.Test.YtbgiccbegcepcaaBpeFacts
namespace Go.Proofs.Ytbgiccbegcepcaa.Bpe
open Go.RowKit Go.Proofs.YtbgiccbegcepcaaW.PrintWords Go.Proofs.YtbgiccbegcepcaaW.PrintLast Go.Proofs.YtbgiccbegcepcaaW.PrintMore Go.Proofs.Ytbgiccbegcepcaa.K
set_option linter.unusedVariables false
set_option linter.unusedSimpArgs false
def fewB (n m : Nat) : Bool := decide (n ≤ 600) && decide (m ≤ 60)
set_option maxHeartbeats 1000000 in
theorem few_any (A : Option Addr) (n c : Nat) (A2 : Option Addr) (n2 c2 : Nat) (w : World) (hn : n ≤ 9223372036854775807) (hn2 : n2 ≤ 9223372036854775807) :
    Calls Try.prog 9 #[.agg #[.slice A n c, .slice A2 n2 c2]] w fun e w' => e = .returned (.bool (fewB n n2)) ∧ Below w.heap.size w w' := by
  have HB : Aside0 (Below w.heap.size w (w.alloc (.cells #[.slice A n c, .slice A2 n2 c2] 25))) := ⟨bel_alloc (Below.refl _ _) _⟩
  have HF : ∃ q, q = fewB n n2 := ⟨_, rfl⟩
  obtain ⟨q, hq⟩ := HF
  have HQ := Aside0.mk hq
  clear hq
  by_cases h1 : n ≤ 600
  · have hd1 : decide ((n : Int) ≤ 600) = true := by simp; omega
    by_cases h2 : n2 ≤ 60
    · have hd2 : decide ((n2 : Int) ≤ 60) = true := by simp; omega
      have HV : Aside0 (q = true) := ⟨by rw [HQ.out]; simp [fewB, h1, h2]⟩
      clear h1 h2 hn hn2
      go_enter Try.func9, Try.ntmps9
      go_wp2
      go_ret
      exact ⟨congrArg (fun b => Ending.returned (Value.bool b)) (HV.out.symm.trans HQ.out), HB.out⟩
    · have hd2 : decide ((n2 : Int) ≤ 60) = false := by simp; omega
      have HV : Aside0 (q = false) := ⟨by rw [HQ.out]; simp [fewB, h2]⟩
      clear h1 h2 hn hn2
      go_enter Try.func9, Try.ntmps9
      go_wp2
      go_ret
      exact ⟨congrArg (fun b => Ending.returned (Value.bool b)) (HV.out.symm.trans HQ.out), HB.out⟩
  · have hd1 : decide ((n : Int) ≤ 600) = false := by simp; omega
    have HV : Aside0 (q = false) := ⟨by rw [HQ.out]; simp [fewB, h1]⟩
    clear h1 hn hn2
    go_enter Try.func9, Try.ntmps9
    go_wp2
    go_ret
    exact ⟨congrArg (fun b => Ending.returned (Value.bool b)) (HV.out.symm.trans HQ.out), HB.out⟩
theorem few_calls (A : Option Addr) (n c : Nat) (A2 : Option Addr) (n2 c2 : Nat) (w : World) (hn : n ≤ 9223372036854775807) (hn2 : n2 ≤ 9223372036854775807) (q : Bool) (hq : fewB n n2 = q) :
    Calls Try.prog 9 #[.agg #[.slice A n c, .slice A2 n2 c2]] w fun e w' => e = .returned (.bool q) ∧ Below w.heap.size w w' := by
  subst hq
  exact few_any A n c A2 n2 c2 w hn hn2
theorem fewB_true {n m : Nat} (h : fewB n m = true) : n ≤ 600 ∧ m ≤ 60 := by
  simpa [fewB] using h
/-- 'x[:m]' of a row. -/
theorem run_upto {P : Program} (t e : TypeId) (ht : P.underlying t = some (.slice e)) {z : Option Value} {sz by_ : Nat} (hinfo : (P.info? e).map (fun i => (i.zero, i.size, i.bytes)) = some (z, sz, by_)) (A : Option Addr) (n c m : Nat) (hm : m ≤ n) (hc : n ≤ c) (W : World) :
    (Instr.slice t (.slice A n c) none (some (.int .i64 (m : Int))) none).run P W = .ok (.slice A m c) W := by
  obtain ⟨i, hi, hzz⟩ := Option.map_eq_some_iff.1 hinfo
  simp only [Prod.mk.injEq] at hzz
  have hel : P.elem t = e := by simp [Program.elem, ht]
  have hu : P.underlying t = some (.slice (P.elem t)) := by rw [hel]; exact ht
  rw [run_slice_h W t A n c hu .i64 (m : Int) (Int.natCast_nonneg _) (by omega), hel]
  simp [sizeOf, typeInfo, hi, hzz.2.1, sliced, Result.andThen, Addr.add]
theorem take_pairs {w : World} {A : Option Addr} {xs : List Pr} (m : Nat) (hm : m ≤ xs.length) (h : Kd.C kP w A xs.length xs) : Kd.C kP w A (xs.take m).length (xs.take m) := by
  have := take_rows m hm h
  rwa [show (xs.take m).length = m by rw [List.length_take]; omega]
end Go.Proofs.Ytbgiccbegcepcaa.Bpe
