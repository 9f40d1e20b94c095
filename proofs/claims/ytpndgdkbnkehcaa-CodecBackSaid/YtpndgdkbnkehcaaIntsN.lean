/- codec.Ints of any bytes: the numbers, or that there are none. -/
import Derived.Test.YtpndgdkbnkehcaaCodecInts
namespace Go.Proofs.Ytpndgdkbnkehcaa.Codec
open Go.RowKit Go.Proofs.YtpndgdkbnkehcaaW.PrintWords Go.Proofs.YtpndgdkbnkehcaaW.PrintLast Go.Proofs.YtpndgdkbnkehcaaW.PrintMore Go.Proofs.Ytpndgdkbnkehcaa.K
set_option linter.unusedVariables false
def IntsPost (w : World) (l : List Int) (e : Ending) (w' : World) : Prop :=
  match l.length % 8 with
  | 0 => ∃ v, e = .returned (.tuple #[v, .int .i64 0]) ∧ Kd.R (Kd.int .i64) 3 w' w.heap.size (fun _ => True) v (intsV l) ∧ Below w.heap.size w w'
  | _ => e = .returned (.tuple #[.slice none 0 0, .int .i64 11]) ∧ Below w.heap.size w w'
set_option maxHeartbeats 1000000 in
set_option maxRecDepth 100000 in
theorem cints_n (A : Option Addr) (n c : Nat) (l : List Int) (w : World) (hr0 : Kd.C (Kd.int .u8) w A n l) (hc : n ≤ c) (hb : ∀ x ∈ l, 0 ≤ x ∧ x < 256) (hlim : n ≤ 140737488351232) :
    Calls Try.prog 18 #[.slice A n c] w (IntsPost w l) := by
  obtain hl := hr0.1
  unfold IntsPost
  cases h : l.length % 8 with
  | zero =>
    obtain ⟨N, hN⟩ : ∃ N, n = N * 8 := ⟨n / 8, by omega⟩
    subst hN
    refine (callsIn_wide.1 (ints_in Fence.wide 3 trivial trivial trivial rfl (Nat.le_refl _) A N c l w hr0 hc hb hlim)).mono ?_
    rintro e w' ⟨v, rfl, ho, hB⟩
    have hiv : intsV l = (List.range N).map (intAt l) := by
      rw [intsV, hl, Nat.mul_div_cancel _ (by decide)]
    refine ⟨v, rfl, ?_, hB⟩
    rw [hiv]
    refine R_int ?_
    rw [List.length_map, List.length_range]
    exact ho
  | succ m =>
    have hm0 : ((((n : Nat) : Int) % 8) != 0) = true := by
      simp only [bne_iff_ne, ne_eq]
      omega
    clear hr0
    go_enter Try.func18, Try.ntmps18
    go_wp2
    go_ret2
    exact ⟨rfl, Below.refl _ _⟩
end Go.Proofs.Ytpndgdkbnkehcaa.Codec
