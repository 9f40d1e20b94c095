/- The law's Few tells whether rows are not too many, and none of them too long. -/
import Derived.Test.YtpndgdkbnkehcaaLawPieces
namespace Go.Proofs.Ytpndgdkbnkehcaa.Law
open Go.RowKit Go.Proofs.YtpndgdkbnkehcaaW.PrintWords Go.Proofs.YtpndgdkbnkehcaaW.PrintLast Go.Proofs.YtpndgdkbnkehcaaW.PrintMore Go.Proofs.Ytpndgdkbnkehcaa.K
set_option linter.unusedVariables false
def fewB (xs : List (List Int)) : Bool := decide ((∀ x ∈ xs, x.length ≤ 700) ∧ xs.length ≤ 20)
set_option maxHeartbeats 1000000 in
theorem few_calls (A : Option Addr) (c : Nat) (xs : List (List Int)) (w : World) (hx : Kd.C (Kd.slice 5 (Kd.int .u8)) w A xs.length xs) (b : Bool) (hb : fewB xs = b) :
    Calls Try.prog 8 #[.slice A xs.length c] w fun e w' => e = .returned (.bool b) ∧ Drawn0 w w' := by
  have HX := Aside0.mk hx
  have HBb := Aside0.mk hb
  have hm := hx.2.1
  clear hx hb
  go_enter Try.func8, Try.ntmps8
  go_wp2
  go_loopw [3] (fun v3 w' => ∃ k : Nat, k ≤ xs.length ∧ v3 = .int .i64 k ∧ Aside0 (∀ x ∈ xs.take k, x.length ≤ 700) ∧ ∃ n, w' = w.drewN n) (fun v3 _ => xs.length - (intOf v3).toNat)
  case atStart => exact ⟨0, Nat.zero_le _, rfl, ⟨by simp⟩, 0, rfl⟩
  case round =>
    obtain ⟨k, hk, rfl, HE, nd, rfl⟩ := hrel
    by_cases hlt : k < xs.length
    · obtain ⟨ad, A1, c1, rfl, hx, hl1, hr1⟩ := row_at HX.out k hlt
      clear hl1
      have hm1 := hr1.2.1
      have HG := Aside0.mk (show xs.take (k + 1) = xs.take k ++ [xs.getD k []] by rw [List.take_succ_eq_append_getElem hlt]; simp [List.getElem?_eq_getElem hlt])
      have HI := Aside0.mk (show xs.getD k [] ∈ xs by rw [List.getD_eq_getElem?_getD, List.getElem?_eq_getElem hlt]; exact List.getElem_mem hlt)
      clear hr1
      generalize xs.getD k [] = x at *
      by_cases h7 : x.length ≤ 700
      · have h7I : decide (700 < x.length) = false := by simp; omega
        go_wp2
        go_roundw
        case measure => simp [intOf]; omega
        case rel => exact ⟨k + 1, by omega, by go_num, ⟨fun y hy => by rw [HG.out] at hy; rcases List.mem_append.1 hy with hy | hy; exact HE.out y hy; rw [List.mem_singleton.1 hy]; exact h7⟩, _, rfl⟩
      · have h7I : decide (700 < x.length) = true := by simp; omega
        have hbf : b = false := by
          rw [← HBb.out, fewB, decide_eq_false_iff_not]
          rintro ⟨h, _⟩
          exact h7 (h x HI.out)
        subst hbf
        go_wp2
        go_ret
        exact ⟨rfl, by first | exact ⟨_, rfl⟩ | exact ⟨_, World.drewN_drewN _ _ _⟩⟩
    · obtain rfl : k = xs.length := by omega
      have HQ : Aside0 (decide (xs.length ≤ 20) = b) := ⟨by
        have h1 := HE.out
        rw [List.take_length] at h1
        rw [← HBb.out, fewB]
        exact decide_eq_decide.mpr ⟨fun h => ⟨h1, h⟩, fun h => h.2⟩⟩
      go_wp2
      go_ret
      exact ⟨by rw [← HQ.out]; simp; omega, ⟨_, rfl⟩⟩
theorem few_n (A : Option Addr) (n c : Nat) (xs : List (List Int)) (w : World) (hx : Kd.C (Kd.slice 5 (Kd.int .u8)) w A n xs) (b : Bool) (hb : fewB xs = b) :
    Calls Try.prog 8 #[.slice A n c] w fun e w' => e = .returned (.bool b) ∧ Drawn0 w w' := by
  obtain rfl := hx.1
  exact few_calls A c xs w hx b hb
end Go.Proofs.Ytpndgdkbnkehcaa.Law
