/- The law's Pieces tells whether two rows of lists are the same. -/
import Derived.Test.YtpndobhakmjglaaDoorLawBytes
namespace Go.Proofs.YtpndobhakmjglaaDoor.Law
open Go.RowKit Go.Proofs.YtpndobhakmjglaaDoorW.PrintWords Go.Proofs.YtpndobhakmjglaaDoorW.PrintLast Go.Proofs.YtpndobhakmjglaaDoorW.PrintMore Go.Proofs.YtpndobhakmjglaaDoor.K
set_option linter.unusedVariables false
set_option maxHeartbeats 1000000 in
theorem pieces_calls (A : Option Addr) (c : Nat) (xs : List (List Int)) (A' : Option Addr) (c' : Nat) (ys : List (List Int)) (w : World) (hx : Kd.C (Kd.slice 5 (Kd.int .u8)) w A xs.length xs) (hy : Kd.C (Kd.slice 5 (Kd.int .u8)) w A' ys.length ys) (b : Bool) (hb : decide (xs = ys) = b) :
    Calls Tryd.prog 16 #[.slice A xs.length c, .slice A' ys.length c'] w fun e w' => e = .returned (.bool b) ∧ Drawn0 w w' := by
  have HX := Aside0.mk hx
  have HY := Aside0.mk hy
  have HBb := Aside0.mk hb
  have hm := hx.2.1
  clear hx hy hb
  by_cases hl : xs.length = ys.length
  · have HL := Aside0.mk hl
    have e1 : ((xs.length : Int) == (ys.length : Int)) = true := by rw [beq_iff_eq]; omega
    have e2 : ((xs.length : Int) != (ys.length : Int)) = false := by rw [bne_eq_false_iff_eq]; omega
    have e3 : (xs.length == ys.length) = true := by rw [beq_iff_eq]; omega
    clear hl
    go_enter Tryd.func16, Tryd.ntmps16
    go_wp2
    go_loopw [5] (fun v5 w' => ∃ k : Nat, k ≤ xs.length ∧ v5 = .int .i64 k ∧ Aside0 (xs.take k = ys.take k) ∧ ∃ n, w' = w.drewN n) (fun v5 _ => xs.length - (intOf v5).toNat)
    case atStart => exact ⟨0, Nat.zero_le _, rfl, ⟨rfl⟩, 0, rfl⟩
    case round =>
      obtain ⟨k, hk, rfl, HE, nd, rfl⟩ := hrel
      clear e1 e2 e3
      by_cases hlt : k < xs.length
      · have hlt' : k < ys.length := by have := HL.out; omega
        obtain ⟨ad, A1, c1, rfl, hx, hl1, hr1⟩ := row_at HX.out k hlt
        obtain ⟨ad', A2, c2, rfl, hy, hl2, hr2⟩ := row_at HY.out k hlt'
        have HR1 := Aside0.mk hr1
        have HR2 := Aside0.mk hr2
        clear hr1 hr2 hl1 hl2
        by_cases he : xs.getD k [] = ys.getD k []
        · have HE' := Aside0.mk (take_eq_step [] k HE.out hlt hlt' he)
          have HQ := Aside0.mk (show decide (xs.getD k [] = ys.getD k []) = true by simp only [he, decide_true])
          clear he
          generalize xs.getD k [] = x at *
          generalize ys.getD k [] = y at *
          go_wp2
          go_quiet ((go_at_call 12; refine (bytes_calls A1 _ x A2 _ y _ (drew_C HR1.out _) (drew_C HR2.out _) true HQ.out).mono ?_; rintro e w' ⟨rfl, ⟨nq, rfl⟩⟩; first | exact ⟨rfl, _, World.drewN_drewN _ _ _⟩ | exact ⟨rfl, _, drewN_add _ _ _ _⟩))
          go_wp2
          go_roundw
          case measure => simp [intOf]; omega
          case rel => exact ⟨k + 1, by omega, by go_num, HE', _, rfl⟩
        · have hbf : b = false := by
            rw [← HBb.out, decide_eq_false_iff_not]
            rintro h
            rw [h] at he
            exact he rfl
          subst hbf
          have HQ := Aside0.mk (show decide (xs.getD k [] = ys.getD k []) = false by rw [decide_eq_false_iff_not]; exact he)
          clear he HBb HE
          generalize xs.getD k [] = x at *
          generalize ys.getD k [] = y at *
          go_wp2
          go_quiet ((go_at_call 12; refine (bytes_calls A1 _ x A2 _ y _ (drew_C HR1.out _) (drew_C HR2.out _) false HQ.out).mono ?_; rintro e w' ⟨rfl, ⟨nq, rfl⟩⟩; first | exact ⟨rfl, _, World.drewN_drewN _ _ _⟩ | exact ⟨rfl, _, drewN_add _ _ _ _⟩))
          go_wp2
          go_ret
          exact ⟨rfl, by first | exact ⟨_, rfl⟩ | exact ⟨_, World.drewN_drewN _ _ _⟩⟩
      · obtain rfl : k = xs.length := by omega
        have hbt : b = true := by
          have h1 := HE.out
          rw [List.take_length, HL.out, List.take_length] at h1
          rw [← HBb.out, h1]
          simp
        subst hbt
        go_wp2
        go_ret
        exact ⟨rfl, by first | exact ⟨_, rfl⟩ | exact ⟨_, World.drewN_drewN _ _ _⟩⟩
  · have hbf : b = false := by
      rw [← HBb.out, decide_eq_false_iff_not]
      rintro rfl
      exact hl rfl
    subst hbf
    have e1 : ((xs.length : Int) == (ys.length : Int)) = false := by rw [beq_eq_false_iff_ne]; omega
    have e2 : ((xs.length : Int) != (ys.length : Int)) = true := by rw [bne_iff_ne]; omega
    have e3 : (xs.length == ys.length) = false := by rw [beq_eq_false_iff_ne]; omega
    clear hl HBb
    go_enter Tryd.func16, Tryd.ntmps16
    go_wp2
    go_ret
    exact ⟨rfl, ⟨0, rfl⟩⟩
theorem pieces_n (A : Option Addr) (n c : Nat) (xs : List (List Int)) (A' : Option Addr) (n' c' : Nat) (ys : List (List Int)) (w : World) (hx : Kd.C (Kd.slice 5 (Kd.int .u8)) w A n xs) (hy : Kd.C (Kd.slice 5 (Kd.int .u8)) w A' n' ys) (b : Bool) (hb : decide (xs = ys) = b) :
    Calls Tryd.prog 16 #[.slice A n c, .slice A' n' c'] w fun e w' => e = .returned (.bool b) ∧ Drawn0 w w' := by
  obtain rfl := hx.1
  obtain rfl := hy.1
  exact pieces_calls A c xs A' c' ys w hx hy b hb
end Go.Proofs.YtpndobhakmjglaaDoor.Law
