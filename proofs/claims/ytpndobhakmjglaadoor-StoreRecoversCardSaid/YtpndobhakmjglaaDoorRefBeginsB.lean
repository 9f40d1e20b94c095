/- store: the reference's begins. -/
import Derived.Test.YtpndobhakmjglaaDoorBunS4
namespace Go.Proofs.YtpndobhakmjglaaDoor.Store
open Go.RowKit Go.Proofs.YtpndobhakmjglaaDoorW.PrintWords Go.Proofs.YtpndobhakmjglaaDoorW.PrintLast Go.Proofs.YtpndobhakmjglaaDoorW.PrintMore Go.Proofs.YtpndobhakmjglaaDoor.K Go.Proofs.YtpndobhakmjglaaDoor.Sha
set_option linter.unusedVariables false
set_option linter.unusedSimpArgs false
set_option maxHeartbeats 2000000 in
theorem rbegins_calls (A : Option Addr) (c : Nat) (b : List Int) (A' : Option Addr) (c' : Nat) (x : List Int) (w : World) (hb : Kd.C (Kd.int .u8) w A b.length b) (hx : Kd.C (Kd.int .u8) w A' x.length x) (t : Bool) (ht : hasB b x = t) :
    Calls Tryd.prog 30 #[.slice A b.length c, .slice A' x.length c'] w fun e w' => e = .returned (.bool t) ∧ Drawn0 w w' := by
  have HX := Aside0.mk hx
  have HY := Aside0.mk hb
  have HT : Aside0 (decide (b.take x.length = x) = t) := ⟨by rw [← ht]; simp [hasB]⟩
  have hm := hx.2.1
  clear hx hb ht
  by_cases hl : b.length < x.length
  · have hbf : t = false := by
      rw [← HT.out, decide_eq_false_iff_not]
      intro h
      have := congrArg List.length h
      rw [List.length_take] at this
      omega
    subst hbf
    have d1 : decide ((b.length : Int) < (x.length : Int)) = true := by simp; omega
    have d1N : decide (b.length < x.length) = true := by simp; omega
    clear hl HT
    go_enter Tryd.func30, Tryd.ntmps30
    go_wp2
    go_ret
    exact ⟨rfl, ⟨0, rfl⟩⟩
  · have d1 : decide ((b.length : Int) < (x.length : Int)) = false := by simp; omega
    have d1N : decide (b.length < x.length) = false := by simp; omega
    have HLe : Aside0 (x.length ≤ b.length) := ⟨by omega⟩
    clear hl
    go_enter Tryd.func30, Tryd.ntmps30
    go_wp2
    clear d1 d1N
    go_loopw [5] (fun v5 w' => ∃ k : Nat, k ≤ x.length ∧ v5 = .int .i64 k ∧ Aside0 (b.take k = x.take k) ∧ ∃ n, w' = w.drewN n) (fun v5 _ => x.length - (intOf v5).toNat)
    case atStart => exact ⟨0, Nat.zero_le _, rfl, ⟨rfl⟩, 0, rfl⟩
    case round =>
      obtain ⟨k, hk, rfl, HE, nd, rfl⟩ := hrel
      by_cases hlt : k < x.length
      · have hlt' : k < b.length := by have := HLe.out; omega
        obtain ⟨ad, rfl, hx⟩ := int_at HX.out k hlt
        obtain ⟨ad', rfl, hy⟩ := int_at HY.out k hlt'
        by_cases he : b.getD k 0 = x.getD k 0
        · have HE' := Aside0.mk (take_eq_step 0 k HE.out hlt' hlt he)
          rw [← he] at hx
          have e1 : (b.getD k 0 != b.getD k 0) = false := by simp
          clear he
          generalize b.getD k 0 = y at *
          go_wp2
          go_quiet (fail)
          go_wp2
          go_roundw
          case measure => simp [intOf]; omega
          case rel => exact ⟨k + 1, by omega, by go_num, HE', _, rfl⟩
        · have hbf : t = false := by
            rw [← HT.out, decide_eq_false_iff_not]
            intro h
            have h2 := congrArg (fun z => z.getD k 0) h
            simp only [List.getD_eq_getElem?_getD, List.getElem?_take_of_lt hlt] at h2
            simp only [List.getD_eq_getElem?_getD] at he
            exact he h2
          subst hbf
          have e4 : (b.getD k 0 == x.getD k 0) = false := beq_eq_false_iff_ne.mpr he
          have e5 : (b.getD k 0 != x.getD k 0) = true := bne_iff_ne.mpr he
          clear he HT HE
          generalize b.getD k 0 = y at *
          generalize x.getD k 0 = z at *
          go_wp2
          go_quiet (fail)
          go_wp2
          go_ret
          exact ⟨rfl, by first | exact ⟨_, rfl⟩ | exact ⟨_, World.drewN_drewN _ _ _⟩⟩
      · obtain rfl : k = x.length := by omega
        have hbt : t = true := by
          have h1 := HE.out
          rw [List.take_length] at h1
          rw [← HT.out, h1]
          simp
        subst hbt
        go_wp2
        go_ret
        exact ⟨rfl, by first | exact ⟨_, rfl⟩ | exact ⟨_, World.drewN_drewN _ _ _⟩⟩
end Go.Proofs.YtpndobhakmjglaaDoor.Store
