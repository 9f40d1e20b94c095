/- TensorTurns: the law's walk. -/
import Derived.Test.YtfameghednapkaaDoorBunT6
namespace Go.Proofs.YtfameghednapkaaDoor.Ten
open Go.RowKit Go.Proofs.YtfameghednapkaaDoorW.PrintWords Go.Proofs.YtfameghednapkaaDoorW.PrintLast Go.Proofs.YtfameghednapkaaDoorW.PrintMore Go.Proofs.YtfameghednapkaaDoor.K Go.Proofs.YtfameghednapkaaDoor.RI Go.Proofs.YtfameghednapkaaDoor.Fixed
set_option linter.unusedVariables false
set_option linter.unusedSimpArgs false
set_option maxHeartbeats 16000000 in
set_option maxRecDepth 100000 in
theorem turns_calls (A : Option Addr) (c : Nat) (v : List Int) (turn : Int) (w : World) (hC : Kd.C (Kd.int .i64) w A v.length v) (hL : LaidAt w 0 stepsA) (hA : LaidAt w 1 anglesA) :
    Calls Tryd.prog 10 #[.slice A v.length c, .int .i64 turn] w fun e w' => e = .returned (.bool true) ∧ Below w.heap.size w w' := by
  have HL := Aside0.mk hL
  have HA := Aside0.mk hA
  have HC := Aside0.mk hC
  have hm1 := hC.2.1
  clear hC hL hA
  by_cases h1 : 64 < v.length
  · have d1 : decide (64 < (v.length : Int)) = true := by simp; omega
    by_cases h2 : v.length ≤ 512
    · have d2 : decide ((v.length : Int) ≤ 512) = true := by simp; omega
      clear h1 h2
      go_enter Tryd.func10, Tryd.ntmps10
      go_wp2_with (fail)
      
      refine (awake07_calls w (HL.out.below (Below.refl _ _))).mono ?_
      rintro e wz ⟨rfl, hb⟩
      have HBz := Aside0.mk hb
      clear hb
      go_wp2_with (fail)
      go_ret
      exact ⟨rfl, HBz.out⟩
    · have d2 : decide ((v.length : Int) ≤ 512) = false := by simp; omega
      by_cases h3 : 600 < v.length
      · have d3 : decide (600 < (v.length : Int)) = true := by simp; omega
        clear h1 h2 h3
        go_enter Tryd.func10, Tryd.ntmps10
        go_wp2_with (fail)
        
        refine (awake07_calls w (HL.out.below (Below.refl _ _))).mono ?_
        rintro e wz ⟨rfl, hb⟩
        have HBz := Aside0.mk hb
        clear hb
        go_wp2_with (fail)
        go_ret
        exact ⟨rfl, HBz.out⟩
      · have d3 : decide (600 < (v.length : Int)) = false := by simp; omega
        clear h1 h3
        by_cases hodd : v.length % 2 = 0
        · have hmod : (v.length : Int).tmod 2 = 0 := by rw [Int.tmod_eq_emod_of_nonneg (by omega)]; omega
          by_cases hz : checkV v = 0
          · exact absurd (check_ok_in hz).2.2 (by omega)
          · obtain ⟨z, hze⟩ : ∃ z, z = checkV v := ⟨_, rfl⟩
            have dz : (z != 0) = true := by rw [hze]; simpa using hz
            have dz1 : (z == 0) = false := by rw [hze]; simpa using hz
            have dz2 : (z == z) = true := by simp
            have HE : Aside0 (rotE v turn = z) := ⟨by rw [rotE, if_neg (by simp [hodd]), if_pos hz, hze]⟩
            have HEn : Aside0 (rotE v turn ≠ 0) := ⟨by rw [HE.out, hze]; exact hz⟩
            have HZ : Aside0 (checkV v = z) := ⟨hze.symm⟩
            clear hodd hz hze
            
            go_enter Tryd.func10, Tryd.ntmps10
            go_wp2_with (fail)
            
            refine (rotate_calls A c v turn w HC.out HA.out).mono ?_
            rintro e w1 ⟨h1, _, hb⟩
            have HB1 := Aside0.mk hb
            have he := h1 HEn.out
            rw [HE.out] at he
            subst he
            clear h1 hb
            go_wp2_with (fail)
            refine (rcheck_calls A c v w1 (Kd.C_below HC.out HB1.out)).mono ?_
            rw [HZ.out]
            rintro e w2 ⟨rfl, hb⟩
            have HB2 := Aside0.mk (below_step HB1.out hb)
            clear hb
            go_wp2_with (fail)
            refine (awake07_calls w2 (HL.out.below HB2.out)).mono ?_
            rintro e wz ⟨rfl, hb⟩
            have HBz := Aside0.mk (below_step HB2.out hb)
            clear hb
            go_wp2_with (fail)
            go_ret
            exact ⟨rfl, HBz.out⟩
        · have hmod : (v.length : Int).tmod 2 = 1 := by rw [Int.tmod_eq_emod_of_nonneg (by omega)]; omega
          have HE : Aside0 (rotE v turn = 13) := ⟨by rw [rotE, if_pos hodd]⟩
          have HEn : Aside0 (rotE v turn ≠ 0) := ⟨by rw [HE.out]; decide⟩
          obtain ⟨z, hze⟩ : ∃ z, z = checkV v := ⟨_, rfl⟩
          have HZ : Aside0 (checkV v = z) := ⟨hze.symm⟩
          clear hodd hze
          
          go_enter Tryd.func10, Tryd.ntmps10
          go_wp2_with (fail)
          
          refine (rotate_calls A c v turn w HC.out HA.out).mono ?_
          rintro e w1 ⟨h1, _, hb⟩
          have HB1 := Aside0.mk hb
          have he := h1 HEn.out
          rw [HE.out] at he
          subst he
          clear h1 hb
          go_wp2_with (fail)
          refine (rcheck_calls A c v w1 (Kd.C_below HC.out HB1.out)).mono ?_
          rw [HZ.out]
          rintro e w2 ⟨rfl, hb⟩
          have HB2 := Aside0.mk (below_step HB1.out hb)
          clear hb
          go_wp2_with (fail)
          refine (awake07_calls w2 (HL.out.below HB2.out)).mono ?_
          rintro e wz ⟨rfl, hb⟩
          have HBz := Aside0.mk (below_step HB2.out hb)
          clear hb
          go_wp2_with (fail)
          go_ret
          exact ⟨rfl, HBz.out⟩
  · have d1 : decide (64 < (v.length : Int)) = false := by simp; omega
    have d3 : decide (600 < (v.length : Int)) = false := by simp; omega
    clear h1
    by_cases hodd : v.length % 2 = 0
    · have hmod : (v.length : Int).tmod 2 = 0 := by rw [Int.tmod_eq_emod_of_nonneg (by omega)]; omega
      by_cases hz : checkV v = 0
      · have HZ := Aside0.mk hz
        have HOd := Aside0.mk hodd
        by_cases hr : turn < 0 ∨ 1023 < turn
        · have HE : Aside0 (rotE v turn = 10) := ⟨by rw [rotE, if_neg (by simp [hodd]), if_neg (by simp [hz]), if_pos hr]⟩
          have HEn : Aside0 (rotE v turn ≠ 0) := ⟨by rw [HE.out]; decide⟩
          by_cases hr1 : turn < 0
          · have e1 : decide (turn < 0) = true := by simpa using hr1
            clear hodd hz hr hr1
            
            go_enter Tryd.func10, Tryd.ntmps10
            go_wp2_with (fail)
            
            refine (rotate_calls A c v turn w HC.out HA.out).mono ?_
            rintro e w1 ⟨h1, _, hb⟩
            have HB1 := Aside0.mk hb
            have he := h1 HEn.out
            rw [HE.out] at he
            subst he
            clear h1 hb
            go_wp2_with (fail)
            refine (rcheck_calls A c v w1 (Kd.C_below HC.out HB1.out)).mono ?_
            rw [HZ.out]
            rintro e w2 ⟨rfl, hb⟩
            have HB2 := Aside0.mk (below_step HB1.out hb)
            clear hb
            go_wp2_with (fail)
            refine (awake07_calls w2 (HL.out.below HB2.out)).mono ?_
            rintro e wz ⟨rfl, hb⟩
            have HBz := Aside0.mk (below_step HB2.out hb)
            clear hb
            go_wp2_with (fail)
            go_ret
            exact ⟨rfl, HBz.out⟩
          · have e1 : decide (turn < 0) = false := by simpa using hr1
            have e2 : decide (1023 < turn) = true := by simp; omega
            clear hodd hz hr hr1
            
            go_enter Tryd.func10, Tryd.ntmps10
            go_wp2_with (fail)
            
            refine (rotate_calls A c v turn w HC.out HA.out).mono ?_
            rintro e w1 ⟨h1, _, hb⟩
            have HB1 := Aside0.mk hb
            have he := h1 HEn.out
            rw [HE.out] at he
            subst he
            clear h1 hb
            go_wp2_with (fail)
            refine (rcheck_calls A c v w1 (Kd.C_below HC.out HB1.out)).mono ?_
            rw [HZ.out]
            rintro e w2 ⟨rfl, hb⟩
            have HB2 := Aside0.mk (below_step HB1.out hb)
            clear hb
            go_wp2_with (fail)
            refine (awake07_calls w2 (HL.out.below HB2.out)).mono ?_
            rintro e wz ⟨rfl, hb⟩
            have HBz := Aside0.mk (below_step HB2.out hb)
            clear hb
            go_wp2_with (fail)
            go_ret
            exact ⟨rfl, HBz.out⟩
        · obtain ⟨n, rfl⟩ : ∃ n : Nat, turn = (n : Int) := ⟨turn.toNat, by omega⟩
          have hn : n ≤ 1023 := by omega
          have e1 : decide ((n : Int) < 0) = false := by simp
          have e2 : decide (1023 < (n : Int)) = false := by simp; omega
          have e3 : decide (1023 < n) = false := by simp; omega
          obtain ⟨h, hh⟩ : ∃ h, h = v.length / 2 := ⟨_, rfl⟩
          have hin := check_ok_in hz
          have hlen := hin.2.2
          have HE : Aside0 (rotE v (n : Int) = errP (rotF v n) h 0) := ⟨by rw [rotE, if_neg (by simp [hodd]), if_neg (by simp [hz]), if_neg hr, hh]; rfl⟩
          have HLs : Aside0 (rotL v (n : Int) = flatP (outP (rotF v n) h)) := ⟨by rw [rotL, hh]; rfl⟩
          have HRr : Aside0 (∀ W, Below w.heap.size w W → Calls Tryd.prog 32 #[.slice A v.length c, .int .i64 (n : Int)] W (ListEnd (errP (rotF v n) h 0) (flatP (outP (rotF v n) h)) W)) := ⟨fun W hb => rrotate_calls A c v n h W (Kd.C_below HC.out hb) (by omega) (by omega) hn (fun x hx => List.all_eq_true.1 hin.1 x hx)⟩
          clear hodd hz hr hn hin hlen hh
          go_enter Tryd.func10, Tryd.ntmps10
          go_wp2_with (fail)
          refine (rotate_calls A c v (n : Int) w HC.out HA.out).mono ?_
          rintro e w1 ⟨h1, h2, hb⟩
          rw [HE.out] at h1 h2
          rw [HLs.out] at h2
          have HB1 := Aside0.mk hb
          clear hb
          generalize flatP (outP (rotF v n) h) = ys at *
          generalize errP (rotF v n) h 0 = q at *
          obtain ⟨A1, c1, L1, rfl, hC1, hL1⟩ : ∃ A1 c1 L1, e = .returned (.tuple #[.slice A1 (L1 : List Int).length c1, .int .i64 q]) ∧ Kd.C (Kd.int .i64) w1 A1 L1.length L1 ∧ (if q = 0 then L1 = ys else L1 = []) := by
            by_cases hq : q = 0
            · obtain ⟨A1, c1, he, hc, _⟩ := h2 hq
              exact ⟨A1, c1, ys, by rw [he, hq], hc, by rw [if_pos hq]⟩
            · exact ⟨none, 0, [], h1 hq, Kd.C_nil _ _, by rw [if_neg hq]⟩
          have HC1 := Aside0.mk hC1
          have HL1 := Aside0.mk hL1
          clear h1 h2 hC1 hL1
          go_wp2_with (fail)
          refine (rcheck_calls A c v w1 (Kd.C_below HC.out HB1.out)).mono ?_
          rw [HZ.out]
          rintro e w2 ⟨rfl, hb⟩
          have HB2 := Aside0.mk (below_step HB1.out hb)
          have HD2 := Aside0.mk hb
          clear hb
          go_wp2_with (fail)
          refine (HRr.out w2 HB2.out).mono ?_
          rintro e w3 ⟨h1, h2, hb⟩
          have HB3 := Aside0.mk (below_step HB2.out hb)
          have HC13 := Aside0.mk (Kd.C_below HC1.out (below_step HD2.out hb))
          clear hb
          obtain ⟨A3, c3, rfl, hC3⟩ : ∃ A3 c3, e = .returned (.tuple #[.slice A3 L1.length c3, .int .i64 q]) ∧ Kd.C (Kd.int .i64) w3 A3 L1.length L1 := by
            have hL1 := HL1.out
            by_cases hq : q = 0
            · obtain ⟨A3, c3, he, hc, _⟩ := h2 hq
              rw [if_pos hq] at hL1
              subst hL1
              exact ⟨A3, c3, by rw [he, hq], hc⟩
            · rw [if_neg hq] at hL1
              subst hL1
              exact ⟨none, 0, h1 hq, Kd.C_nil _ _⟩
          have HC3 := Aside0.mk hC3
          clear h1 h2 hC3
          go_wp2_with (fail)
          refine (same7_calls A1 c1 L1 A3 c3 q w3 HC13.out HC3.out).mono ?_
          rintro e w4 ⟨rfl, hb⟩
          have HB4 := Aside0.mk (below_step HB3.out hb)
          clear hb
          go_wp2_with (fail)
          refine (awake07_calls w4 (HL.out.below HB4.out)).mono ?_
          rintro e wz ⟨rfl, hb⟩
          have HBz := Aside0.mk (below_step HB4.out hb)
          clear hb
          go_wp2_with (fail)
          go_ret
          exact ⟨rfl, HBz.out⟩
      · obtain ⟨z, hze⟩ : ∃ z, z = checkV v := ⟨_, rfl⟩
        have dz : (z != 0) = true := by rw [hze]; simpa using hz
        have dz1 : (z == 0) = false := by rw [hze]; simpa using hz
        have dz2 : (z == z) = true := by simp
        have HE : Aside0 (rotE v turn = z) := ⟨by rw [rotE, if_neg (by simp [hodd]), if_pos hz, hze]⟩
        have HEn : Aside0 (rotE v turn ≠ 0) := ⟨by rw [HE.out, hze]; exact hz⟩
        have HZ : Aside0 (checkV v = z) := ⟨hze.symm⟩
        clear hodd hz hze
        
        go_enter Tryd.func10, Tryd.ntmps10
        go_wp2_with (fail)
        
        refine (rotate_calls A c v turn w HC.out HA.out).mono ?_
        rintro e w1 ⟨h1, _, hb⟩
        have HB1 := Aside0.mk hb
        have he := h1 HEn.out
        rw [HE.out] at he
        subst he
        clear h1 hb
        go_wp2_with (fail)
        refine (rcheck_calls A c v w1 (Kd.C_below HC.out HB1.out)).mono ?_
        rw [HZ.out]
        rintro e w2 ⟨rfl, hb⟩
        have HB2 := Aside0.mk (below_step HB1.out hb)
        clear hb
        go_wp2_with (fail)
        refine (awake07_calls w2 (HL.out.below HB2.out)).mono ?_
        rintro e wz ⟨rfl, hb⟩
        have HBz := Aside0.mk (below_step HB2.out hb)
        clear hb
        go_wp2_with (fail)
        go_ret
        exact ⟨rfl, HBz.out⟩
    · have hmod : (v.length : Int).tmod 2 = 1 := by rw [Int.tmod_eq_emod_of_nonneg (by omega)]; omega
      have HE : Aside0 (rotE v turn = 13) := ⟨by rw [rotE, if_pos hodd]⟩
      have HEn : Aside0 (rotE v turn ≠ 0) := ⟨by rw [HE.out]; decide⟩
      obtain ⟨z, hze⟩ : ∃ z, z = checkV v := ⟨_, rfl⟩
      have HZ : Aside0 (checkV v = z) := ⟨hze.symm⟩
      clear hodd hze
      
      go_enter Tryd.func10, Tryd.ntmps10
      go_wp2_with (fail)
      
      refine (rotate_calls A c v turn w HC.out HA.out).mono ?_
      rintro e w1 ⟨h1, _, hb⟩
      have HB1 := Aside0.mk hb
      have he := h1 HEn.out
      rw [HE.out] at he
      subst he
      clear h1 hb
      go_wp2_with (fail)
      refine (rcheck_calls A c v w1 (Kd.C_below HC.out HB1.out)).mono ?_
      rw [HZ.out]
      rintro e w2 ⟨rfl, hb⟩
      have HB2 := Aside0.mk (below_step HB1.out hb)
      clear hb
      go_wp2_with (fail)
      refine (awake07_calls w2 (HL.out.below HB2.out)).mono ?_
      rintro e wz ⟨rfl, hb⟩
      have HBz := Aside0.mk (below_step HB2.out hb)
      clear hb
      go_wp2_with (fail)
      go_ret
      exact ⟨rfl, HBz.out⟩
theorem turns_n (A : Option Addr) (n c : Nat) (v : List Int) (turn : Int) (w : World) (hC : Kd.C (Kd.int .i64) w A n v) (hL : LaidAt w 0 stepsA) (hA : LaidAt w 1 anglesA) :
    Calls Tryd.prog 10 #[.slice A n c, .int .i64 turn] w fun e w' => e = .returned (.bool true) ∧ Below w.heap.size w w' := by
  obtain rfl := hC.1
  exact turns_calls A c v turn w hC hL hA
end Go.Proofs.YtfameghednapkaaDoor.Ten
