/- The walk of FixedBounds: whatever the numbers, it answers true. -/
import Derived.Test.YtjlnjknmiojfoaaDoorFixed5
import Derived.Test.YtjlnjknmiojfoaaDoorFixedGate
namespace Go.Proofs.YtjlnjknmiojfoaaDoor.Fixed
open Go.RowKit Go.Proofs.YtjlnjknmiojfoaaDoorW.PrintWords Go.Proofs.YtjlnjknmiojfoaaDoorW.PrintLast Go.Proofs.YtjlnjknmiojfoaaDoorW.PrintMore Go.Proofs.YtjlnjknmiojfoaaDoor.K
set_option linter.unusedVariables false
set_option maxHeartbeats 4000000 in
set_option maxRecDepth 100000 in
theorem bounds_calls (n : Int) (w : World) (hL : LaidAt w 0 stepsA) (hn9 : -9223372036854775808 ≤ n ∧ n ≤ 9223372036854775807) :
    Calls Tryd.prog 5 #[.int .i64 n] w fun e w' => e = .returned (.bool true) ∧ Below w.heap.size w w' := by
  have HL := Aside0.mk hL
  clear hL
  have HB0 := Aside0.mk (Below.refl w.heap.size w)
  obtain ⟨n1, n2⟩ := hn9
  have HN9 := Aside0.mk n1
  clear n1 n2
  rcases Int.lt_or_le 0 n with hp | hp
  · have hpD : decide (0 < n) = true := by simpa using hp
    have hpD2 : decide (n < 0) = false := by simp; omega
    cases hi : inR n with
    | true =>
      obtain ⟨s, q, r, hs, hq, hr, hg, q1, q2, hr4, hr5⟩ := gate_all n hi
      have HI := Aside0.mk hi
      have HS := Aside0.mk hs
      have HR := Aside0.mk hr
      have HG := Aside0.mk hg
      obtain ⟨i1, i2⟩ := inR_true hi
      clear hi hs hr hg
      obtain ⟨r1, r2⟩ := hr4 (by omega)
      have r1D : decide (0 ≤ r) = true := by simpa using r1
      have r2D : decide (r ≤ n) = true := by simpa using r2
      clear hr5
      go_enter Tryd.func5, Tryd.ntmps5
      go_wp2_with (fail)
      refine (Exp_pos_calls n _ hp).mono ?_
      rintro e w1 ⟨rfl, hw⟩
      subst hw
      go_wp2_with (fail)
      have HL_ := Aside0.mk (HL.out.below HB0.out)
      refine (Gate_calls n _ HL_.out HI.out r 0 HG.out).mono ?_
      rintro e w2 ⟨rfl, hb⟩
      have HB1 := Aside0.mk (below_step HB0.out hb)
      clear hb
      go_wp2_with (fail)
      have HL_ := Aside0.mk (HL.out.below HB1.out)
      refine (awake06_calls _ HL_.out).mono ?_
      rintro e w3 ⟨rfl, hb⟩
      have HB2 := Aside0.mk (below_step HB1.out hb)
      clear hb
      go_wp2_with (fail)
      go_ret
      exact ⟨rfl, HB2.out⟩
    | false =>
      have HI := Aside0.mk hi
      clear hi
      go_enter Tryd.func5, Tryd.ntmps5
      go_wp2_with (fail)
      refine (Exp_pos_calls n _ hp).mono ?_
      rintro e w1 ⟨rfl, hw⟩
      subst hw
      go_wp2_with (fail)
      refine (Gate_bad_calls n _ HI.out).mono ?_
      rintro e w2 ⟨rfl, hb⟩
      have HB1 := Aside0.mk (below_step HB0.out hb)
      clear hb
      go_wp2_with (fail)
      have HL_ := Aside0.mk (HL.out.below HB1.out)
      refine (awake06_calls _ HL_.out).mono ?_
      rintro e w3 ⟨rfl, hb⟩
      have HB2 := Aside0.mk (below_step HB1.out hb)
      clear hb
      go_wp2_with (fail)
      go_ret
      exact ⟨rfl, HB2.out⟩
  · have hpD : decide (0 < n) = false := by simp; omega
    have hxb := expV_bound n
    obtain ⟨x, hx⟩ : ∃ x, expV n = x := ⟨_, rfl⟩
    rw [hx] at hxb
    obtain ⟨x1, x2⟩ := hxb
    have x1D : decide (x < 0) = false := by simp; omega
    have x2D : decide (65536 < x) = false := by simp; omega
    have HX := Aside0.mk hx
    clear hx
    cases hi : inR n with
    | true =>
      obtain ⟨s, q, r, hs, hq, hr, hg, q1, q2, hr4, hr5⟩ := gate_all n hi
      have HI := Aside0.mk hi
      have HS := Aside0.mk hs
      have HR := Aside0.mk hr
      have HG := Aside0.mk hg
      obtain ⟨i1, i2⟩ := inR_true hi
      clear hi hs hr hg
      obtain ⟨r1, r2⟩ := hr5 hp
      clear hr4
      rcases Int.lt_or_eq_of_le hp with hs | hs
      · have hsD : decide (n < 0) = true := by simpa using hs
        have r1D : decide (n ≤ r) = true := by simpa using r1
        have r2D : decide (r ≤ 0) = true := by simpa using r2
        go_enter Tryd.func5, Tryd.ntmps5
        go_wp2_with (fail)
        refine (Exp_eq n _ HL.out hp HN9.out x HX.out).mono ?_
        rintro e w1 ⟨rfl, hw⟩
        subst hw
        go_wp2_with (fail)
        have HL_ := Aside0.mk (HL.out.below HB0.out)
        refine (Gate_calls n _ HL_.out HI.out r 0 HG.out).mono ?_
        rintro e w2 ⟨rfl, hb⟩
        have HB1 := Aside0.mk (below_step HB0.out hb)
        clear hb
        go_wp2_with (fail)
        have HL_ := Aside0.mk (HL.out.below HB1.out)
        refine (awake06_calls _ HL_.out).mono ?_
        rintro e w3 ⟨rfl, hb⟩
        have HB2 := Aside0.mk (below_step HB1.out hb)
        clear hb
        go_wp2_with (fail)
        go_ret
        exact ⟨rfl, HB2.out⟩
      · subst hs
        obtain rfl : r = 0 := by omega
        go_enter Tryd.func5, Tryd.ntmps5
        go_wp2_with (fail)
        refine (Exp_eq 0 _ HL.out hp HN9.out x HX.out).mono ?_
        rintro e w1 ⟨rfl, hw⟩
        subst hw
        go_wp2_with (fail)
        have HL_ := Aside0.mk (HL.out.below HB0.out)
        refine (Gate_calls 0 _ HL_.out HI.out 0 0 HG.out).mono ?_
        rintro e w2 ⟨rfl, hb⟩
        have HB1 := Aside0.mk (below_step HB0.out hb)
        clear hb
        go_wp2_with (fail)
        have HL_ := Aside0.mk (HL.out.below HB1.out)
        refine (awake06_calls _ HL_.out).mono ?_
        rintro e w3 ⟨rfl, hb⟩
        have HB2 := Aside0.mk (below_step HB1.out hb)
        clear hb
        go_wp2_with (fail)
        go_ret
        exact ⟨rfl, HB2.out⟩
    | false =>
      have HI := Aside0.mk hi
      clear hi
      go_enter Tryd.func5, Tryd.ntmps5
      go_wp2_with (fail)
      refine (Exp_eq n _ HL.out hp HN9.out x HX.out).mono ?_
      rintro e w1 ⟨rfl, hw⟩
      subst hw
      go_wp2_with (fail)
      refine (Gate_bad_calls n _ HI.out).mono ?_
      rintro e w2 ⟨rfl, hb⟩
      have HB1 := Aside0.mk (below_step HB0.out hb)
      clear hb
      go_wp2_with (fail)
      have HL_ := Aside0.mk (HL.out.below HB1.out)
      refine (awake06_calls _ HL_.out).mono ?_
      rintro e w3 ⟨rfl, hb⟩
      have HB2 := Aside0.mk (below_step HB1.out hb)
      clear hb
      go_wp2_with (fail)
      go_ret
      exact ⟨rfl, HB2.out⟩
end Go.Proofs.YtjlnjknmiojfoaaDoor.Fixed
