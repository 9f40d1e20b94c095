/- The walk of FixedRoots: whatever the numbers, it answers true. -/
import Derived.Test.YtjlnjknmiojfoaaDoorFixed5
namespace Go.Proofs.YtjlnjknmiojfoaaDoor.Fixed
open Go.RowKit Go.Proofs.YtjlnjknmiojfoaaDoorW.PrintWords Go.Proofs.YtjlnjknmiojfoaaDoorW.PrintLast Go.Proofs.YtjlnjknmiojfoaaDoorW.PrintMore Go.Proofs.YtjlnjknmiojfoaaDoor.K
set_option linter.unusedVariables false
set_option maxHeartbeats 4000000 in
set_option maxRecDepth 100000 in
theorem roots_calls (n : Int) (w : World) (hL : LaidAt w 0 stepsA) (hn9 : -9223372036854775808 ≤ n ∧ n ≤ 9223372036854775807) :
    Calls Tryd.prog 3 #[.int .i64 n] w fun e w' => e = .returned (.bool true) ∧ Below w.heap.size w w' := by
  have HL := Aside0.mk hL
  clear hL
  have HB0 := Aside0.mk (Below.refl w.heap.size w)
  clear hn9
  by_cases hn : 0 ≤ n ∧ n ≤ 2147483647
  · obtain ⟨h0, h1⟩ := hn
    obtain ⟨r, hr⟩ := rootP_ex n h0 h1
    have HR := Aside0.mk hr
    obtain ⟨r0, r1, r2⟩ := hr
    have r3 : r ≤ 16777216 := by
      have := sq_lt (a := r) (b := 16777217) (by omega) (by omega) (by decide)
      omega
    have HI : Aside0 (inR n = true) := ⟨by unfold inR; simp; omega⟩
    have hnD : decide (n < 0) = false := by simp; omega
    obtain ⟨s, hs⟩ : ∃ s, r * r = s := ⟨_, rfl⟩
    obtain ⟨t, ht⟩ : ∃ t, (r + 1) * (r + 1) = t := ⟨_, rfl⟩
    have hsb := sq_bound (x := r) (b := 16777216) (by omega) (by omega) (by decide)
    have htb := sq_bound (x := r + 1) (b := 16777217) (by omega) (by omega) (by decide)
    rw [hs] at r1 hsb
    rw [ht] at r2 htb
    obtain ⟨s0, s1⟩ := hsb
    obtain ⟨t0, t1⟩ := htb
    have hsD : decide (s ≤ n * 65536) = true := by simpa using r1
    have htD : decide (n * 65536 < t) = true := by simpa using r2
    go_enter Tryd.func3, Tryd.ntmps3
    go_wp2_with (fail)
    refine (Root_calls n _ h0 h1 r HR.out).mono ?_
    rintro e w1 ⟨rfl, hb⟩
    have HB1 := Aside0.mk (below_step HB0.out hb)
    clear hb
    go_wp2_with (fail)
    refine (Is_calls n _ true HI.out).mono ?_
    rintro e w2 ⟨rfl, hw⟩
    subst hw
    go_wp2_with (fail)
    refine (rRoot_calls n _ h0 h1 r HR.out).mono ?_
    rintro e w3 ⟨rfl, hw⟩
    subst hw
    go_wp2_with (fail)
    have HL_ := Aside0.mk (HL.out.below HB1.out)
    refine (awake06_calls _ HL_.out).mono ?_
    rintro e w4 ⟨rfl, hb⟩
    have HB2 := Aside0.mk (below_step HB1.out hb)
    clear hb
    go_wp2_with (fail)
    go_ret
    exact ⟨rfl, HB2.out⟩
  · have HNb := Aside0.mk hn
    cases hi : inR n with
    | true =>
      have HI := Aside0.mk hi
      obtain ⟨i1, i2⟩ := inR_true hi
      have hnD : decide (n < 0) = true := by simp; omega
      clear hi hn
      go_enter Tryd.func3, Tryd.ntmps3
      go_wp2_with (fail)
      refine (Root_bad_calls n _ HNb.out).mono ?_
      rintro e w1 ⟨rfl, hb⟩
      have HB1 := Aside0.mk (below_step HB0.out hb)
      clear hb
      go_wp2_with (fail)
      refine (Is_calls n _ true HI.out).mono ?_
      rintro e w2 ⟨rfl, hw⟩
      subst hw
      go_wp2_with (fail)
      have HL_ := Aside0.mk (HL.out.below HB1.out)
      refine (awake06_calls _ HL_.out).mono ?_
      rintro e w3 ⟨rfl, hb⟩
      have HB2 := Aside0.mk (below_step HB1.out hb)
      clear hb
      go_wp2_with (fail)
      go_ret
      exact ⟨rfl, HB2.out⟩
    | false =>
      have HI := Aside0.mk hi
      clear hi hn
      go_enter Tryd.func3, Tryd.ntmps3
      go_wp2_with (fail)
      refine (Root_bad_calls n _ HNb.out).mono ?_
      rintro e w1 ⟨rfl, hb⟩
      have HB1 := Aside0.mk (below_step HB0.out hb)
      clear hb
      go_wp2_with (fail)
      refine (Is_calls n _ false HI.out).mono ?_
      rintro e w2 ⟨rfl, hw⟩
      subst hw
      go_wp2_with (fail)
      have HL_ := Aside0.mk (HL.out.below HB1.out)
      refine (awake06_calls _ HL_.out).mono ?_
      rintro e w3 ⟨rfl, hb⟩
      have HB2 := Aside0.mk (below_step HB1.out hb)
      clear hb
      go_wp2_with (fail)
      go_ret
      exact ⟨rfl, HB2.out⟩
end Go.Proofs.YtjlnjknmiojfoaaDoor.Fixed
