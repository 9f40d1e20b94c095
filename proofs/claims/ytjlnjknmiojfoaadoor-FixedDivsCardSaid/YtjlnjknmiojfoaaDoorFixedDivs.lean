/- The walk of FixedDivs: whatever the numbers, it answers true. -/
import Derived.Test.YtjlnjknmiojfoaaDoorFixed5
namespace Go.Proofs.YtjlnjknmiojfoaaDoor.Fixed
open Go.RowKit Go.Proofs.YtjlnjknmiojfoaaDoorW.PrintWords Go.Proofs.YtjlnjknmiojfoaaDoorW.PrintLast Go.Proofs.YtjlnjknmiojfoaaDoorW.PrintMore Go.Proofs.YtjlnjknmiojfoaaDoor.K
set_option linter.unusedVariables false
set_option maxHeartbeats 16000000 in
set_option maxRecDepth 100000 in
theorem divs_calls (a b : Int) (w : World) (hL : LaidAt w 0 stepsA) (ha9 : -9223372036854775808 ≤ a ∧ a ≤ 9223372036854775807) (hb9 : -9223372036854775808 ≤ b ∧ b ≤ 9223372036854775807) :
    Calls Tryd.prog 7 #[.int .i64 a, .int .i64 b] w fun e w' => e = .returned (.bool true) ∧ Below w.heap.size w w' := by
  have HL := Aside0.mk hL
  clear hL
  have HB0 := Aside0.mk (Below.refl w.heap.size w)
  clear ha9 hb9
  cases hia : inR a with
  | false =>
    have HA := Aside0.mk hia
    have HNb : Aside0 (¬ (inR a = true ∧ inR b = true)) := ⟨fun h => by have := h.1; rw [hia] at this; cases this⟩
    clear hia
    go_enter Tryd.func7, Tryd.ntmps7
    go_wp2_with (fail)
    refine (Div_calls a b _ 0 10 (by unfold divV; rw [if_neg HNb.out])).mono ?_
    rintro e w1 ⟨rfl, hb⟩
    have HB1 := Aside0.mk (below_step HB0.out hb)
    clear hb
    go_wp2_with (fail)
    refine (Is_calls a _ false HA.out).mono ?_
    rintro e w2 ⟨rfl, hw⟩
    subst hw
    go_wp2_with (fail)
    have HL_ := Aside0.mk (HL.out.below HB1.out)
    refine (awake06_calls _ HL_.out).mono ?_
    rintro e w3 ⟨rfl, hb⟩
    have HB2 := Aside0.mk (below_step HB1.out hb)
    clear hb
    go_wp2_with (fail)
    go_ret
    exact ⟨rfl, HB2.out⟩
  | true =>
    have HA := Aside0.mk hia
    cases hib : inR b with
    | false =>
      have HB := Aside0.mk hib
      have HNb : Aside0 (¬ (inR a = true ∧ inR b = true)) := ⟨fun h => by have := h.2; rw [hib] at this; cases this⟩
      clear hia hib
      go_enter Tryd.func7, Tryd.ntmps7
      go_wp2_with (fail)
      refine (Div_calls a b _ 0 10 (by unfold divV; rw [if_neg HNb.out])).mono ?_
      rintro e w1 ⟨rfl, hb⟩
      have HB1 := Aside0.mk (below_step HB0.out hb)
      clear hb
      go_wp2_with (fail)
      refine (Is_calls a _ true HA.out).mono ?_
      rintro e w2 ⟨rfl, hw⟩
      subst hw
      go_wp2_with (fail)
      refine (Is_calls b _ false HB.out).mono ?_
      rintro e w3 ⟨rfl, hw⟩
      subst hw
      go_wp2_with (fail)
      have HL_ := Aside0.mk (HL.out.below HB1.out)
      refine (awake06_calls _ HL_.out).mono ?_
      rintro e w4 ⟨rfl, hb⟩
      have HB2 := Aside0.mk (below_step HB1.out hb)
      clear hb
      go_wp2_with (fail)
      go_ret
      exact ⟨rfl, HB2.out⟩
    | true =>
      have HB := Aside0.mk hib
      by_cases hz : b = 0
      · subst hz
        have HD : Aside0 (divV a 0 = (0, 26)) := ⟨by unfold divV; rw [if_pos ⟨hia, hib⟩, if_pos rfl]⟩
        clear hia hib
        go_enter Tryd.func7, Tryd.ntmps7
        go_wp2_with (fail)
        refine (Div_calls a 0 _ 0 26 HD.out).mono ?_
        rintro e w1 ⟨rfl, hb⟩
        have HB1 := Aside0.mk (below_step HB0.out hb)
        clear hb
        go_wp2_with (fail)
        refine (Is_calls a _ true HA.out).mono ?_
        rintro e w2 ⟨rfl, hw⟩
        subst hw
        go_wp2_with (fail)
        refine (Is_calls 0 _ true HB.out).mono ?_
        rintro e w3 ⟨rfl, hw⟩
        subst hw
        go_wp2_with (fail)
        have HL_ := Aside0.mk (HL.out.below HB1.out)
        refine (awake06_calls _ HL_.out).mono ?_
        rintro e w4 ⟨rfl, hb⟩
        have HB2 := Aside0.mk (below_step HB1.out hb)
        clear hb
        go_wp2_with (fail)
        go_ret
        exact ⟨rfl, HB2.out⟩
      · obtain ⟨q, hq⟩ : ∃ q, Int.fdiv (a * 65536) b = q := ⟨_, rfl⟩
        obtain ⟨⟨n, e⟩, hne⟩ : ∃ r, toldV q = r := ⟨_, rfl⟩
        have HD : Aside0 (divV a b = (n, e)) := ⟨by unfold divV; rw [if_pos ⟨hia, hib⟩, if_neg hz, hq]; exact hne⟩
        have HNE := Aside0.mk hne
        have HQ := Aside0.mk hq
        have HZ := Aside0.mk hz
        have hbI : (b == 0) = false := by rw [beq_eq_false_iff_ne]; exact hz
        clear hia hib hne hq
        go_enter Tryd.func7, Tryd.ntmps7
        go_wp2_with (fail)
        refine (Div_calls a b _ n e HD.out).mono ?_
        rintro e w1 ⟨rfl, hb⟩
        have HB1 := Aside0.mk (below_step HB0.out hb)
        clear hb
        go_wp2_with (fail)
        refine (Is_calls a _ true HA.out).mono ?_
        rintro e w2 ⟨rfl, hw⟩
        subst hw
        go_wp2_with (fail)
        refine (Is_calls b _ true HB.out).mono ?_
        rintro e w3 ⟨rfl, hw⟩
        subst hw
        go_wp2_with (fail)
        refine (rDiv_calls a b _ HA.out HB.out HZ.out q HQ.out).mono ?_
        rintro e w4 ⟨rfl, hw⟩
        subst hw
        go_wp2_with (fail)
        refine (told06_calls n e q _ HNE.out).mono ?_
        rintro e w5 ⟨rfl, hw⟩
        subst hw
        go_wp2_with (fail)
        have HL_ := Aside0.mk (HL.out.below HB1.out)
        refine (awake06_calls _ HL_.out).mono ?_
        rintro e w6 ⟨rfl, hb⟩
        have HB2 := Aside0.mk (below_step HB1.out hb)
        clear hb
        go_wp2_with (fail)
        go_ret
        exact ⟨rfl, HB2.out⟩
end Go.Proofs.YtjlnjknmiojfoaaDoor.Fixed
