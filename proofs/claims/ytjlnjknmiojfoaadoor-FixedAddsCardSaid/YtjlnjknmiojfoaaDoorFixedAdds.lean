/- The walk of FixedAdds: whatever the numbers, it answers true. -/
import Derived.Test.YtjlnjknmiojfoaaDoorFixed5
namespace Go.Proofs.YtjlnjknmiojfoaaDoor.Fixed
open Go.RowKit Go.Proofs.YtjlnjknmiojfoaaDoorW.PrintWords Go.Proofs.YtjlnjknmiojfoaaDoorW.PrintLast Go.Proofs.YtjlnjknmiojfoaaDoorW.PrintMore Go.Proofs.YtjlnjknmiojfoaaDoor.K
set_option linter.unusedVariables false
set_option maxHeartbeats 16000000 in
set_option maxRecDepth 100000 in
theorem adds_calls (a b : Int) (w : World) (hL : LaidAt w 0 stepsA) (ha9 : -9223372036854775808 ≤ a ∧ a ≤ 9223372036854775807) (hb9 : -9223372036854775808 ≤ b ∧ b ≤ 9223372036854775807) :
    Calls Tryd.prog 6 #[.int .i64 a, .int .i64 b] w fun e w' => e = .returned (.bool true) ∧ Below w.heap.size w w' := by
  have HL := Aside0.mk hL
  clear hL
  have HB0 := Aside0.mk (Below.refl w.heap.size w)
  clear ha9 hb9
  cases hia : inR a with
  | false =>
    have HA := Aside0.mk hia
    have HNb : Aside0 (¬ (inR a = true ∧ inR b = true)) := ⟨fun h => by have := h.1; rw [hia] at this; cases this⟩
    have HCk : Aside0 ((if inR a = true then (0 : Int) else 10) = 10) := ⟨by rw [hia]; rfl⟩
    clear hia
    go_enter Tryd.func6, Tryd.ntmps6
    go_wp2_with (fail)
    refine (Add_calls a b _ 0 10 (by unfold addV; rw [if_neg HNb.out])).mono ?_
    rintro e w1 ⟨rfl, hb⟩
    have HB1 := Aside0.mk (below_step HB0.out hb)
    clear hb
    go_wp2_with (fail)
    refine (Mul_calls a b _ 0 10 (by unfold mulV; rw [if_neg HNb.out])).mono ?_
    rintro e w2 ⟨rfl, hb⟩
    have HB2 := Aside0.mk (below_step HB1.out hb)
    clear hb
    go_wp2_with (fail)
    refine (Is_calls a _ false HA.out).mono ?_
    rintro e w3 ⟨rfl, hw⟩
    subst hw
    go_wp2_with (fail)
    refine (Check_calls a _ 10 HCk.out).mono ?_
    rintro e w4 ⟨rfl, hb⟩
    have HB3 := Aside0.mk (below_step HB2.out hb)
    clear hb
    go_wp2_with (fail)
    refine (Check_calls a _ 10 HCk.out).mono ?_
    rintro e w5 ⟨rfl, hb⟩
    have HB4 := Aside0.mk (below_step HB3.out hb)
    clear hb
    go_wp2_with (fail)
    have HL_ := Aside0.mk (HL.out.below HB4.out)
    refine (awake06_calls _ HL_.out).mono ?_
    rintro e w6 ⟨rfl, hb⟩
    have HB5 := Aside0.mk (below_step HB4.out hb)
    clear hb
    go_wp2_with (fail)
    go_ret
    exact ⟨rfl, HB5.out⟩
  | true =>
    have HA := Aside0.mk hia
    have HCk : Aside0 ((if inR a = true then (0 : Int) else 10) = 0) := ⟨by rw [hia]; rfl⟩
    cases hib : inR b with
    | false =>
      have HB := Aside0.mk hib
      have HNb : Aside0 (¬ (inR a = true ∧ inR b = true)) := ⟨fun h => by have := h.2; rw [hib] at this; cases this⟩
      clear hia hib
      go_enter Tryd.func6, Tryd.ntmps6
      go_wp2_with (fail)
      refine (Add_calls a b _ 0 10 (by unfold addV; rw [if_neg HNb.out])).mono ?_
      rintro e w1 ⟨rfl, hb⟩
      have HB1 := Aside0.mk (below_step HB0.out hb)
      clear hb
      go_wp2_with (fail)
      refine (Mul_calls a b _ 0 10 (by unfold mulV; rw [if_neg HNb.out])).mono ?_
      rintro e w2 ⟨rfl, hb⟩
      have HB2 := Aside0.mk (below_step HB1.out hb)
      clear hb
      go_wp2_with (fail)
      refine (Is_calls a _ true HA.out).mono ?_
      rintro e w3 ⟨rfl, hw⟩
      subst hw
      go_wp2_with (fail)
      refine (Check_calls a _ 0 HCk.out).mono ?_
      rintro e w4 ⟨rfl, hb⟩
      have HB3 := Aside0.mk (below_step HB2.out hb)
      clear hb
      go_wp2_with (fail)
      refine (Is_calls b _ false HB.out).mono ?_
      rintro e w5 ⟨rfl, hw⟩
      subst hw
      go_wp2_with (fail)
      have HL_ := Aside0.mk (HL.out.below HB3.out)
      refine (awake06_calls _ HL_.out).mono ?_
      rintro e w6 ⟨rfl, hb⟩
      have HB4 := Aside0.mk (below_step HB3.out hb)
      clear hb
      go_wp2_with (fail)
      go_ret
      exact ⟨rfl, HB4.out⟩
    | true =>
      have HB := Aside0.mk hib
      obtain ⟨a1, a2⟩ := inR_true hia
      obtain ⟨b1, b2⟩ := inR_true hib
      obtain ⟨pb1, pb2⟩ := prod_bound hia hib
      obtain ⟨ab, hab⟩ : ∃ ab, a * b = ab := ⟨_, rfl⟩
      rw [hab] at pb1 pb2
      obtain ⟨⟨n, e⟩, hne⟩ : ∃ r, toldV (a + b) = r := ⟨_, rfl⟩
      obtain ⟨⟨m, f⟩, hmf⟩ : ∃ r, toldV (roundV ab) = r := ⟨_, rfl⟩
      have HAdd : Aside0 (addV a b = (n, e)) := ⟨by unfold addV; rw [if_pos ⟨hia, hib⟩]; exact hne⟩
      have HMul : Aside0 (mulV a b = (m, f)) := ⟨by unfold mulV; rw [if_pos ⟨hia, hib⟩, prodV_round, hab]; exact hmf⟩
      have HNE := Aside0.mk hne
      have HMF := Aside0.mk hmf
      obtain ⟨r, hr⟩ : ∃ r, roundV ab = r := ⟨_, rfl⟩
      have HR := Aside0.mk hr
      rw [hr] at HMF
      clear hia hib hne hmf hr
      go_enter Tryd.func6, Tryd.ntmps6
      go_wp2_with (fail)
      refine (Add_calls a b _ n e HAdd.out).mono ?_
      rintro e w1 ⟨rfl, hb⟩
      have HB1 := Aside0.mk (below_step HB0.out hb)
      clear hb
      go_wp2_with (fail)
      refine (Mul_calls a b _ m f HMul.out).mono ?_
      rintro e w2 ⟨rfl, hb⟩
      have HB2 := Aside0.mk (below_step HB1.out hb)
      clear hb
      go_wp2_with (fail)
      refine (Is_calls a _ true HA.out).mono ?_
      rintro e w3 ⟨rfl, hw⟩
      subst hw
      go_wp2_with (fail)
      refine (Check_calls a _ 0 HCk.out).mono ?_
      rintro e w4 ⟨rfl, hb⟩
      have HB3 := Aside0.mk (below_step HB2.out hb)
      clear hb
      go_wp2_with (fail)
      refine (Is_calls b _ true HB.out).mono ?_
      rintro e w5 ⟨rfl, hw⟩
      subst hw
      go_wp2_with (fail)
      refine (told06_calls n e (a + b) _ HNE.out).mono ?_
      rintro e w6 ⟨rfl, hw⟩
      subst hw
      go_wp2_with (fail)
      refine (Round_calls ab _ (by omega) (by omega) r HR.out).mono ?_
      rintro e w7 ⟨rfl, hw⟩
      subst hw
      go_wp2_with (fail)
      refine (told06_calls m f r _ HMF.out).mono ?_
      rintro e w8 ⟨rfl, hw⟩
      subst hw
      go_wp2_with (fail)
      have HL_ := Aside0.mk (HL.out.below HB3.out)
      refine (awake06_calls _ HL_.out).mono ?_
      rintro e w9 ⟨rfl, hb⟩
      have HB4 := Aside0.mk (below_step HB3.out hb)
      clear hb
      go_wp2_with (fail)
      go_ret
      exact ⟨rfl, HB4.out⟩
end Go.Proofs.YtjlnjknmiojfoaaDoor.Fixed
