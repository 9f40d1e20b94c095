/- The walk of CodecJoins: whatever the pieces and the bytes, it answers true. -/
import Derived.Test.YtpndgdkbnkehcaaDbg
import Derived.Test.YtpndgdkbnkehcaaCodecPure
import Derived.Test.YtpndgdkbnkehcaaLawFew
import Derived.Test.YtpndgdkbnkehcaaLaw02Awake
import Derived.Test.YtpndgdkbnkehcaaRefJoin
import Derived.Test.YtpndgdkbnkehcaaRefSplit
import Derived.Test.YtpndgdkbnkehcaaFewBound
namespace Go.Proofs.Ytpndgdkbnkehcaa.Law
open Go.RowKit Go.Proofs.YtpndgdkbnkehcaaW.PrintWords Go.Proofs.YtpndgdkbnkehcaaW.PrintLast Go.Proofs.YtpndgdkbnkehcaaW.PrintMore Go.Proofs.Ytpndgdkbnkehcaa.K Go.Proofs.Ytpndgdkbnkehcaa.Codec Go.Proofs.Ytpndgdkbnkehcaa.Ref
set_option linter.unusedVariables false
set_option maxHeartbeats 4000000 in
set_option maxRecDepth 100000 in
theorem joins_n (A : Option Addr) (n c : Nat) (l : List (List Int)) (A' : Option Addr) (n' c' : Nat) (b : List Int) (w : World) (hx : Kd.C (Kd.slice 5 (Kd.int .u8)) w A n l) (hy : Kd.C (Kd.int .u8) w A' n' b) (hc : n' ≤ c') (hw : ∀ x ∈ b, 0 ≤ x ∧ x < 256) :
    Calls Try.prog 4 #[.slice A n c, .slice A' n' c'] w fun e w' => e = .returned (.bool true) ∧ Below w.heap.size w w' := by
  have HX := Aside0.mk hx
  have HY := Aside0.mk hy
  have HCc := Aside0.mk hc
  have HW := Aside0.mk hw
  have HN := Aside0.mk hy.1
  have hm := hy.2.1
  clear hx hy hc hw
  cases h1 : fewB l with
  | false =>
    have H1 := Aside0.mk h1
    clear h1
    have HB0 := Aside0.mk (Below.refl w.heap.size w)
    go_enter Try.func4, Try.ntmps4
    go_wp2_with (fail)
    refine (few_n _ _ _ l _ HX.out false H1.out).mono ?_
    rintro e w1 ⟨rfl, hd⟩
    have hb := hd.below
    have HB1 := Aside0.mk (below_step HB0.out hb)
    replace HX := Aside0.mk (Kd.C_below HX.out hb)
    replace HY := Aside0.mk (Kd.C_below HY.out hb)
    clear hd hb
    go_wp2_with (fail)
    refine (awake02_calls _).mono ?_
    rintro e w2 ⟨rfl, hb⟩
    have HBf := Aside0.mk (below_step HB1.out hb)
    clear hb
    go_wp2_with (fail)
    go_ret
    exact ⟨rfl, HBf.out⟩
  | true =>
    have H1 := Aside0.mk h1
    clear h1
    by_cases h7 : n' ≤ 700
    · have h7I : ((n' : Int) > 700) = False := by simp; omega
      have h7D : decide (700 < n') = false := by simp; omega
      have HL := Aside0.mk (few_bound H1.out)
      have HB0 := Aside0.mk (Below.refl w.heap.size w)
      go_enter Try.func4, Try.ntmps4
      go_wp2_with (fail)
      refine (few_n _ _ _ l _ HX.out true H1.out).mono ?_
      rintro e w1 ⟨rfl, hd⟩
      have hb := hd.below
      have HB1 := Aside0.mk (below_step HB0.out hb)
      replace HX := Aside0.mk (Kd.C_below HX.out hb)
      replace HY := Aside0.mk (Kd.C_below HY.out hb)
      clear hd hb
      go_wp2_with (fail)
      refine (join_n _ _ _ l _ HX.out (by have := HL.out.2.1; omega)).mono ?_
      rintro e w2 ⟨v_, rfl, hv, hb⟩
      obtain ⟨A1, c1, rfl⟩ := Kd.R_slice hv
      have HB2 := Aside0.mk (below_step HB1.out hb)
      replace HX := Aside0.mk (Kd.C_below HX.out hb)
      replace HY := Aside0.mk (Kd.C_below HY.out hb)
      have HV1 := Aside0.mk (Kd.R_reads' hv).2.2
      have HC1 := Aside0.mk (Kd.R_reads' hv).2.1
      clear hv hb
      go_wp2_with (fail)
      refine (rjoin_n _ _ _ l _ HX.out (by have := HL.out.2.1; omega)).mono ?_
      rintro e w3 ⟨v_, rfl, hv, hb⟩
      obtain ⟨A2, c2, rfl⟩ := Kd.R_slice hv
      have HB3 := Aside0.mk (below_step HB2.out hb)
      replace HX := Aside0.mk (Kd.C_below HX.out hb)
      replace HY := Aside0.mk (Kd.C_below HY.out hb)
      replace HV1 := Aside0.mk (Kd.C_below HV1.out hb)
      have HV2 := Aside0.mk (Kd.R_reads' hv).2.2
      have HC2 := Aside0.mk (Kd.R_reads' hv).2.1
      clear hv hb
      go_wp2_with (fail)
      refine (bytes_n _ _ _ (joinL l) _ _ _ (joinL l) _ HV1.out HV2.out true (by simp)).mono ?_
      rintro e w4 ⟨rfl, hd⟩
      have hb := hd.below
      have HB4 := Aside0.mk (below_step HB3.out hb)
      replace HX := Aside0.mk (Kd.C_below HX.out hb)
      replace HY := Aside0.mk (Kd.C_below HY.out hb)
      replace HV1 := Aside0.mk (Kd.C_below HV1.out hb)
      replace HV2 := Aside0.mk (Kd.C_below HV2.out hb)
      clear hd hb
      go_wp2_with (fail)
      refine (split_n _ _ _ b _ HY.out HCc.out HW.out (by have := HN.out; omega)).mono ?_
      intro e w5 hp
      cases hs : splitL b with
      | none =>
        simp only [SplitPost, hs] at hp
        obtain ⟨rfl, hb⟩ := hp
        have HS := Aside0.mk hs
        clear hs
        have HB5 := Aside0.mk (below_step HB4.out hb)
        replace HX := Aside0.mk (Kd.C_below HX.out hb)
        replace HY := Aside0.mk (Kd.C_below HY.out hb)
        replace HV1 := Aside0.mk (Kd.C_below HV1.out hb)
        replace HV2 := Aside0.mk (Kd.C_below HV2.out hb)
        clear hb
        go_wp2_with (fail)
        refine (rsplit_n _ _ _ b _ HY.out HCc.out HW.out (by have := HN.out; omega)).mono ?_
        intro e w6 hp
        simp only [RSplitPost, HS.out] at hp
        obtain ⟨rfl, hb⟩ := hp
        have HB6 := Aside0.mk (below_step HB5.out hb)
        replace HX := Aside0.mk (Kd.C_below HX.out hb)
        replace HY := Aside0.mk (Kd.C_below HY.out hb)
        replace HV1 := Aside0.mk (Kd.C_below HV1.out hb)
        replace HV2 := Aside0.mk (Kd.C_below HV2.out hb)
        clear hb
        go_wp2_with (fail)
        refine (awake02_calls _).mono ?_
        rintro e w7 ⟨rfl, hb⟩
        have HBf := Aside0.mk (below_step HB6.out hb)
        clear hb
        go_wp2_with (fail)
        go_ret
        exact ⟨rfl, HBf.out⟩
      | some ps =>
        simp only [SplitPost, hs] at hp
        obtain ⟨v5, rfl, hv, hb⟩ := hp
        have HS := Aside0.mk hs
        clear hs
        obtain ⟨A5, c5, rfl⟩ := Kd.R_slice hv
        have HB5 := Aside0.mk (below_step HB4.out hb)
        replace HX := Aside0.mk (Kd.C_below HX.out hb)
        replace HY := Aside0.mk (Kd.C_below HY.out hb)
        replace HV1 := Aside0.mk (Kd.C_below HV1.out hb)
        replace HV2 := Aside0.mk (Kd.C_below HV2.out hb)
        have HV5 := Aside0.mk (Kd.R_reads' hv).2.2
        clear hv hb
        go_wp2_with (fail)
        refine (rsplit_n _ _ _ b _ HY.out HCc.out HW.out (by have := HN.out; omega)).mono ?_
        intro e w6 hp
        simp only [RSplitPost, HS.out] at hp
        obtain ⟨A6, c6, rfl, hv, hb⟩ := hp
        have HB6 := Aside0.mk (below_step HB5.out hb)
        replace HX := Aside0.mk (Kd.C_below HX.out hb)
        replace HY := Aside0.mk (Kd.C_below HY.out hb)
        replace HV1 := Aside0.mk (Kd.C_below HV1.out hb)
        replace HV2 := Aside0.mk (Kd.C_below HV2.out hb)
        replace HV5 := Aside0.mk (Kd.C_below HV5.out hb)
        have HV6 := Aside0.mk hv
        clear hv hb
        go_wp2_with (fail)
        refine (pieces_n _ _ _ ps _ _ _ ps _ HV5.out HV6.out true (by simp)).mono ?_
        rintro e w7 ⟨rfl, hd⟩
        have hb := hd.below
        have HB7 := Aside0.mk (below_step HB6.out hb)
        replace HX := Aside0.mk (Kd.C_below HX.out hb)
        replace HY := Aside0.mk (Kd.C_below HY.out hb)
        replace HV1 := Aside0.mk (Kd.C_below HV1.out hb)
        replace HV2 := Aside0.mk (Kd.C_below HV2.out hb)
        replace HV5 := Aside0.mk (Kd.C_below HV5.out hb)
        replace HV6 := Aside0.mk (Kd.C_below HV6.out hb)
        clear hd hb
        go_wp2_with (fail)
        refine (awake02_calls _).mono ?_
        rintro e w8 ⟨rfl, hb⟩
        have HBf := Aside0.mk (below_step HB7.out hb)
        clear hb
        go_wp2_with (fail)
        go_ret
        exact ⟨rfl, HBf.out⟩
    · have h7I : ((n' : Int) > 700) = True := by simp; omega
      have h7D : decide (700 < n') = true := by simp; omega
      have HB0 := Aside0.mk (Below.refl w.heap.size w)
      go_enter Try.func4, Try.ntmps4
      go_wp2_with (fail)
      refine (few_n _ _ _ l _ HX.out true H1.out).mono ?_
      rintro e w1 ⟨rfl, hd⟩
      have hb := hd.below
      have HB1 := Aside0.mk (below_step HB0.out hb)
      replace HX := Aside0.mk (Kd.C_below HX.out hb)
      replace HY := Aside0.mk (Kd.C_below HY.out hb)
      clear hd hb
      go_wp2_with (fail)
      refine (awake02_calls _).mono ?_
      rintro e w2 ⟨rfl, hb⟩
      have HBf := Aside0.mk (below_step HB1.out hb)
      clear hb
      go_wp2_with (fail)
      go_ret
      exact ⟨rfl, HBf.out⟩
end Go.Proofs.Ytpndgdkbnkehcaa.Law
