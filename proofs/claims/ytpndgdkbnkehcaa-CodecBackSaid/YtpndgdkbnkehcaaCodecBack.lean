/- The walk of CodecBack: whatever the pieces, the numbers and the bytes, it answers true. -/
import Derived.Test.YtpndgdkbnkehcaaBackPure
import Derived.Test.YtpndgdkbnkehcaaCutPure
import Derived.Test.YtpndgdkbnkehcaaCodecNumbers
import Derived.Test.YtpndgdkbnkehcaaLawBytes
import Derived.Test.YtpndgdkbnkehcaaLawInts
import Derived.Test.YtpndgdkbnkehcaaLawPieces
import Derived.Test.YtpndgdkbnkehcaaLawFew
import Derived.Test.YtpndgdkbnkehcaaFewBound
import Derived.Test.YtpndgdkbnkehcaaLaw02Awake
namespace Go.Proofs.Ytpndgdkbnkehcaa.Law
open Go.RowKit Go.Proofs.YtpndgdkbnkehcaaW.PrintWords Go.Proofs.YtpndgdkbnkehcaaW.PrintLast Go.Proofs.YtpndgdkbnkehcaaW.PrintMore Go.Proofs.Ytpndgdkbnkehcaa.K Go.Proofs.Ytpndgdkbnkehcaa.Codec Go.Proofs.Ytpndgdkbnkehcaa.Num
set_option linter.unusedVariables false
theorem i64_wf {xs : List Int} (h : ∀ n ∈ xs, (Lit.int .i64 n).wf = true) : ∀ x ∈ xs, I64 x := fun x hx => by
  have := h x hx
  simp only [Lit.wf, Bool.and_eq_true, decide_eq_true_eq] at this
  have h1 : IntKind.i64.min = -9223372036854775808 := by decide
  have h2 : IntKind.i64.max = 9223372036854775807 := by decide
  exact ⟨by omega, by omega⟩
set_option maxHeartbeats 8000000 in
set_option maxRecDepth 100000 in
theorem back_n (A : Option Addr) (n c : Nat) (l : List (List Int)) (Am : Option Addr) (nm cm : Nat) (m : List Int) (A' : Option Addr) (n' c' : Nat) (b : List Int) (w : World) (hx : Kd.C (Kd.slice 5 (Kd.int .u8)) w A n l) (hxb : ∀ p ∈ l, ∀ x ∈ p, 0 ≤ x ∧ x < 256) (hz : Kd.C (Kd.int .i64) w Am nm m) (hzw : ∀ x ∈ m, I64 x) (hy : Kd.C (Kd.int .u8) w A' n' b) (hc : n' ≤ c') (hw : ∀ x ∈ b, 0 ≤ x ∧ x < 256) :
    Calls Try.prog 7 #[.slice A n c, .slice Am nm cm, .slice A' n' c'] w fun e w' => e = .returned (.bool true) ∧ Below w.heap.size w w' := by
  have HX := Aside0.mk hx
  have HZ := Aside0.mk hz
  have HY := Aside0.mk hy
  have HCc := Aside0.mk hc
  have HW := Aside0.mk hw
  have HXb := Aside0.mk hxb
  have HZw := Aside0.mk hzw
  have HN := Aside0.mk hy.1
  have HNm := Aside0.mk hz.1
  have hm := hy.2.1
  have hmm := hz.2.1
  clear hx hz hy hc hw hxb hzw
  cases h1 : fewB l with
  | false =>
    have H1 := Aside0.mk h1
    clear h1
    have HB0 := Aside0.mk (Below.refl w.heap.size w)
    go_enter Try.func7, Try.ntmps7
    go_wp2_with (fail)
    refine (few_n _ _ _ l _ HX.out false H1.out).mono ?_
    rintro e w1 ⟨rfl, hd⟩
    have hb := hd.below
    have HB1 := Aside0.mk (below_step HB0.out hb)
    replace HX := Aside0.mk (Kd.C_below HX.out hb)
    replace HZ := Aside0.mk (Kd.C_below HZ.out hb)
    replace HY := Aside0.mk (Kd.C_below HY.out hb)
    clear hd hb
    go_wp2_with (fail)
    refine (awake02_calls _).mono ?_
    rintro e w2 ⟨rfl, hb⟩
    have HBf := Aside0.mk (below_step HB1.out hb)
    clear hb
    go_wp2_with (fail)
    go_ret
    exact ⟨rfl, HBf.out⟩
  | true =>
    have H1 := Aside0.mk h1
    clear h1
    by_cases h6 : nm ≤ 60
    case neg =>
      have h6I : ((nm : Int) > 60) = True := by simp; omega
      have h6D : decide (60 < nm) = true := by simp; omega
      have HB0 := Aside0.mk (Below.refl w.heap.size w)
      go_enter Try.func7, Try.ntmps7
      go_wp2_with (fail)
      refine (few_n _ _ _ l _ HX.out true H1.out).mono ?_
      rintro e w1 ⟨rfl, hd⟩
      have hb := hd.below
      have HB1 := Aside0.mk (below_step HB0.out hb)
      replace HX := Aside0.mk (Kd.C_below HX.out hb)
      replace HZ := Aside0.mk (Kd.C_below HZ.out hb)
      replace HY := Aside0.mk (Kd.C_below HY.out hb)
      clear hd hb
      go_wp2_with (fail)
      refine (awake02_calls _).mono ?_
      rintro e w2 ⟨rfl, hb⟩
      have HBf := Aside0.mk (below_step HB1.out hb)
      clear hb
      go_wp2_with (fail)
      go_ret
      exact ⟨rfl, HBf.out⟩
    have h6I : ((nm : Int) > 60) = False := by simp; omega
    have h6D : decide (60 < nm) = false := by simp; omega
    by_cases h7 : n' ≤ 700
    case neg =>
      have h7I : ((n' : Int) > 700) = True := by simp; omega
      have h7D : decide (700 < n') = true := by simp; omega
      have HB0 := Aside0.mk (Below.refl w.heap.size w)
      go_enter Try.func7, Try.ntmps7
      go_wp2_with (fail)
      refine (few_n _ _ _ l _ HX.out true H1.out).mono ?_
      rintro e w1 ⟨rfl, hd⟩
      have hb := hd.below
      have HB1 := Aside0.mk (below_step HB0.out hb)
      replace HX := Aside0.mk (Kd.C_below HX.out hb)
      replace HZ := Aside0.mk (Kd.C_below HZ.out hb)
      replace HY := Aside0.mk (Kd.C_below HY.out hb)
      clear hd hb
      go_wp2_with (fail)
      refine (awake02_calls _).mono ?_
      rintro e w2 ⟨rfl, hb⟩
      have HBf := Aside0.mk (below_step HB1.out hb)
      clear hb
      go_wp2_with (fail)
      go_ret
      exact ⟨rfl, HBf.out⟩
    have h7I : ((n' : Int) > 700) = False := by simp; omega
    have h7D : decide (700 < n') = false := by simp; omega
    have HL := Aside0.mk (few_bound H1.out)
    have HB0 := Aside0.mk (Below.refl w.heap.size w)
    go_enter Try.func7, Try.ntmps7
    go_wp2_with (fail)
    refine (few_n _ _ _ l _ HX.out true H1.out).mono ?_
    rintro e w1 ⟨rfl, hd⟩
    have hb := hd.below
    have HB1 := Aside0.mk (below_step HB0.out hb)
    replace HX := Aside0.mk (Kd.C_below HX.out hb)
    replace HZ := Aside0.mk (Kd.C_below HZ.out hb)
    replace HY := Aside0.mk (Kd.C_below HY.out hb)
    clear hd hb
    go_wp2_with (fail)
    refine (join_n _ _ _ l _ HX.out (by have := HL.out.2.1; omega)).mono ?_
    rintro e w2 ⟨v_, rfl, hv, hb⟩
    obtain ⟨A1, c1, rfl⟩ := Kd.R_slice hv
    have HB2 := Aside0.mk (below_step HB1.out hb)
    replace HX := Aside0.mk (Kd.C_below HX.out hb)
    replace HZ := Aside0.mk (Kd.C_below HZ.out hb)
    replace HY := Aside0.mk (Kd.C_below HY.out hb)
    have HV1 := Aside0.mk (Kd.R_reads' hv).2.2
    have HC1 := Aside0.mk (Kd.R_reads' hv).2.1
    clear hv hb
    go_wp2_with (fail)
    refine (split_n _ _ _ (joinL l) _ HV1.out HC1.out (joinL_bytes l HXb.out) (by have := HL.out.2.1; omega)).mono ?_
    intro e w3 hp
    simp only [SplitPost, split_join l HL.out.1] at hp
    obtain ⟨v3, rfl, hv, hb⟩ := hp
    obtain ⟨A3, c3, rfl⟩ := Kd.R_slice hv
    have HB3 := Aside0.mk (below_step HB2.out hb)
    replace HX := Aside0.mk (Kd.C_below HX.out hb)
    replace HZ := Aside0.mk (Kd.C_below HZ.out hb)
    replace HY := Aside0.mk (Kd.C_below HY.out hb)
    replace HV1 := Aside0.mk (Kd.C_below HV1.out hb)
    have HV3 := Aside0.mk (Kd.R_reads' hv).2.2
    clear hv hb
    go_wp2_with (fail)
    refine (numbers_n _ _ _ m _ HZ.out (by have := HNm.out; omega)).mono ?_
    rintro e w4 ⟨v_, rfl, hv, hb⟩
    obtain ⟨A4, c4, rfl⟩ := Kd.R_slice hv
    have HB4 := Aside0.mk (below_step HB3.out hb)
    replace HX := Aside0.mk (Kd.C_below HX.out hb)
    replace HZ := Aside0.mk (Kd.C_below HZ.out hb)
    replace HY := Aside0.mk (Kd.C_below HY.out hb)
    replace HV3 := Aside0.mk (Kd.C_below HV3.out hb)
    have HV4 := Aside0.mk (Kd.R_reads' hv).2.2
    have HC4 := Aside0.mk (Kd.R_reads' hv).2.1
    clear hv hb
    go_wp2_with (fail)
    refine (cints_n _ _ _ (numsL m) _ HV4.out HC4.out (numsL_bytes m) (by have := numsL_len m; have := HNm.out; omega)).mono ?_
    intro e w5 hp
    have hl8 : (numsL m).length % 8 = 0 := by rw [numsL_len]; omega
    simp only [IntsPost, hl8, ints_nums m HZw.out] at hp
    clear hl8
    obtain ⟨v5, rfl, hv, hb⟩ := hp
    obtain ⟨A5, c5, rfl⟩ := Kd.R_slice hv
    have HB5 := Aside0.mk (below_step HB4.out hb)
    replace HX := Aside0.mk (Kd.C_below HX.out hb)
    replace HZ := Aside0.mk (Kd.C_below HZ.out hb)
    replace HY := Aside0.mk (Kd.C_below HY.out hb)
    replace HV3 := Aside0.mk (Kd.C_below HV3.out hb)
    replace HV4 := Aside0.mk (Kd.C_below HV4.out hb)
    have HV5 := Aside0.mk (Kd.R_reads' hv).2.2
    clear hv hb
    go_wp2_with (fail)
    refine (pieces_n _ _ _ l _ _ _ l _ HV3.out HX.out true (by simp)).mono ?_
    rintro e w6 ⟨rfl, hd⟩
    have hb := hd.below
    have HB6 := Aside0.mk (below_step HB5.out hb)
    replace HX := Aside0.mk (Kd.C_below HX.out hb)
    replace HZ := Aside0.mk (Kd.C_below HZ.out hb)
    replace HY := Aside0.mk (Kd.C_below HY.out hb)
    replace HV3 := Aside0.mk (Kd.C_below HV3.out hb)
    replace HV5 := Aside0.mk (Kd.C_below HV5.out hb)
    clear hd hb
    go_wp2_with (fail)
    refine (ints_n _ _ _ m _ _ _ m _ HV5.out HZ.out true (by simp)).mono ?_
    rintro e w7 ⟨rfl, hd⟩
    have hb := hd.below
    have HB7 := Aside0.mk (below_step HB6.out hb)
    replace HX := Aside0.mk (Kd.C_below HX.out hb)
    replace HZ := Aside0.mk (Kd.C_below HZ.out hb)
    replace HY := Aside0.mk (Kd.C_below HY.out hb)
    replace HV3 := Aside0.mk (Kd.C_below HV3.out hb)
    replace HV5 := Aside0.mk (Kd.C_below HV5.out hb)
    clear hd hb
    go_wp2_with (fail)
    refine (split_n _ _ _ b _ HY.out HCc.out HW.out (by have := HN.out; omega)).mono ?_
    intro e w8 hp
    cases hs : splitL b with
    | none =>
      simp only [SplitPost, hs] at hp
      obtain ⟨rfl, hb⟩ := hp
      clear hs
      have HB8 := Aside0.mk (below_step HB7.out hb)
      replace HX := Aside0.mk (Kd.C_below HX.out hb)
      replace HZ := Aside0.mk (Kd.C_below HZ.out hb)
      replace HY := Aside0.mk (Kd.C_below HY.out hb)
      clear hb
      have HI8 := Aside0.mk (Nat.mod_add_div b.length 8)
      go_wp2_with (fail)
      refine (cints_n _ _ _ b _ HY.out HCc.out HW.out (by omega)).mono ?_
      intro e w9 hp
      cases hs8 : b.length % 8 with
      | zero =>
        simp only [IntsPost, hs8] at hp
        obtain ⟨vi, rfl, hv, hb⟩ := hp
        have HS8 := Aside0.mk hs8
        clear hs8
        obtain ⟨Ai, ci, rfl⟩ := Kd.R_slice hv
        have HB9 := Aside0.mk (below_step HB8.out hb)
        replace HX := Aside0.mk (Kd.C_below HX.out hb)
        replace HZ := Aside0.mk (Kd.C_below HZ.out hb)
        replace HY := Aside0.mk (Kd.C_below HY.out hb)
        have HVi := Aside0.mk (Kd.R_reads' hv).2.2
        have hil : (intsV b).length ≤ 100 := by
          have := HN.out
          rw [intsV, List.length_map, List.length_range]
          omega
        clear hv hb
        go_wp2_with (fail)
        refine (numbers_n _ _ _ (intsV b) _ HVi.out (by omega)).mono ?_
        rintro e w10 ⟨v_, rfl, hv, hb⟩
        obtain ⟨Aj, cj, rfl⟩ := Kd.R_slice hv
        have HB10 := Aside0.mk (below_step HB9.out hb)
        replace HX := Aside0.mk (Kd.C_below HX.out hb)
        replace HZ := Aside0.mk (Kd.C_below HZ.out hb)
        replace HY := Aside0.mk (Kd.C_below HY.out hb)
        replace HVi := Aside0.mk (Kd.C_below HVi.out hb)
        have HVj := Aside0.mk (Kd.R_reads' hv).2.2
        have HCj := Aside0.mk (Kd.R_reads' hv).2.1
        clear hv hb
        go_wp2_with (fail)
        refine (bytes_n _ _ _ (numsL (intsV b)) _ _ _ b _ HVj.out HY.out true (by rw [nums_ints (b.length / 8) b (by have := HS8.out; have := HI8.out; omega) HW.out]; simp)).mono ?_
        rintro e w11 ⟨rfl, hd⟩
        have hb := hd.below
        have HB11 := Aside0.mk (below_step HB10.out hb)
        replace HX := Aside0.mk (Kd.C_below HX.out hb)
        replace HZ := Aside0.mk (Kd.C_below HZ.out hb)
        replace HY := Aside0.mk (Kd.C_below HY.out hb)
        replace HVi := Aside0.mk (Kd.C_below HVi.out hb)
        replace HVj := Aside0.mk (Kd.C_below HVj.out hb)
        clear hd hb
        go_wp2_with (fail)
        refine (awake02_calls _).mono ?_
        rintro e w12 ⟨rfl, hb⟩
        have HBf := Aside0.mk (below_step HB11.out hb)
        clear hb
        go_wp2_with (fail)
        go_ret
        exact ⟨rfl, HBf.out⟩
      | succ k8 =>
        simp only [IntsPost, hs8] at hp
        obtain ⟨rfl, hb⟩ := hp
        clear hs8
        have HB9 := Aside0.mk (below_step HB8.out hb)
        replace HX := Aside0.mk (Kd.C_below HX.out hb)
        replace HZ := Aside0.mk (Kd.C_below HZ.out hb)
        replace HY := Aside0.mk (Kd.C_below HY.out hb)
        clear hb
        go_wp2_with (fail)
        refine (awake02_calls _).mono ?_
        rintro e w10 ⟨rfl, hb⟩
        have HBf := Aside0.mk (below_step HB9.out hb)
        clear hb
        go_wp2_with (fail)
        go_ret
        exact ⟨rfl, HBf.out⟩
    | some ps =>
      simp only [SplitPost, hs] at hp
      obtain ⟨v8, rfl, hv, hb⟩ := hp
      have HS := Aside0.mk (join_split _ b ps (Nat.le_refl _) HW.out hs)
      clear hs
      obtain ⟨A8, c8, rfl⟩ := Kd.R_slice hv
      have HB8 := Aside0.mk (below_step HB7.out hb)
      replace HX := Aside0.mk (Kd.C_below HX.out hb)
      replace HZ := Aside0.mk (Kd.C_below HZ.out hb)
      replace HY := Aside0.mk (Kd.C_below HY.out hb)
      have HV8 := Aside0.mk (Kd.R_reads' hv).2.2
      clear hv hb
      go_wp2_with (fail)
      refine (join_n _ _ _ ps _ HV8.out (by rw [HS.out]; have := HN.out; omega)).mono ?_
      rintro e w9 ⟨v_, rfl, hv, hb⟩
      obtain ⟨A9, c9, rfl⟩ := Kd.R_slice hv
      have HB9 := Aside0.mk (below_step HB8.out hb)
      replace HX := Aside0.mk (Kd.C_below HX.out hb)
      replace HZ := Aside0.mk (Kd.C_below HZ.out hb)
      replace HY := Aside0.mk (Kd.C_below HY.out hb)
      replace HV8 := Aside0.mk (Kd.C_below HV8.out hb)
      have HV9 := Aside0.mk (Kd.R_reads' hv).2.2
      have HC9 := Aside0.mk (Kd.R_reads' hv).2.1
      clear hv hb
      go_wp2_with (fail)
      refine (bytes_n _ _ _ (joinL ps) _ _ _ b _ HV9.out HY.out true (by rw [HS.out]; simp)).mono ?_
      rintro e w10 ⟨rfl, hd⟩
      have hb := hd.below
      have HB10 := Aside0.mk (below_step HB9.out hb)
      replace HX := Aside0.mk (Kd.C_below HX.out hb)
      replace HZ := Aside0.mk (Kd.C_below HZ.out hb)
      replace HY := Aside0.mk (Kd.C_below HY.out hb)
      replace HV8 := Aside0.mk (Kd.C_below HV8.out hb)
      replace HV9 := Aside0.mk (Kd.C_below HV9.out hb)
      clear hd hb
      have HI8 := Aside0.mk (Nat.mod_add_div b.length 8)
      go_wp2_with (fail)
      refine (cints_n _ _ _ b _ HY.out HCc.out HW.out (by omega)).mono ?_
      intro e w11 hp
      cases hs8 : b.length % 8 with
      | zero =>
        simp only [IntsPost, hs8] at hp
        obtain ⟨vi, rfl, hv, hb⟩ := hp
        have HS8 := Aside0.mk hs8
        clear hs8
        obtain ⟨Ai, ci, rfl⟩ := Kd.R_slice hv
        have HB11 := Aside0.mk (below_step HB10.out hb)
        replace HX := Aside0.mk (Kd.C_below HX.out hb)
        replace HZ := Aside0.mk (Kd.C_below HZ.out hb)
        replace HY := Aside0.mk (Kd.C_below HY.out hb)
        replace HV8 := Aside0.mk (Kd.C_below HV8.out hb)
        replace HV9 := Aside0.mk (Kd.C_below HV9.out hb)
        have HVi := Aside0.mk (Kd.R_reads' hv).2.2
        have hil : (intsV b).length ≤ 100 := by
          have := HN.out
          rw [intsV, List.length_map, List.length_range]
          omega
        clear hv hb
        go_wp2_with (fail)
        refine (numbers_n _ _ _ (intsV b) _ HVi.out (by omega)).mono ?_
        rintro e w12 ⟨v_, rfl, hv, hb⟩
        obtain ⟨Aj, cj, rfl⟩ := Kd.R_slice hv
        have HB12 := Aside0.mk (below_step HB11.out hb)
        replace HX := Aside0.mk (Kd.C_below HX.out hb)
        replace HZ := Aside0.mk (Kd.C_below HZ.out hb)
        replace HY := Aside0.mk (Kd.C_below HY.out hb)
        replace HV8 := Aside0.mk (Kd.C_below HV8.out hb)
        replace HV9 := Aside0.mk (Kd.C_below HV9.out hb)
        replace HVi := Aside0.mk (Kd.C_below HVi.out hb)
        have HVj := Aside0.mk (Kd.R_reads' hv).2.2
        have HCj := Aside0.mk (Kd.R_reads' hv).2.1
        clear hv hb
        go_wp2_with (fail)
        refine (bytes_n _ _ _ (numsL (intsV b)) _ _ _ b _ HVj.out HY.out true (by rw [nums_ints (b.length / 8) b (by have := HS8.out; have := HI8.out; omega) HW.out]; simp)).mono ?_
        rintro e w13 ⟨rfl, hd⟩
        have hb := hd.below
        have HB13 := Aside0.mk (below_step HB12.out hb)
        replace HX := Aside0.mk (Kd.C_below HX.out hb)
        replace HZ := Aside0.mk (Kd.C_below HZ.out hb)
        replace HY := Aside0.mk (Kd.C_below HY.out hb)
        replace HV8 := Aside0.mk (Kd.C_below HV8.out hb)
        replace HV9 := Aside0.mk (Kd.C_below HV9.out hb)
        replace HVi := Aside0.mk (Kd.C_below HVi.out hb)
        replace HVj := Aside0.mk (Kd.C_below HVj.out hb)
        clear hd hb
        go_wp2_with (fail)
        refine (awake02_calls _).mono ?_
        rintro e w14 ⟨rfl, hb⟩
        have HBf := Aside0.mk (below_step HB13.out hb)
        clear hb
        go_wp2_with (fail)
        go_ret
        exact ⟨rfl, HBf.out⟩
      | succ k8 =>
        simp only [IntsPost, hs8] at hp
        obtain ⟨rfl, hb⟩ := hp
        clear hs8
        have HB11 := Aside0.mk (below_step HB10.out hb)
        replace HX := Aside0.mk (Kd.C_below HX.out hb)
        replace HZ := Aside0.mk (Kd.C_below HZ.out hb)
        replace HY := Aside0.mk (Kd.C_below HY.out hb)
        replace HV8 := Aside0.mk (Kd.C_below HV8.out hb)
        replace HV9 := Aside0.mk (Kd.C_below HV9.out hb)
        clear hb
        go_wp2_with (fail)
        refine (awake02_calls _).mono ?_
        rintro e w12 ⟨rfl, hb⟩
        have HBf := Aside0.mk (below_step HB11.out hb)
        clear hb
        go_wp2_with (fail)
        go_ret
        exact ⟨rfl, HBf.out⟩
end Go.Proofs.Ytpndgdkbnkehcaa.Law
