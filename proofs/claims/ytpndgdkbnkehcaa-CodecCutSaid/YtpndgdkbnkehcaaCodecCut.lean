/- The walk of CodecCut: whatever the pieces, and where their bytes are cut, it answers true. -/
import Derived.Test.YtpndgdkbnkehcaaDbg
import Derived.Test.YtpndgdkbnkehcaaCutPure
import Derived.Test.YtpndgdkbnkehcaaLaw02Awake
import Derived.Test.YtpndgdkbnkehcaaFewBound
namespace Go.Proofs.Ytpndgdkbnkehcaa.Law
open Go.RowKit Go.Proofs.YtpndgdkbnkehcaaW.PrintWords Go.Proofs.YtpndgdkbnkehcaaW.PrintLast Go.Proofs.YtpndgdkbnkehcaaW.PrintMore Go.Proofs.Ytpndgdkbnkehcaa.K Go.Proofs.Ytpndgdkbnkehcaa.Codec
set_option linter.unusedVariables false
set_option maxHeartbeats 4000000 in
set_option maxRecDepth 100000 in
theorem cut_n (A : Option Addr) (n c : Nat) (l : List (List Int)) (at_ : Int) (w : World) (hx : Kd.C (Kd.slice 5 (Kd.int .u8)) w A n l) (hc : n ≤ c) (hw : ∀ x ∈ l, ∀ n ∈ x, 0 ≤ n ∧ n < 256) (hwf : -9223372036854775808 ≤ at_ ∧ at_ ≤ 9223372036854775807) :
    Calls Try.prog 5 #[.slice A n c, .int .i64 at_] w fun e w' => e = .returned (.bool true) ∧ Below w.heap.size w w' := by
  have HX := Aside0.mk hx
  have HCc := Aside0.mk hc
  have HW := Aside0.mk hw
  have HN := Aside0.mk hx.1
  have hm := hx.2.1
  clear hx hc hw
  cases h1 : fewB l with
  | false =>
    have H1 := Aside0.mk h1
    clear h1
    have HB0 := Aside0.mk (Below.refl w.heap.size w)
    go_enter Try.func5, Try.ntmps5
    go_wp2_with (fail)
    refine (few_n _ _ _ l _ HX.out false H1.out).mono ?_
    rintro e w1 ⟨rfl, hd⟩
    have hb := hd.below
    have HB1 := Aside0.mk (below_step HB0.out hb)
    replace HX := Aside0.mk (Kd.C_below HX.out hb)
    clear hd hb
    go_wp2_with (fail)
    refine (awake02_calls _).mono ?_
    rintro e w2 ⟨rfl, hb⟩
    have HBf := Aside0.mk (below_step HB1.out hb)
    clear hb
    go_wp2_with (fail)
    go_ret
    exact ⟨rfl, HBf.out⟩
  | true =>
    have H1 := Aside0.mk h1
    clear h1
    have HL := Aside0.mk (few_bound H1.out)
    by_cases ha : at_ < 0
    · have haD : decide (at_ < 0) = true := by simpa using ha
      have HB0 := Aside0.mk (Below.refl w.heap.size w)
      go_enter Try.func5, Try.ntmps5
      go_wp2_with (fail)
      refine (few_n _ _ _ l _ HX.out true H1.out).mono ?_
      rintro e w1 ⟨rfl, hd⟩
      have hb := hd.below
      have HB1 := Aside0.mk (below_step HB0.out hb)
      replace HX := Aside0.mk (Kd.C_below HX.out hb)
      clear hd hb
      go_wp2_with (fail)
      refine (join_n _ _ _ l _ HX.out (by have := HL.out.2.1; omega)).mono ?_
      rintro e w2 ⟨v_, rfl, hv, hb⟩
      obtain ⟨A1, c1, rfl⟩ := Kd.R_slice hv
      have HB2 := Aside0.mk (below_step HB1.out hb)
      replace HX := Aside0.mk (Kd.C_below HX.out hb)
      have HV1 := Aside0.mk (Kd.R_reads' hv).2.2
      have HC1 := Aside0.mk (Kd.R_reads' hv).2.1
      clear hv hb
      go_wp2_with (fail)
      refine (awake02_calls _).mono ?_
      rintro e w3 ⟨rfl, hb⟩
      have HBf := Aside0.mk (below_step HB2.out hb)
      clear hb
      go_wp2_with (fail)
      go_ret
      exact ⟨rfl, HBf.out⟩
    · have haD : decide (at_ < 0) = false := by simpa using ha
      obtain ⟨k, rfl⟩ := Int.eq_ofNat_of_zero_le (show 0 ≤ at_ by omega)
      clear ha
      by_cases hb : (joinL l).length < k
      · have hbD : decide ((joinL l).length < k) = true := by simpa using hb
        have hbI : ((joinL l).length : Int) < (k : Int) := by omega
        have HB0 := Aside0.mk (Below.refl w.heap.size w)
        go_enter Try.func5, Try.ntmps5
        go_wp2_with (fail)
        refine (few_n _ _ _ l _ HX.out true H1.out).mono ?_
        rintro e w1 ⟨rfl, hd⟩
        have hb := hd.below
        have HB1 := Aside0.mk (below_step HB0.out hb)
        replace HX := Aside0.mk (Kd.C_below HX.out hb)
        clear hd hb
        go_wp2_with (fail)
        refine (join_n _ _ _ l _ HX.out (by have := HL.out.2.1; omega)).mono ?_
        rintro e w2 ⟨v_, rfl, hv, hb⟩
        obtain ⟨A1, c1, rfl⟩ := Kd.R_slice hv
        have HB2 := Aside0.mk (below_step HB1.out hb)
        replace HX := Aside0.mk (Kd.C_below HX.out hb)
        have HV1 := Aside0.mk (Kd.R_reads' hv).2.2
        have HC1 := Aside0.mk (Kd.R_reads' hv).2.1
        clear hv hb
        go_wp2_with (fail)
        refine (awake02_calls _).mono ?_
        rintro e w3 ⟨rfl, hb⟩
        have HBf := Aside0.mk (below_step HB2.out hb)
        clear hb
        go_wp2_with (fail)
        go_ret
        exact ⟨rfl, HBf.out⟩
      · have hbD : decide ((joinL l).length < k) = false := by simpa using hb
        have hbI : ¬ ((joinL l).length : Int) < (k : Int) := by omega
        have hle : k ≤ (joinL l).length := by omega
        have HB0 := Aside0.mk (Below.refl w.heap.size w)
        go_enter Try.func5, Try.ntmps5
        go_wp2_with (fail)
        refine (few_n _ _ _ l _ HX.out true H1.out).mono ?_
        rintro e w1 ⟨rfl, hd⟩
        have hb := hd.below
        have HB1 := Aside0.mk (below_step HB0.out hb)
        replace HX := Aside0.mk (Kd.C_below HX.out hb)
        clear hd hb
        go_wp2_with (fail)
        refine (join_n _ _ _ l _ HX.out (by have := HL.out.2.1; omega)).mono ?_
        rintro e w2 ⟨v_, rfl, hv, hb⟩
        obtain ⟨A1, c1, rfl⟩ := Kd.R_slice hv
        have HB2 := Aside0.mk (below_step HB1.out hb)
        replace HX := Aside0.mk (Kd.C_below HX.out hb)
        have HV1 := Aside0.mk (Kd.R_reads' hv).2.2
        have HC1 := Aside0.mk (Kd.R_reads' hv).2.1
        clear hv hb
        have hkc : k ≤ c1 := by have := HC1.out; omega
        have HT := Aside0.mk (take_int k hle HV1.out)
        go_wp2_with (fail)
        have HBy := Aside0.mk (fun x hx => joinL_bytes l HW.out x (List.mem_of_mem_take hx) : ∀ x ∈ (joinL l).take k, 0 ≤ x ∧ x < 256)
        have HTl := Aside0.mk (show ((joinL l).take k).length ≤ 14080 by rw [List.length_take]; have := HL.out.2.1; omega)
        refine (split_n _ _ _ ((joinL l).take k) _ HT.out hkc HBy.out (by have := HTl.out; omega)).mono ?_
        intro e w3 hp
        cases hs : splitL ((joinL l).take k) with
        | none =>
          simp only [SplitPost, hs] at hp
          obtain ⟨rfl, hb⟩ := hp
          have HS := Aside0.mk hs
          clear hs
          have HB3 := Aside0.mk (below_step HB2.out hb)
          replace HX := Aside0.mk (Kd.C_below HX.out hb)
          clear hb
          clear haD hbD hbI hb
          have hn20 : n ≤ 20 := by have := HL.out.2.2; have := HN.out; omega
          go_wp2_with (fail)
          go_loop [8, 9] (fun v8 v9 => ∃ i : Nat, i ≤ n + 1 ∧ v9 = .int .i64 i ∧ v8 = .int .i64 (ends l (min i n) : Nat) ∧ Aside0 (∀ j, j < i → ends l j ≠ k)) (fun _ v9 => n + 1 - (intOf v9).toNat)
          case atStart => exact ⟨0, Nat.zero_le _, rfl, by rw [Nat.zero_min]; rfl, ⟨fun j hj => absurd hj (Nat.not_lt_zero _)⟩⟩
          case round =>
            obtain ⟨i, hi, rfl, rfl, HJ⟩ := hrel
            by_cases hlt : i ≤ n
            · have HMin := Aside0.mk (show min i n = i by omega)
              rw [HMin.out]
              have HEl := Aside0.mk (ends_le l i)
              by_cases he : ends l i = k
              · have h1 := cut_some l HL.out.1 k i he
                rw [HS.out] at h1
                cases h1
              · have heI : ((ends l i : Int) == (k : Int)) = false := by rw [beq_eq_false_iff_ne]; omega
                have HJ2 := Aside0.mk (show ∀ j, j < i + 1 → ends l j ≠ k from fun j hj => by rcases Nat.lt_succ_iff_lt_or_eq.1 hj with h | rfl; exact HJ.out j h; exact he)
                clear he
                by_cases hl2 : i < n
                · obtain ⟨ad, A4, c4, rfl, hx, hl4, hr4⟩ := row_at HX.out i hl2
                  have HE := Aside0.mk (ends_succ l i (by have := HN.out; omega))
                  have HM := Aside0.mk (show min (i + 1) n = i + 1 by omega)
                  have HPl := Aside0.mk hr4.2.1
                  have HPb := Aside0.mk (show (l.getD i []).length ≤ 14080 by have h1 := HE.out; have h2 := ends_le l (i + 1); have := HL.out.2.1; omega)
                  have hpb := HPb.out
                  have heb : ends l i ≤ 14080 := by have := HEl.out; have := HL.out.2.1; omega
                  clear hr4 hl4
                  generalize l.getD i [] = p at *
                  generalize ends l i = en at *
                  go_wp2
                  go_round
                  case measure => simp [intOf] <;> omega
                  case rel => exact ⟨i + 1, by omega, by go_num, by rw [HM.out, HE.out]; go_num, HJ2⟩
                · obtain rfl : i = n := by omega
                  have HM := Aside0.mk (show min (i + 1) i = i by omega)
                  obtain ⟨en, hen⟩ : ∃ en, ends l i = en := ⟨_, rfl⟩
                  have HEn := Aside0.mk hen
                  rw [hen] at heI ⊢
                  clear hen
                  go_wp2
                  go_round
                  case measure => simp [intOf] <;> omega
                  case rel => exact ⟨i + 1, by omega, by go_num, by rw [HM.out, HEn.out], HJ2⟩
            · obtain rfl : i = n + 1 := by omega
              generalize ends l (min (n + 1) n) = en at *
              go_wp2_with (fail)
              refine (awake02_calls _).mono ?_
              rintro e w4 ⟨rfl, hb⟩
              have HBf := Aside0.mk (below_step HB3.out hb)
              clear hb
              go_wp2_with (fail)
              go_ret
              exact ⟨rfl, HBf.out⟩
        | some ps =>
          simp only [SplitPost, hs] at hp
          obtain ⟨v3, rfl, hv, hb⟩ := hp
          have HS := Aside0.mk hs
          clear hs
          obtain ⟨A3, c3, rfl⟩ := Kd.R_slice hv
          have HB3 := Aside0.mk (below_step HB2.out hb)
          replace HX := Aside0.mk (Kd.C_below HX.out hb)
          have HV3 := Aside0.mk (Kd.R_reads' hv).2.2
          clear hv hb
          clear haD hbD hbI hb
          have hn20 : n ≤ 20 := by have := HL.out.2.2; have := HN.out; omega
          go_wp2_with (fail)
          go_loop [8, 9] (fun v8 v9 => ∃ i : Nat, i ≤ n + 1 ∧ v9 = .int .i64 i ∧ v8 = .int .i64 (ends l (min i n) : Nat) ∧ Aside0 (∀ j, j < i → ends l j ≠ k)) (fun _ v9 => n + 1 - (intOf v9).toNat)
          case atStart => exact ⟨0, Nat.zero_le _, rfl, by rw [Nat.zero_min]; rfl, ⟨fun j hj => absurd hj (Nat.not_lt_zero _)⟩⟩
          case round =>
            obtain ⟨i, hi, rfl, rfl, HJ⟩ := hrel
            by_cases hlt : i ≤ n
            · have HMin := Aside0.mk (show min i n = i by omega)
              rw [HMin.out]
              have HEl := Aside0.mk (ends_le l i)
              by_cases he : ends l i = k
              · have HP := Aside0.mk (cut_some l HL.out.1 k i he)
                have heI : ((ends l i : Int) == (k : Int)) = true := by rw [beq_iff_eq]; omega
                generalize ends l i = en at *
                have hic : i ≤ c := by have := HCc.out; omega
                have HPs := Aside0.mk (show ps = l.take i by have h1 := HS.out; rw [HP.out] at h1; injection h1 with h1; exact h1.symm)
                clear he
                go_wp2_with (fail)
                refine (pieces_n _ _ _ ps _ _ _ (l.take i) _ HV3.out (take_rows i (by have := HN.out; omega) HX.out) true (by rw [HPs.out]; simp)).mono ?_
                rintro e w4 ⟨rfl, hd⟩
                have hb := hd.below
                have HB4 := Aside0.mk (below_step HB3.out hb)
                replace HX := Aside0.mk (Kd.C_below HX.out hb)
                replace HV3 := Aside0.mk (Kd.C_below HV3.out hb)
                clear hd hb
                go_wp2_with (fail)
                refine (awake02_calls _).mono ?_
                rintro e w5 ⟨rfl, hb⟩
                have HBf := Aside0.mk (below_step HB4.out hb)
                clear hb
                go_wp2_with (fail)
                go_ret
                exact ⟨rfl, HBf.out⟩
              · have heI : ((ends l i : Int) == (k : Int)) = false := by rw [beq_eq_false_iff_ne]; omega
                have HJ2 := Aside0.mk (show ∀ j, j < i + 1 → ends l j ≠ k from fun j hj => by rcases Nat.lt_succ_iff_lt_or_eq.1 hj with h | rfl; exact HJ.out j h; exact he)
                clear he
                by_cases hl2 : i < n
                · obtain ⟨ad, A4, c4, rfl, hx, hl4, hr4⟩ := row_at HX.out i hl2
                  have HE := Aside0.mk (ends_succ l i (by have := HN.out; omega))
                  have HM := Aside0.mk (show min (i + 1) n = i + 1 by omega)
                  have HPl := Aside0.mk hr4.2.1
                  have HPb := Aside0.mk (show (l.getD i []).length ≤ 14080 by have h1 := HE.out; have h2 := ends_le l (i + 1); have := HL.out.2.1; omega)
                  have hpb := HPb.out
                  have heb : ends l i ≤ 14080 := by have := HEl.out; have := HL.out.2.1; omega
                  clear hr4 hl4
                  generalize l.getD i [] = p at *
                  generalize ends l i = en at *
                  go_wp2
                  go_round
                  case measure => simp [intOf] <;> omega
                  case rel => exact ⟨i + 1, by omega, by go_num, by rw [HM.out, HE.out]; go_num, HJ2⟩
                · obtain rfl : i = n := by omega
                  have HM := Aside0.mk (show min (i + 1) i = i by omega)
                  obtain ⟨en, hen⟩ : ∃ en, ends l i = en := ⟨_, rfl⟩
                  have HEn := Aside0.mk hen
                  rw [hen] at heI ⊢
                  clear hen
                  go_wp2
                  go_round
                  case measure => simp [intOf] <;> omega
                  case rel => exact ⟨i + 1, by omega, by go_num, by rw [HM.out, HEn.out], HJ2⟩
            · obtain rfl : i = n + 1 := by omega
              exact (cut_found l HL.out.1 k hle ps HS.out (fun j hj => HJ.out j (by have := HN.out; omega))).elim
end Go.Proofs.Ytpndgdkbnkehcaa.Law
