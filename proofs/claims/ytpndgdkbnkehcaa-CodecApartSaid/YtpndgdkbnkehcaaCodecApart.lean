/- The walk of CodecApart: of whatever two rows of pieces it answers true. -/
import Derived.Test.YtpndgdkbnkehcaaCodecPure
import Derived.Test.YtpndgdkbnkehcaaLawFew
import Derived.Test.YtpndgdkbnkehcaaLaw02Awake
namespace Go.Proofs.Ytpndgdkbnkehcaa.Law
open Go.RowKit Go.Proofs.YtpndgdkbnkehcaaW.PrintWords Go.Proofs.YtpndgdkbnkehcaaW.PrintLast Go.Proofs.YtpndgdkbnkehcaaW.PrintMore Go.Proofs.Ytpndgdkbnkehcaa.K Go.Proofs.Ytpndgdkbnkehcaa.Codec
set_option linter.unusedVariables false
theorem few_bound {l : List (List Int)} (h : fewB l = true) : (∀ p ∈ l, p.length < 4294967296) ∧ (joinL l).length ≤ 14080 ∧ l.length ≤ 20 := by
  have h := of_decide_eq_true h
  refine ⟨fun p hp => by have := h.1 p hp; omega, ?_, h.2⟩
  have h1 := joinL_bound l 700 h.1
  have h2 := h.2
  have h3 : (700 + 4) * l.length ≤ 704 * 20 := Nat.mul_le_mul_left _ h2
  omega
set_option maxHeartbeats 4000000 in
set_option maxRecDepth 100000 in
theorem apart_calls (A : Option Addr) (c : Nat) (l : List (List Int)) (A' : Option Addr) (c' : Nat) (m : List (List Int)) (w : World) (hx : Kd.C (Kd.slice 5 (Kd.int .u8)) w A l.length l) (hy : Kd.C (Kd.slice 5 (Kd.int .u8)) w A' m.length m) :
    Calls Try.prog 3 #[.slice A l.length c, .slice A' m.length c'] w fun e w' => e = .returned (.bool true) ∧ Below w.heap.size w w' := by
  have HX := Aside0.mk hx
  have HY := Aside0.mk hy
  clear hx hy
  cases h1 : fewB l with
  | false =>
    have H1 := Aside0.mk h1
    clear h1
    go_enter Try.func3, Try.ntmps3
    go_wp2_with (fail)
    refine (few_calls _ _ l _ HX.out false H1.out).mono ?_
    rintro e w1 ⟨rfl, hd⟩
    have HB1 := Aside0.mk hd.below
    clear hd
    go_wp2_with (fail)
    refine (awake02_calls _).mono ?_
    rintro e w2 ⟨rfl, hb⟩
    have HB := Aside0.mk (below_step HB1.out hb)
    clear hb
    go_wp2_with (fail)
    go_ret
    exact ⟨rfl, HB.out⟩
  | true =>
    have H1 := Aside0.mk h1
    clear h1
    cases h2 : fewB m with
    | false =>
      have H2 := Aside0.mk h2
      clear h2
      go_enter Try.func3, Try.ntmps3
      go_wp2_with (fail)
      refine (few_calls _ _ l _ HX.out true H1.out).mono ?_
      rintro e w1 ⟨rfl, hd⟩
      have HB1 := Aside0.mk hd.below
      clear hd
      go_wp2_with (fail)
      refine (few_calls _ _ m _ (Kd.C_below HY.out HB1.out) false H2.out).mono ?_
      rintro e w2 ⟨rfl, hd⟩
      have HB2 := Aside0.mk (below_step HB1.out hd.below)
      clear hd
      go_wp2_with (fail)
      refine (awake02_calls _).mono ?_
      rintro e w3 ⟨rfl, hb⟩
      have HB := Aside0.mk (below_step HB2.out hb)
      clear hb
      go_wp2_with (fail)
      go_ret
      exact ⟨rfl, HB.out⟩
    | true =>
      have H2 := Aside0.mk h2
      clear h2
      obtain ⟨b1, b2, b3⟩ := few_bound H1.out
      obtain ⟨b4, b5, b6⟩ := few_bound H2.out
      have HI := Aside0.mk (joinL_inj l m b1 b4)
      have HLl := Aside0.mk b2
      have HLm := Aside0.mk b5
      have HNl := Aside0.mk b3
      have HNm := Aside0.mk b6
      clear b1 b2 b3 b4 b5 b6
      go_enter Try.func3, Try.ntmps3
      go_wp2_with (fail)
      refine (few_calls _ _ l _ HX.out true H1.out).mono ?_
      rintro e w1 ⟨rfl, hd⟩
      have HB1 := Aside0.mk hd.below
      clear hd
      go_wp2_with (fail)
      refine (few_calls _ _ m _ (Kd.C_below HY.out HB1.out) true H2.out).mono ?_
      rintro e w2 ⟨rfl, hd⟩
      have HB2 := Aside0.mk (below_step HB1.out hd.below)
      clear hd
      go_wp2_with (fail)
      refine (join_calls _ _ l _ (Kd.C_below HX.out HB2.out) (by have := HLl.out; omega)).mono ?_
      rintro e w3 ⟨v1, rfl, hv, hb⟩
      obtain ⟨A1, c1, rfl⟩ := Kd.R_slice hv
      have HV1 := Aside0.mk (Kd.R_reads' hv).2.2
      have HB3 := Aside0.mk (below_step HB2.out hb)
      clear hv hb
      go_wp2_with (fail)
      refine (join_calls _ _ m _ (Kd.C_below HY.out HB3.out) (by have := HLm.out; omega)).mono ?_
      rintro e w4 ⟨v2, rfl, hv, hb⟩
      obtain ⟨A2, c2, rfl⟩ := Kd.R_slice hv
      have HV2 := Aside0.mk (Kd.R_reads' hv).2.2
      have HV1' := Aside0.mk (Kd.C_below HV1.out hb)
      have HB4 := Aside0.mk (below_step HB3.out hb)
      clear hv hb HV1
      go_wp2_with (first
        | (at_builtin; refine Kd.R_append_rows (Kd.fixed (Kd.slice 5 (Kd.int .u8)) w) (Rr := (Kd.fixed (Kd.slice 5 (Kd.int .u8)) w).K w4) (w0 := w4) (W := w4) w4.heap.size rfl (.tmp 22) (.tmp 23) 22 25 (.slice none 0 0) 24 rfl Try.underlying22 info_bs rfl Nat.zero_lt_one (by decide) (.slice none 0 0) [] l A l.length c (fun _ => True) (fun k => True ∧ some k ≠ (.slice none 0 0 : Value).ownBlock) rfl rfl (Kd.R_nil _ _ _ _ _) (C_fix HX.out HB4.out) (fun _ _ h => h) (fun _ h => h) (fun _ _ => trivial) (Below.refl _ _) (Nat.le_refl _) (by have := HNl.out; simp; omega) ?_; intro v3 w5 ho hb hg hat; have HO5 := Aside0.mk ho; have HD5 := Aside0.mk hb; have HB5 := Aside0.mk (below_step HB4.out hb); clear ho hb hg hat)
        | (at_builtin; refine Kd.R_append_rows (Kd.fixed (Kd.slice 5 (Kd.int .u8)) w) (Rr := (Kd.fixed (Kd.slice 5 (Kd.int .u8)) w).K w5) (w0 := w4) (W := w5) w4.heap.size rfl (.tmp 25) (.tmp 26) 22 25 (.slice none 0 0) 24 rfl Try.underlying22 info_bs rfl Nat.zero_lt_one (by decide) v3 ([] ++ l) m A' m.length c' (fun _ => True) (fun k => True ∧ some k ≠ v3.ownBlock) rfl rfl HO5.out (C_fix HY.out HB5.out) (fun _ _ h => h) (fun _ h => h) (fun _ _ => trivial) HD5.out HD5.out.size (by have := HNl.out; have := HNm.out; simp; omega) ?_; intro v4 w6 ho hb hg hat; obtain ⟨A4, c4, rfl⟩ := Kd.R_slice ho; have HB6 := Aside0.mk (below_step HB4.out hb); have HV3 := Aside0.mk (C_unfix HB6.out (Kd.R_reads' ho).2.2); have HV1 := Aside0.mk (reads_int (Kd.C_below HV1'.out hb)); have HV2' := Aside0.mk (reads_int (Kd.C_below HV2.out hb)); clear ho hb hg hat HV1' HV2)
        | (at_builtin; refine print_append_row (w0 := w6) (W := w6) w6.heap.size rfl (.tmp 28) (.tmp 29) 25 5 .u8 1 rfl Try.underlying25 info_u8 (by decide) (.slice none 0 0) [] (joinL l) A1 (joinL l).length c1 rfl rfl (own_nil _ _ _ _) HV1.out (Below.refl _ _) (Nat.le_refl _) (by have := HLl.out; simp; omega) ?_; intro v5 w7 ho hb hg hat; have HO7 := Aside0.mk ho; have HB7 := Aside0.mk hb; clear ho hb hg hat)
        | (at_builtin; refine print_append_row (w0 := w6) (W := w7) w6.heap.size rfl (.tmp 31) (.tmp 32) 25 5 .u8 1 rfl Try.underlying25 info_u8 (by decide) v5 ([] ++ joinL l) (joinL m) A2 (joinL m).length c2 rfl rfl HO7.out (HV2'.out.below HB7.out) HB7.out HB7.out.size (by have := HLl.out; have := HLm.out; simp; omega) ?_; intro v6 w8 ho hb hg hat; obtain ⟨A6, c6, rfl⟩ := own_slice ho; have HV6 := Aside0.mk (own_C ho); have HD8 := Aside0.mk hb; have HB8 := Aside0.mk (below_step HB6.out hb); clear ho hb hg hat))
      have HVa := Aside0.mk (C_int (HV1.out.below HD8.out))
      have HVb := Aside0.mk (C_int (HV2'.out.below HD8.out))
      refine (bytes_calls _ _ (joinL l) _ _ (joinL m) _ HVa.out HVb.out (decide (l = m)) (decide_eq_decide.mpr HI.out)).mono ?_
      rintro e w9 ⟨rfl, hd⟩
      have HD9 := Aside0.mk (below_step HD8.out hd.below)
      have HB9 := Aside0.mk (below_step HB8.out hd.below)
      have HV6' := Aside0.mk (Kd.C_below HV6.out hd.below)
      clear hd
      go_wp2_with (fail)
      refine (pieces_calls _ _ l _ _ m _ (Kd.C_below HX.out HB9.out) (Kd.C_below HY.out HB9.out) (decide (l = m)) rfl).mono ?_
      rintro e w10 ⟨rfl, hd⟩
      have HD10 := Aside0.mk (below_step HD9.out hd.below)
      have HB10 := Aside0.mk (below_step HB9.out hd.below)
      have HV6'' := Aside0.mk (Kd.C_below HV6'.out hd.below)
      clear hd
      go_wp2_with (fail)
      have HV3' := Aside0.mk (show Kd.C (Kd.slice 5 (Kd.int .u8)) w10 A4 (l.length + m.length) (l ++ m) by have h := Kd.C_below HV3.out HD10.out; simpa using h)
      have HV7 := Aside0.mk (show Kd.C (Kd.int .u8) w10 A6 ((joinL l).length + (joinL m).length) (joinL l ++ joinL m) by have h := HV6''.out; simpa using h)
      clear HV3 HV6 HV6' HV6'' HV1 HV2' HVa HVb
      refine (join_n A4 _ _ (l ++ m) _ HV3'.out (by have := HLl.out; have := HLm.out; rw [joinL_append, List.length_append]; omega)).mono ?_
      rintro e w11 ⟨v8, rfl, hv, hb⟩
      obtain ⟨A8, c8, rfl⟩ := Kd.R_slice hv
      have HV8 := Aside0.mk (Kd.R_reads' hv).2.2
      have HV7' := Aside0.mk (Kd.C_below HV7.out hb)
      have HB11 := Aside0.mk (below_step HB10.out hb)
      clear hv hb
      go_wp2_with (fail)
      refine (bytes_n _ _ _ (joinL (l ++ m)) _ _ _ (joinL l ++ joinL m) _ HV8.out HV7'.out true (by rw [joinL_append]; simp)).mono ?_
      rintro e w12 ⟨rfl, hd⟩
      have HB12 := Aside0.mk (below_step HB11.out hd.below)
      clear hd
      go_wp2_with (fail)
      refine (awake02_calls _).mono ?_
      rintro e w13 ⟨rfl, hb⟩
      have HB13 := Aside0.mk (below_step HB12.out hb)
      clear hb
      go_wp2_with (fail)
      go_ret
      exact ⟨rfl, HB13.out⟩
theorem apart_n (A : Option Addr) (n c : Nat) (l : List (List Int)) (A' : Option Addr) (n' c' : Nat) (m : List (List Int)) (w : World) (hx : Kd.C (Kd.slice 5 (Kd.int .u8)) w A n l) (hy : Kd.C (Kd.slice 5 (Kd.int .u8)) w A' n' m) :
    Calls Try.prog 3 #[.slice A n c, .slice A' n' c'] w fun e w' => e = .returned (.bool true) ∧ Below w.heap.size w w' := by
  obtain rfl := hx.1
  obtain rfl := hy.1
  exact apart_calls A c l A' c' m w hx hy
end Go.Proofs.Ytpndgdkbnkehcaa.Law
