/- The walk of FixedOrder: whatever the numbers, it answers true. -/
import Derived.Test.YtjlnjknmiojfoaaDoorFixed5
import Derived.Test.YtjlnjknmiojfoaaDoorFixedPure
namespace Go.Proofs.YtjlnjknmiojfoaaDoor.Fixed
open Go.RowKit Go.Proofs.YtjlnjknmiojfoaaDoorW.PrintWords Go.Proofs.YtjlnjknmiojfoaaDoorW.PrintLast Go.Proofs.YtjlnjknmiojfoaaDoorW.PrintMore Go.Proofs.YtjlnjknmiojfoaaDoor.K
set_option linter.unusedVariables false
set_option maxHeartbeats 16000000 in
set_option maxRecDepth 100000 in
theorem order_calls (a b c : Int) (w : World) (hL : LaidAt w 0 stepsA) (ha9 : -9223372036854775808 ≤ a ∧ a ≤ 9223372036854775807) (hb9 : -9223372036854775808 ≤ b ∧ b ≤ 9223372036854775807) (hc9 : -9223372036854775808 ≤ c ∧ c ≤ 9223372036854775807) :
    Calls Tryd.prog 9 #[.int .i64 a, .int .i64 b, .int .i64 c] w fun e w' => e = .returned (.bool true) ∧ Below w.heap.size w w' := by
  have HL := Aside0.mk hL
  clear hL
  have HB0 := Aside0.mk (Below.refl w.heap.size w)
  clear ha9 hb9 hc9
  rcases Int.lt_or_le b a with hab | hab
  · have habD : decide (b < a) = true := by simpa using hab
    go_enter Tryd.func9, Tryd.ntmps9
    go_wp2_with (fail)
    have HL_ := Aside0.mk (HL.out.below HB0.out)
    refine (awake06_calls _ HL_.out).mono ?_
    rintro e w1 ⟨rfl, hb⟩
    have HB1 := Aside0.mk (below_step HB0.out hb)
    clear hb
    go_wp2_with (fail)
    go_ret
    exact ⟨rfl, HB1.out⟩
  · have habD : decide (b < a) = false := by simp; omega
    have HAB := Aside0.mk hab
    obtain ⟨⟨n, e⟩, h⟩ : ∃ r, addV a c = r := ⟨_, rfl⟩
    have H1 := Aside0.mk h
    clear h
    obtain ⟨⟨m, f⟩, h⟩ : ∃ r, addV b c = r := ⟨_, rfl⟩
    have H2 := Aside0.mk h
    clear h
    obtain ⟨⟨p, g⟩, h⟩ : ∃ r, mulV a c = r := ⟨_, rfl⟩
    have H3 := Aside0.mk h
    clear h
    obtain ⟨⟨q, i⟩, h⟩ : ∃ r, mulV b c = r := ⟨_, rfl⟩
    have H4 := Aside0.mk h
    clear h
    obtain ⟨⟨x, j⟩, h⟩ : ∃ r, divV a c = r := ⟨_, rfl⟩
    have H5 := Aside0.mk h
    clear h
    obtain ⟨⟨y, k⟩, h⟩ : ∃ r, divV b c = r := ⟨_, rfl⟩
    have H6 := Aside0.mk h
    clear h
    obtain ⟨u, l, hu, hru⟩ := Root_any a
    obtain ⟨v, o, hv, hrv⟩ := Root_any b
    have HU := Aside0.mk hu
    have HV := Aside0.mk hv
    have HRU := Aside0.mk hru
    have HRV := Aside0.mk hrv
    clear hu hv hru hrv hab
    go_enter Tryd.func9, Tryd.ntmps9
    go_wp2_with (fail)
    refine (Add_calls a c _ n e H1.out).mono ?_
    rintro e w1 ⟨rfl, hb⟩
    have HB1 := Aside0.mk (below_step HB0.out hb)
    clear hb
    go_wp2_with (fail)
    rename_i Kc hKc Kl hKl
    replace hKc := fun a_ w_ h_ => hKc a_ w_ (wp_stop h_)
    refine (Add_calls b c _ m f H2.out).mono ?_
    rintro e w2 ⟨rfl, hb⟩
    have HB2 := Aside0.mk (below_step HB1.out hb)
    clear hb
    go_wp2_with (fail)
    refine wp_join (fun u_ => ⟨(.int .i64 a :: .int .i64 b :: .int .i64 c :: undef :: undef :: undef :: .bool false :: .int .i64 n :: .int .i64 e :: .int .i64 m :: .int .i64 f :: undef :: undef :: undef :: undef :: undef :: undef :: undef :: undef :: undef :: undef :: undef :: undef :: u_ 23 :: u_ 24 :: u_ 25 :: u_ 26 :: u_ 27 :: u_ 28 :: u_ 29 :: u_ 30 :: u_ 31 :: u_ 32 :: u_ 33 :: u_ 34 :: u_ 35 :: u_ 36 :: u_ 37 :: u_ 38 :: u_ 39 :: u_ 40 :: u_ 41 :: u_ 42 :: u_ 43 :: u_ 44 :: u_ 45 :: u_ 46 :: u_ 47 :: u_ 48 :: u_ 49 :: undef :: undef :: undef :: undef :: undef :: undef :: undef :: undef :: undef :: undef :: undef :: undef :: undef :: undef :: undef :: undef :: undef :: undef :: undef :: undef :: undef :: undef :: undef :: undef :: undef :: undef :: undef :: undef :: undef :: undef :: undef :: undef :: undef :: undef :: undef :: undef :: undef :: undef :: undef :: undef :: undef :: undef :: undef :: undef :: undef :: undef :: undef :: undef :: undef :: undef :: undef :: undef :: undef :: undef :: undef :: undef :: undef :: undef :: undef :: undef :: undef :: undef :: undef :: undef :: undef :: undef :: undef :: undef :: undef :: undef :: undef :: undef :: undef :: undef :: undef :: undef :: undef :: undef :: undef :: undef :: undef :: undef :: undef :: undef :: undef :: undef :: undef :: undef :: undef :: undef :: undef :: undef :: undef :: undef :: undef :: undef :: []).toArray, []⟩) (fun w_ => w_ = w2) ?rest ?cond
    case cond =>
      intro K hK
      by_cases he : e = 0
      · subst he
        by_cases hf : f = 0
        · subst hf
          have hD : decide (m < n) = false := by have := add_mono HAB.out H1.out H2.out; simp; omega
          go_wp2
          exact hK.out _ _ rfl rfl
        · have hfI : (f == 0) = false := by rw [beq_eq_false_iff_ne]; exact hf
          clear hf
          go_wp2
          exact hK.out _ _ rfl rfl
      · have heI : (e == 0) = false := by rw [beq_eq_false_iff_ne]; exact he
        clear he
        go_wp2
        exact hK.out _ _ rfl rfl
    case rest =>
      rintro u_ _ rfl
      show Code.wp _ _ _ _ _
      go_wp2_with (fail)
      refine (Mul_calls a c _ p g H3.out).mono ?_
      rintro e w3 ⟨rfl, hb⟩
      have HB3 := Aside0.mk (below_step HB2.out hb)
      clear hb
      go_wp2_with (fail)
      rename_i Kc hKc Kl hKl
      replace hKc := fun a_ w_ h_ => hKc a_ w_ (wp_stop h_)
      refine (Mul_calls b c _ q i H4.out).mono ?_
      rintro e w4 ⟨rfl, hb⟩
      have HB4 := Aside0.mk (below_step HB3.out hb)
      clear hb
      go_wp2_with (fail)
      refine wp_join (fun u_ => ⟨(.int .i64 a :: .int .i64 b :: .int .i64 c :: undef :: undef :: undef :: .bool false :: .int .i64 n :: .int .i64 e :: .int .i64 m :: .int .i64 f :: .int .i64 p :: .int .i64 g :: .int .i64 q :: .int .i64 i :: undef :: undef :: undef :: undef :: undef :: undef :: undef :: undef :: u_ 23 :: u_ 24 :: u_ 25 :: u_ 26 :: u_ 27 :: u_ 28 :: u_ 29 :: u_ 30 :: u_ 31 :: u_ 32 :: u_ 33 :: u_ 34 :: u_ 35 :: u_ 36 :: u_ 37 :: u_ 38 :: u_ 39 :: u_ 40 :: u_ 41 :: u_ 42 :: u_ 43 :: u_ 44 :: u_ 45 :: u_ 46 :: u_ 47 :: u_ 48 :: u_ 49 :: u_ 50 :: u_ 51 :: u_ 52 :: u_ 53 :: u_ 54 :: u_ 55 :: u_ 56 :: u_ 57 :: u_ 58 :: u_ 59 :: u_ 60 :: u_ 61 :: u_ 62 :: u_ 63 :: u_ 64 :: u_ 65 :: u_ 66 :: u_ 67 :: u_ 68 :: u_ 69 :: u_ 70 :: u_ 71 :: u_ 72 :: u_ 73 :: u_ 74 :: u_ 75 :: u_ 76 :: u_ 77 :: u_ 78 :: u_ 79 :: u_ 80 :: u_ 81 :: u_ 82 :: u_ 83 :: u_ 84 :: u_ 85 :: undef :: undef :: undef :: undef :: undef :: undef :: undef :: undef :: undef :: undef :: undef :: undef :: undef :: undef :: undef :: undef :: undef :: undef :: undef :: undef :: undef :: undef :: undef :: undef :: undef :: undef :: undef :: undef :: undef :: undef :: undef :: undef :: undef :: undef :: undef :: undef :: undef :: undef :: undef :: undef :: undef :: undef :: undef :: undef :: undef :: undef :: undef :: undef :: undef :: undef :: undef :: undef :: undef :: undef :: undef :: undef :: undef :: undef :: undef :: undef :: []).toArray, []⟩) (fun w_ => w_ = w4) ?rest ?cond
      case cond =>
        intro K hK
        by_cases he : g = 0
        · subst he
          by_cases hf : i = 0
          · subst hf
            obtain ⟨m1, m2⟩ := mul_mono HAB.out H3.out H4.out
            have M1 := Aside0.mk m1
            have M2 := Aside0.mk m2
            clear m1 m2
            rcases Int.lt_or_le 0 c with hc | hc
            · have hcD : decide (0 ≤ c) = true := by simp; omega
              have hcD2 : decide (c ≤ 0) = false := by simp; omega
              have hcD3 : decide (0 < c) = true := by simpa using hc
              have hcD4 : decide (c < 0) = false := by simp; omega
              have hD : decide (q < p) = false := by have := M1.out (by omega); simp; omega
              go_wp2
              exact hK.out _ _ rfl rfl
            · rcases Int.lt_or_eq_of_le hc with hc2 | hc2
              · have hcD : decide (0 ≤ c) = false := by simp; omega
                have hcD2 : decide (c ≤ 0) = true := by simpa using hc
                have hcD3 : decide (0 < c) = false := by simp; omega
                have hcD4 : decide (c < 0) = true := by simpa using hc2
                have hD : decide (p < q) = false := by have := M2.out (by omega); simp; omega
                go_wp2
                exact hK.out _ _ rfl rfl
              · subst hc2
                have hD : decide (q < p) = false := by have := M1.out (by omega); simp; omega
                have hD2 : decide (p < q) = false := by have := M2.out (by omega); simp; omega
                go_wp2
                exact hK.out _ _ rfl rfl
          · have hfI : (i == 0) = false := by rw [beq_eq_false_iff_ne]; exact hf
            clear hf
            go_wp2
            exact hK.out _ _ rfl rfl
        · have heI : (g == 0) = false := by rw [beq_eq_false_iff_ne]; exact he
          clear he
          go_wp2
          exact hK.out _ _ rfl rfl
      case rest =>
        rintro u_ _ rfl
        show Code.wp _ _ _ _ _
        go_wp2_with (fail)
        refine (Div_calls a c _ x j H5.out).mono ?_
        rintro e w5 ⟨rfl, hb⟩
        have HB5 := Aside0.mk (below_step HB4.out hb)
        clear hb
        go_wp2_with (fail)
        rename_i Kc hKc Kl hKl
        replace hKc := fun a_ w_ h_ => hKc a_ w_ (wp_stop h_)
        refine (Div_calls b c _ y k H6.out).mono ?_
        rintro e w6 ⟨rfl, hb⟩
        have HB6 := Aside0.mk (below_step HB5.out hb)
        clear hb
        go_wp2_with (fail)
        refine wp_join (fun u_ => ⟨(.int .i64 a :: .int .i64 b :: .int .i64 c :: undef :: undef :: undef :: .bool false :: .int .i64 n :: .int .i64 e :: .int .i64 m :: .int .i64 f :: .int .i64 p :: .int .i64 g :: .int .i64 q :: .int .i64 i :: .int .i64 x :: .int .i64 j :: .int .i64 y :: .int .i64 k :: undef :: undef :: undef :: undef :: u_ 23 :: u_ 24 :: u_ 25 :: u_ 26 :: u_ 27 :: u_ 28 :: u_ 29 :: u_ 30 :: u_ 31 :: u_ 32 :: u_ 33 :: u_ 34 :: u_ 35 :: u_ 36 :: u_ 37 :: u_ 38 :: u_ 39 :: u_ 40 :: u_ 41 :: u_ 42 :: u_ 43 :: u_ 44 :: u_ 45 :: u_ 46 :: u_ 47 :: u_ 48 :: u_ 49 :: u_ 50 :: u_ 51 :: u_ 52 :: u_ 53 :: u_ 54 :: u_ 55 :: u_ 56 :: u_ 57 :: u_ 58 :: u_ 59 :: u_ 60 :: u_ 61 :: u_ 62 :: u_ 63 :: u_ 64 :: u_ 65 :: u_ 66 :: u_ 67 :: u_ 68 :: u_ 69 :: u_ 70 :: u_ 71 :: u_ 72 :: u_ 73 :: u_ 74 :: u_ 75 :: u_ 76 :: u_ 77 :: u_ 78 :: u_ 79 :: u_ 80 :: u_ 81 :: u_ 82 :: u_ 83 :: u_ 84 :: u_ 85 :: u_ 86 :: u_ 87 :: u_ 88 :: u_ 89 :: u_ 90 :: u_ 91 :: u_ 92 :: u_ 93 :: u_ 94 :: u_ 95 :: u_ 96 :: u_ 97 :: u_ 98 :: u_ 99 :: u_ 100 :: u_ 101 :: u_ 102 :: u_ 103 :: u_ 104 :: u_ 105 :: u_ 106 :: u_ 107 :: u_ 108 :: u_ 109 :: u_ 110 :: u_ 111 :: u_ 112 :: u_ 113 :: u_ 114 :: u_ 115 :: u_ 116 :: u_ 117 :: u_ 118 :: u_ 119 :: u_ 120 :: u_ 121 :: undef :: undef :: undef :: undef :: undef :: undef :: undef :: undef :: undef :: undef :: undef :: undef :: undef :: undef :: undef :: undef :: undef :: undef :: undef :: undef :: undef :: undef :: undef :: undef :: []).toArray, []⟩) (fun w_ => w_ = w6) ?rest ?cond
        case cond =>
          intro K hK
          by_cases he : j = 0
          · subst he
            by_cases hf : k = 0
            · subst hf
              obtain ⟨m1, m2⟩ := div_mono HAB.out H5.out H6.out
              have M1 := Aside0.mk m1
              have M2 := Aside0.mk m2
              clear m1 m2
              rcases Int.lt_or_le 0 c with hc | hc
              · have hcD : decide (0 ≤ c) = true := by simp; omega
                have hcD2 : decide (c ≤ 0) = false := by simp; omega
                have hcD3 : decide (0 < c) = true := by simpa using hc
                have hcD4 : decide (c < 0) = false := by simp; omega
                have hD : decide (y < x) = false := by have := M1.out (by omega); simp; omega
                go_wp2
                exact hK.out _ _ rfl rfl
              · rcases Int.lt_or_eq_of_le hc with hc2 | hc2
                · have hcD : decide (0 ≤ c) = false := by simp; omega
                  have hcD2 : decide (c ≤ 0) = true := by simpa using hc
                  have hcD3 : decide (0 < c) = false := by simp; omega
                  have hcD4 : decide (c < 0) = true := by simpa using hc2
                  have hD : decide (x < y) = false := by have := M2.out (by omega); simp; omega
                  go_wp2
                  exact hK.out _ _ rfl rfl
                · subst hc2
                  go_wp2
                  exact hK.out _ _ rfl rfl
            · have hfI : (k == 0) = false := by rw [beq_eq_false_iff_ne]; exact hf
              clear hf
              go_wp2
              exact hK.out _ _ rfl rfl
          · have heI : (j == 0) = false := by rw [beq_eq_false_iff_ne]; exact he
            clear he
            go_wp2
            exact hK.out _ _ rfl rfl
        case rest =>
          rintro u_ _ rfl
          show Code.wp _ _ _ _ _
          go_wp2_with (fail)
          refine (HRU.out _).mono ?_
          rintro e w7 ⟨rfl, hb⟩
          have HB7 := Aside0.mk (below_step HB6.out hb)
          clear hb
          go_wp2_with (fail)
          refine (HRV.out _).mono ?_
          rintro e w8 ⟨rfl, hb⟩
          have HB8 := Aside0.mk (below_step HB7.out hb)
          clear hb
          by_cases hl : l = 0
          · subst hl
            by_cases ho : o = 0
            · subst ho
              have hD : decide (u ≤ v) = true := by have := root_mono HAB.out (HU.out rfl) (HV.out rfl); simpa using this
              go_wp2_with (fail)
              have HL_ := Aside0.mk (HL.out.below HB8.out)
              refine (awake06_calls _ HL_.out).mono ?_
              rintro e w9 ⟨rfl, hb⟩
              have HB9 := Aside0.mk (below_step HB8.out hb)
              clear hb
              go_wp2_with (fail)
              go_ret
              exact ⟨rfl, HB9.out⟩
            · have hoI : (o == 0) = false := by rw [beq_eq_false_iff_ne]; exact ho
              have hoN : (o != 0) = true := by rw [bne_iff_ne]; exact ho
              clear ho
              go_wp2_with (fail)
              have HL_ := Aside0.mk (HL.out.below HB8.out)
              refine (awake06_calls _ HL_.out).mono ?_
              rintro e w9 ⟨rfl, hb⟩
              have HB9 := Aside0.mk (below_step HB8.out hb)
              clear hb
              go_wp2_with (fail)
              go_ret
              exact ⟨rfl, HB9.out⟩
          · have hlI : (l == 0) = false := by rw [beq_eq_false_iff_ne]; exact hl
            have hlN : (l != 0) = true := by rw [bne_iff_ne]; exact hl
            clear hl
            go_wp2_with (fail)
            have HL_ := Aside0.mk (HL.out.below HB8.out)
            refine (awake06_calls _ HL_.out).mono ?_
            rintro e w9 ⟨rfl, hb⟩
            have HB9 := Aside0.mk (below_step HB8.out hb)
            clear hb
            go_wp2_with (fail)
            go_ret
            exact ⟨rfl, HB9.out⟩
end Go.Proofs.YtjlnjknmiojfoaaDoor.Fixed
