/- The walk of FixedNear: whatever the numbers, it answers true. -/
import Derived.Test.YtjlnjknmiojfoaaDoorFixed5
import Derived.Test.YtjlnjknmiojfoaaDoorFixedPure
namespace Go.Proofs.YtjlnjknmiojfoaaDoor.Fixed
open Go.RowKit Go.Proofs.YtjlnjknmiojfoaaDoorW.PrintWords Go.Proofs.YtjlnjknmiojfoaaDoorW.PrintLast Go.Proofs.YtjlnjknmiojfoaaDoorW.PrintMore Go.Proofs.YtjlnjknmiojfoaaDoor.K
set_option linter.unusedVariables false
set_option maxHeartbeats 16000000 in
set_option maxRecDepth 100000 in
theorem near_calls (a b : Int) (w : World) (hL : LaidAt w 0 stepsA) (ha9 : -9223372036854775808 ≤ a ∧ a ≤ 9223372036854775807) (hb9 : -9223372036854775808 ≤ b ∧ b ≤ 9223372036854775807) :
    Calls Tryd.prog 8 #[.int .i64 a, .int .i64 b] w fun e w' => e = .returned (.bool true) ∧ Below w.heap.size w w' := by
  have HL := Aside0.mk hL
  clear hL
  have HB0 := Aside0.mk (Below.refl w.heap.size w)
  obtain ⟨b1, b2⟩ := hb9
  have HB8 := Aside0.mk b1
  have HB9 := Aside0.mk b2
  clear ha9 b1 b2
  obtain ⟨⟨n, e⟩, h⟩ : ∃ r, addV a b = r := ⟨_, rfl⟩
  have H1 := Aside0.mk h
  have H2 := Aside0.mk (show addV b a = (n, e) by rw [addV_comm]; exact h)
  clear h
  obtain ⟨⟨p, g⟩, h⟩ : ∃ r, mulV a b = r := ⟨_, rfl⟩
  have H3 := Aside0.mk h
  have H4 := Aside0.mk (show mulV b a = (p, g) by rw [mulV_comm]; exact h)
  clear h
  go_enter Tryd.func8, Tryd.ntmps8
  go_wp2_with (fail)
  refine (Add_calls a b _ n e H1.out).mono ?_
  rintro e w1 ⟨rfl, hb⟩
  have HB1 := Aside0.mk (below_step HB0.out hb)
  clear hb
  go_wp2_with (fail)
  refine (Add_calls b a _ n e H2.out).mono ?_
  rintro e w2 ⟨rfl, hb⟩
  have HB2 := Aside0.mk (below_step HB1.out hb)
  clear hb
  go_wp2_with (fail)
  refine (Mul_calls a b _ p g H3.out).mono ?_
  rintro e w3 ⟨rfl, hb⟩
  have HB3 := Aside0.mk (below_step HB2.out hb)
  clear hb
  go_wp2_with (fail)
  rename_i Kc hKc Kl hKl
  replace hKc := fun a_ w_ h_ => hKc a_ w_ (wp_stop h_)
  refine (Mul_calls b a _ p g H4.out).mono ?_
  rintro e w4 ⟨rfl, hb⟩
  have HB4 := Aside0.mk (below_step HB3.out hb)
  clear hb
  go_wp2_with (fail)
  refine wp_join (fun u_ => ⟨(.int .i64 a :: .int .i64 b :: undef :: undef :: .bool false :: .int .i64 n :: .int .i64 e :: .int .i64 n :: .int .i64 e :: .int .i64 p :: .int .i64 g :: .int .i64 p :: .int .i64 g :: undef :: undef :: undef :: undef :: undef :: u_ 18 :: u_ 19 :: u_ 20 :: u_ 21 :: u_ 22 :: u_ 23 :: u_ 24 :: u_ 25 :: u_ 26 :: u_ 27 :: u_ 28 :: u_ 29 :: u_ 30 :: u_ 31 :: u_ 32 :: u_ 33 :: u_ 34 :: u_ 35 :: u_ 36 :: u_ 37 :: u_ 38 :: u_ 39 :: u_ 40 :: u_ 41 :: u_ 42 :: u_ 43 :: u_ 44 :: u_ 45 :: u_ 46 :: u_ 47 :: u_ 48 :: u_ 49 :: u_ 50 :: u_ 51 :: u_ 52 :: u_ 53 :: u_ 54 :: u_ 55 :: u_ 56 :: u_ 57 :: u_ 58 :: u_ 59 :: undef :: undef :: undef :: undef :: undef :: undef :: undef :: undef :: undef :: undef :: undef :: undef :: undef :: undef :: undef :: undef :: undef :: undef :: undef :: undef :: undef :: undef :: undef :: undef :: undef :: undef :: undef :: undef :: undef :: undef :: undef :: undef :: undef :: undef :: undef :: undef :: undef :: undef :: undef :: undef :: undef :: undef :: undef :: undef :: undef :: undef :: undef :: undef :: undef :: undef :: undef :: undef :: undef :: undef :: undef :: undef :: undef :: undef :: undef :: undef :: undef :: undef :: undef :: []).toArray, []⟩) (fun w_ => w_ = w4) ?rest ?cond
  case cond =>
    intro K hK
    have hnI : (n != n) = false := by simp
    have heI : (e != e) = false := by simp
    have hpI : (p != p) = false := by simp
    have hgI : (g != g) = false := by simp
    go_wp2
    exact hK.out _ _ rfl rfl
  case rest =>
    rintro u_ _ rfl
    show Code.wp _ _ _ _ _
    refine (wp_stop ?_)
    refine wp_join (fun u_ => ⟨(.int .i64 a :: .int .i64 b :: undef :: undef :: .bool false :: .int .i64 n :: .int .i64 e :: .int .i64 n :: .int .i64 e :: .int .i64 p :: .int .i64 g :: .int .i64 p :: .int .i64 g :: u_ 13 :: u_ 14 :: u_ 15 :: u_ 16 :: u_ 17 :: u_ 18 :: u_ 19 :: u_ 20 :: u_ 21 :: u_ 22 :: u_ 23 :: u_ 24 :: u_ 25 :: u_ 26 :: u_ 27 :: u_ 28 :: u_ 29 :: u_ 30 :: u_ 31 :: u_ 32 :: u_ 33 :: u_ 34 :: u_ 35 :: u_ 36 :: u_ 37 :: u_ 38 :: u_ 39 :: u_ 40 :: u_ 41 :: u_ 42 :: u_ 43 :: u_ 44 :: u_ 45 :: u_ 46 :: u_ 47 :: u_ 48 :: u_ 49 :: u_ 50 :: u_ 51 :: u_ 52 :: u_ 53 :: u_ 54 :: u_ 55 :: u_ 56 :: u_ 57 :: u_ 58 :: u_ 59 :: u_ 60 :: u_ 61 :: u_ 62 :: u_ 63 :: u_ 64 :: u_ 65 :: u_ 66 :: u_ 67 :: u_ 68 :: u_ 69 :: u_ 70 :: u_ 71 :: u_ 72 :: u_ 73 :: u_ 74 :: u_ 75 :: u_ 76 :: u_ 77 :: u_ 78 :: u_ 79 :: undef :: undef :: undef :: undef :: undef :: undef :: undef :: undef :: undef :: undef :: undef :: undef :: undef :: undef :: undef :: undef :: undef :: undef :: undef :: undef :: undef :: undef :: undef :: undef :: undef :: undef :: undef :: undef :: undef :: undef :: undef :: undef :: undef :: undef :: undef :: undef :: undef :: undef :: undef :: undef :: undef :: undef :: undef :: []).toArray, []⟩) (fun w_ => Below w.heap.size w w_) ?rest ?cond
    case cond =>
      intro K hK
      by_cases he : e = 0
      · subst he
        have heI : ((0 : Int) == 0) = true := rfl
        by_cases hb : b = -2147483648
        · subst hb
          go_wp2_with (fail)
          refine (Add_calls n 2147483648 _ 0 10 add_least).mono ?_
          rintro e w5 ⟨rfl, hb⟩
          have HB5 := Aside0.mk (below_step HB4.out hb)
          clear hb
          go_wp2
          exact hK.out _ _ rfl HB5.out
        · have hbN : (b != -2147483648) = true := by rw [bne_iff_ne]; exact hb
          have hbI : (b == -2147483648) = false := by rw [beq_eq_false_iff_ne]; exact hb
          have HBk := Aside0.mk (add_back H1.out hb)
          obtain ⟨hb8, hb9⟩ := inR_true (add_ok H1.out).2.2.1
          have haI : (a != a) = false := by simp
          go_wp2_with (fail)
          refine (Add_calls n (-b) _ a 0 HBk.out).mono ?_
          rintro e w5 ⟨rfl, hb⟩
          have HB5 := Aside0.mk (below_step HB4.out hb)
          clear hb
          go_wp2
          exact hK.out _ _ rfl HB5.out
      · have heI : (e == 0) = false := by rw [beq_eq_false_iff_ne]; exact he
        clear he
        go_wp2
        exact hK.out _ _ rfl HB4.out
    case rest =>
      rintro u_ w5 hb
      show Code.wp _ _ _ _ _
      have HB5 := Aside0.mk hb
      clear hb
      by_cases hg : g = 0
      · subst hg
        by_cases hb : b = 0
        · subst hb
          go_wp2_with (fail)
          have HL_ := Aside0.mk (HL.out.below HB5.out)
          refine (awake06_calls _ HL_.out).mono ?_
          rintro e w6 ⟨rfl, hb⟩
          have HB6 := Aside0.mk (below_step HB5.out hb)
          clear hb
          go_wp2_with (fail)
          go_ret
          exact ⟨rfl, HB6.out⟩
        · have hbI : (b == 0) = false := by rw [beq_eq_false_iff_ne]; exact hb
          obtain ⟨⟨x, i⟩, h⟩ : ∃ r, divV p b = r := ⟨_, rfl⟩
          have H5 := Aside0.mk h
          have HBz := Aside0.mk hb
          clear hb
          by_cases hi : i = 17
          · subst hi
            clear h
            go_wp2_with (fail)
            refine (Div_calls p b _ x 17 H5.out).mono ?_
            rintro e w6 ⟨rfl, hb⟩
            have HB6 := Aside0.mk (below_step HB5.out hb)
            clear hb
            go_wp2_with (fail)
            have HL_ := Aside0.mk (HL.out.below HB6.out)
            refine (awake06_calls _ HL_.out).mono ?_
            rintro e w7 ⟨rfl, hb⟩
            have HB7 := Aside0.mk (below_step HB6.out hb)
            clear hb
            go_wp2_with (fail)
            go_ret
            exact ⟨rfl, HB7.out⟩
          · have hi0 : i = 0 := by
              obtain ⟨_, ra, rb, rp⟩ := mul_ok H3.out
              rw [(mul_ok H3.out).1] at h
              unfold divV at h
              rw [if_pos ⟨rp, rb⟩, if_neg HBz.out] at h
              unfold toldV at h
              split at h
              · simp at h; exact h.2.symm
              · simp at h; exact absurd h.2.symm hi
            subst hi0
            clear h hi
            have hbr := inR_true (mul_ok H3.out).2.2.1
            obtain ⟨hb1, hb2⟩ := hbr
            have hxr := inR_true (show inR x = true by rw [(div_ok H5.out).2.1]; exact (div_ok H5.out).2.2.2.2)
            obtain ⟨hx1, hx2⟩ := hxr
            have har := inR_true (mul_ok H3.out).2.1
            obtain ⟨ha1, ha2⟩ := har
            rcases Int.lt_or_le b 0 with hs | hs
            · have hn := div_near H3.out H5.out (-b) (by rw [if_pos hs])
              have hb0 : 0 < -b := by omega
              have hq0 : 0 ≤ 32768 / (-b) := Int.ediv_nonneg (by decide) (by omega)
              have hq1 : 32768 / (-b) ≤ 32768 := Int.ediv_le_self _ (by decide)
              have hdt : Int.tdiv 32768 b = -(32768 / (-b)) := by rw [← Int.neg_neg b, Int.tdiv_neg, Int.tdiv_eq_ediv_of_nonneg (by decide), Int.neg_neg]
              obtain ⟨d, hd⟩ : ∃ d, Int.tdiv 32768 b = d := ⟨_, rfl⟩
              rw [hd] at hdt
              obtain ⟨hn1, hn2⟩ := hn
              have hD1 : decide (x - a ≤ -d + 1) = true := by simp; omega
              have hD2 : decide (a - x ≤ -d + 1) = true := by simp; omega
              have hd0 : d ≤ 0 := by omega
              have hd1 : -32768 ≤ d := by omega
              clear hdt hq0 hq1
              go_wp2_with (fail)
              refine (Div_calls p b _ x 0 H5.out).mono ?_
              rintro e w6 ⟨rfl, hb⟩
              have HB6 := Aside0.mk (below_step HB5.out hb)
              clear hb
              go_wp2_with (fail)
              have HL_ := Aside0.mk (HL.out.below HB6.out)
              refine (awake06_calls _ HL_.out).mono ?_
              rintro e w7 ⟨rfl, hb⟩
              have HB7 := Aside0.mk (below_step HB6.out hb)
              clear hb
              go_wp2_with (fail)
              go_ret
              exact ⟨rfl, HB7.out⟩
            · have hn := div_near H3.out H5.out b (by rw [if_neg (by omega)])
              have hb0 : 0 < b := by have := HBz.out; omega
              have hq0 : 0 ≤ 32768 / b := Int.ediv_nonneg (by decide) (by omega)
              have hq1 : 32768 / b ≤ 32768 := Int.ediv_le_self _ (by decide)
              obtain ⟨d, hd⟩ : ∃ d, 32768 / b = d := ⟨_, rfl⟩
              rw [hd] at hn hq0 hq1
              obtain ⟨hn1, hn2⟩ := hn
              have hD1 : decide (x - a ≤ d + 1) = true := by simpa using hn1
              have hD2 : decide (a - x ≤ d + 1) = true := by simpa using hn2
              have hzI : (b == 0) = false := by rw [beq_eq_false_iff_ne]; omega
              go_wp2_with (fail)
              refine (Div_calls p b _ x 0 H5.out).mono ?_
              rintro e w6 ⟨rfl, hb⟩
              have HB6 := Aside0.mk (below_step HB5.out hb)
              clear hb
              go_wp2_with (fail)
              have HL_ := Aside0.mk (HL.out.below HB6.out)
              refine (awake06_calls _ HL_.out).mono ?_
              rintro e w7 ⟨rfl, hb⟩
              have HB7 := Aside0.mk (below_step HB6.out hb)
              clear hb
              go_wp2_with (fail)
              go_ret
              exact ⟨rfl, HB7.out⟩
      · have hgI : (g != 0) = true := by rw [bne_iff_ne]; exact hg
        have hgI2 : (g == 0) = false := by rw [beq_eq_false_iff_ne]; exact hg
        clear hg
        go_wp2_with (fail)
        have HL_ := Aside0.mk (HL.out.below HB5.out)
        refine (awake06_calls _ HL_.out).mono ?_
        rintro e w6 ⟨rfl, hb⟩
        have HB6 := Aside0.mk (below_step HB5.out hb)
        clear hb
        go_wp2_with (fail)
        go_ret
        exact ⟨rfl, HB6.out⟩
end Go.Proofs.YtjlnjknmiojfoaaDoor.Fixed
