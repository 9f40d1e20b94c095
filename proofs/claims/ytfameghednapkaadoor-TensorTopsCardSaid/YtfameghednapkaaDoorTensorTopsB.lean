/- TensorTops: the law's walk. -/
import Derived.Test.YtfameghednapkaaDoorRTopB
import Derived.Test.YtfameghednapkaaDoorMostB
import Derived.Test.YtfameghednapkaaDoorRCheckB
import Derived.Test.YtfameghednapkaaDoorBunT3
namespace Go.Proofs.YtfameghednapkaaDoor.Ten
open Go.RowKit Go.Proofs.YtfameghednapkaaDoorW.PrintWords Go.Proofs.YtfameghednapkaaDoorW.PrintLast Go.Proofs.YtfameghednapkaaDoorW.PrintMore Go.Proofs.YtfameghednapkaaDoor.K Go.Proofs.YtfameghednapkaaDoor.RI Go.Proofs.YtfameghednapkaaDoor.Fixed Go.Proofs.YtfameghednapkaaDoor.Top
set_option linter.unusedVariables false
set_option linter.unusedSimpArgs false
set_option maxHeartbeats 16000000 in
set_option maxRecDepth 100000 in
theorem tops_calls (A : Option Addr) (c : Nat) (v : List Int) (k : Int) (w : World) (hC : Kd.C (Kd.int .i64) w A v.length v) (hL : LaidAt w 0 stepsA) :
    Calls Tryd.prog 4 #[.slice A v.length c, .int .i64 k] w fun e w' => e = .returned (.bool true) ∧ Below w.heap.size w w' := by
  have HL := Aside0.mk hL
  have HC := Aside0.mk hC
  have hm1 := hC.2.1
  have HB0 : Aside0 (Below w.heap.size w w) := ⟨Below.refl _ _⟩
  clear hC hL
  by_cases h1 : 600 < v.length
  · have d1 : decide (600 < (v.length : Int)) = true := by simp; omega
    clear h1
    go_enter Tryd.func4, Tryd.ntmps4
    go_wp2_with (fail)
    refine (awake07_calls w (HL.out.below HB0.out)).mono ?_
    rintro e wz ⟨rfl, hb⟩
    have HBz := Aside0.mk (below_step HB0.out hb)
    clear hb
    go_wp2_with (fail)
    go_ret
    exact ⟨rfl, HBz.out⟩
  · have d1 : decide (600 < (v.length : Int)) = false := by simp; omega
    by_cases hz : checkV v = 0
    · have HZ := Aside0.mk hz
      have hlen := check_len hz
      have HLn : Aside0 (1 ≤ v.length ∧ v.length ≤ 512 ∧ v.length ≤ 1000000) := ⟨by omega⟩
      have HT1 : Aside0 (((ordL v).take 1).getD 0 0 = mostV v) := ⟨by
        unfold mostV
        rw [List.getD_eq_getElem?_getD, List.getElem?_take, if_pos (by omega), List.getD_eq_getElem?_getD]⟩
      clear hz h1
      by_cases hk1 : k < 1
      · have dk : decide (k < 1) = true := by simpa using hk1
        have HTop := Aside0.mk (top_range_calls A c v k w HC.out HZ.out (.inl hk1))
        clear hk1 hlen
        go_enter Tryd.func4, Tryd.ntmps4
        go_wp2_with (fail)
        refine HTop.out.mono ?_
        rintro e w1 ⟨rfl, hb⟩
        have HB1 := Aside0.mk hb
        clear hb
        go_wp2_with (fail)
        refine (most_ok_calls A c v w1 (Kd.C_below HC.out HB1.out) HZ.out).mono ?_
        rintro e w2 ⟨rfl, hb⟩
        have HB2 := Aside0.mk (below_step HB1.out hb)
        have HD2 := Aside0.mk hb
        clear hb
        go_wp2_with (fail)
        refine (rcheck_calls A c v w2 (Kd.C_below HC.out HB2.out)).mono ?_
        rw [HZ.out]
        rintro e w3 ⟨rfl, hb⟩
        have HB3 := Aside0.mk (below_step HB2.out hb)
        have HD3 := Aside0.mk (below_step HD2.out hb)
        clear hb
        go_wp2_with (fail)
        refine (rtop_calls A c 1 v w3 (Kd.C_below HC.out HB3.out) HLn.out.2.2 HLn.out.1 HLn.out.1).mono ?_
        rintro e w4 ⟨A4, c4, rfl, hC4, hb⟩
        have HB4 := Aside0.mk (below_step HB3.out hb)
        have HD4 := Aside0.mk (below_step HD3.out hb)
        obtain ⟨ad, rfl, hx⟩ := int_at hC4 0 (by decide)
        rw [show ((ordL v).take 1).getD 0 0 = mostV v from HT1.out, show ad.add 0 = ad by cases ad; simp [Addr.add]] at hx
        have dmm : (mostV v == mostV v) = true := by simp
        have dmn : (mostV v != mostV v) = false := by simp
        generalize mostV v = mv at *
        clear hb hC4
        go_wp2_with (fail)
        refine (awake07_calls w4 (HL.out.below HB4.out)).mono ?_
        rintro e wz ⟨rfl, hb⟩
        have HBz := Aside0.mk (below_step HB4.out hb)
        clear hb
        go_wp2_with (fail)
        go_ret
        exact ⟨rfl, HBz.out⟩
      · have dk : decide (k < 1) = false := by simpa using hk1
        by_cases hk2 : (v.length : Int) < k
        · have dk2 : decide ((v.length : Int) < k) = true := by simpa using hk2
          have HTop := Aside0.mk (top_range_calls A c v k w HC.out HZ.out (.inr hk2))
          clear hk1 hk2 hlen
          go_enter Tryd.func4, Tryd.ntmps4
          go_wp2_with (fail)
          refine HTop.out.mono ?_
          rintro e w1 ⟨rfl, hb⟩
          have HB1 := Aside0.mk hb
          clear hb
          go_wp2_with (fail)
          refine (most_ok_calls A c v w1 (Kd.C_below HC.out HB1.out) HZ.out).mono ?_
          rintro e w2 ⟨rfl, hb⟩
          have HB2 := Aside0.mk (below_step HB1.out hb)
          have HD2 := Aside0.mk hb
          clear hb
          go_wp2_with (fail)
          refine (rcheck_calls A c v w2 (Kd.C_below HC.out HB2.out)).mono ?_
          rw [HZ.out]
          rintro e w3 ⟨rfl, hb⟩
          have HB3 := Aside0.mk (below_step HB2.out hb)
          have HD3 := Aside0.mk (below_step HD2.out hb)
          clear hb
          go_wp2_with (fail)
          refine (rtop_calls A c 1 v w3 (Kd.C_below HC.out HB3.out) HLn.out.2.2 HLn.out.1 HLn.out.1).mono ?_
          rintro e w4 ⟨A4, c4, rfl, hC4, hb⟩
          have HB4 := Aside0.mk (below_step HB3.out hb)
          have HD4 := Aside0.mk (below_step HD3.out hb)
          obtain ⟨ad, rfl, hx⟩ := int_at hC4 0 (by decide)
          rw [show ((ordL v).take 1).getD 0 0 = mostV v from HT1.out, show ad.add 0 = ad by cases ad; simp [Addr.add]] at hx
          have dmm : (mostV v == mostV v) = true := by simp
          have dmn : (mostV v != mostV v) = false := by simp
          generalize mostV v = mv at *
          clear hb hC4
          go_wp2_with (fail)
          refine (awake07_calls w4 (HL.out.below HB4.out)).mono ?_
          rintro e wz ⟨rfl, hb⟩
          have HBz := Aside0.mk (below_step HB4.out hb)
          clear hb
          go_wp2_with (fail)
          go_ret
          exact ⟨rfl, HBz.out⟩
        · obtain ⟨n, rfl⟩ : ∃ n : Nat, k = (n : Int) := ⟨k.toNat, by omega⟩
          have dk2 : decide ((v.length : Int) < (n : Int)) = false := by simpa using hk2
          have dk3 : decide (v.length < n) = false := by simp; omega
          have HKn : Aside0 (1 ≤ n ∧ n ≤ v.length) := ⟨by omega⟩
          have HTop := Aside0.mk (top_all_calls A c n v w HC.out HZ.out (by omega) (by omega))
          clear hk1 hk2 hlen
          go_enter Tryd.func4, Tryd.ntmps4
          go_wp2_with (fail)
          refine HTop.out.mono ?_
          rintro e w1 ⟨A1, c1, rfl, hQ, hb⟩
          have HB1 := Aside0.mk hb
          obtain ⟨A3, c3, he, _, hC3⟩ := Kd.Q_reads hQ
          have hln : ((ordL v).take n).length = n := by rw [List.length_take, ordL_length]; have := HKn.out; omega
          have HT3 : Aside0 (Kd.C (Kd.int .i64) w1 A1 n ((ordL v).take n)) := ⟨by
            rw [hln] at hC3 he
            obtain rfl : A1 = A3 := by injection he
            exact hC3⟩
          clear hb hQ he hC3 hln
          go_wp2_with (fail)
          refine (most_ok_calls A c v w1 (Kd.C_below HC.out HB1.out) HZ.out).mono ?_
          rintro e w2 ⟨rfl, hb⟩
          have HB2 := Aside0.mk (below_step HB1.out hb)
          have HD2 := Aside0.mk hb
          clear hb
          go_wp2_with (fail)
          refine (rcheck_calls A c v w2 (Kd.C_below HC.out HB2.out)).mono ?_
          rw [HZ.out]
          rintro e w3 ⟨rfl, hb⟩
          have HB3 := Aside0.mk (below_step HB2.out hb)
          have HD3 := Aside0.mk (below_step HD2.out hb)
          clear hb
          go_wp2_with (fail)
          refine (rtop_calls A c 1 v w3 (Kd.C_below HC.out HB3.out) HLn.out.2.2 HLn.out.1 HLn.out.1).mono ?_
          rintro e w4 ⟨A4, c4, rfl, hC4, hb⟩
          have HB4 := Aside0.mk (below_step HB3.out hb)
          have HD4 := Aside0.mk (below_step HD3.out hb)
          obtain ⟨ad, rfl, hx⟩ := int_at hC4 0 (by decide)
          rw [show ((ordL v).take 1).getD 0 0 = mostV v from HT1.out, show ad.add 0 = ad by cases ad; simp [Addr.add]] at hx
          have dmm : (mostV v == mostV v) = true := by simp
          have dmn : (mostV v != mostV v) = false := by simp
          generalize mostV v = mv at *
          clear hb hC4
          go_wp2_with (fail)
          refine (rtop_calls A c n v w4 (Kd.C_below HC.out HB4.out) HLn.out.2.2 HLn.out.1 HKn.out.2).mono ?_
          rintro e w5 ⟨A5, c5, rfl, hC5, hb⟩
          have HB5 := Aside0.mk (below_step HB4.out hb)
          have HC5 := Aside0.mk hC5
          have HT5 := Aside0.mk (Kd.C_below HT3.out (below_step HD4.out hb))
          clear hb hC5
          go_wp2_with (fail)
          refine (Law.ints_n A1 n c1 ((ordL v).take n) A5 n c5 ((ordL v).take n) w5 HT5.out HC5.out true (by simp)).mono ?_
          rintro e w6 ⟨rfl, hd⟩
          have HB6 := Aside0.mk (below_step HB5.out hd.below)
          clear hd
          go_wp2_with (fail)
          refine (awake07_calls w6 (HL.out.below HB6.out)).mono ?_
          rintro e wz ⟨rfl, hb⟩
          have HBz := Aside0.mk (below_step HB6.out hb)
          clear hb
          go_wp2_with (fail)
          go_ret
          exact ⟨rfl, HBz.out⟩
    · have HNz := Aside0.mk hz
      obtain ⟨z, hze⟩ : ∃ z, z = checkV v := ⟨_, rfl⟩
      have dz : (z != 0) = true := by rw [hze]; simpa using hz
      have dz2 : (z == z) = true := by simp
      have HZe := Aside0.mk hze
      clear hz hze h1
      go_enter Tryd.func4, Tryd.ntmps4
      go_wp2_with (fail)
      refine (top_bad_calls A c v k w HC.out HNz.out).mono ?_
      rw [← HZe.out]
      rintro e w1 ⟨rfl, hb⟩
      have HB1 := Aside0.mk hb
      clear hb
      go_wp2_with (fail)
      refine (most_bad_calls A c v w1 (Kd.C_below HC.out HB1.out) HNz.out).mono ?_
      rw [← HZe.out]
      rintro e w2 ⟨rfl, hb⟩
      have HB2 := Aside0.mk (below_step HB1.out hb)
      clear hb
      go_wp2_with (fail)
      refine (rcheck_calls A c v w2 (Kd.C_below HC.out HB2.out)).mono ?_
      rw [← HZe.out]
      rintro e w3 ⟨rfl, hb⟩
      have HB3 := Aside0.mk (below_step HB2.out hb)
      clear hb
      go_wp2_with (fail)
      refine (awake07_calls w3 (HL.out.below HB3.out)).mono ?_
      rintro e wz ⟨rfl, hb⟩
      have HBz := Aside0.mk (below_step HB3.out hb)
      clear hb
      go_wp2_with (fail)
      go_ret
      exact ⟨rfl, HBz.out⟩
theorem tops_n (A : Option Addr) (n c : Nat) (v : List Int) (k : Int) (w : World) (hC : Kd.C (Kd.int .i64) w A n v) (hL : LaidAt w 0 stepsA) :
    Calls Tryd.prog 4 #[.slice A n c, .int .i64 k] w fun e w' => e = .returned (.bool true) ∧ Below w.heap.size w w' := by
  obtain rfl := hC.1
  exact tops_calls A c v k w hC hL
end Go.Proofs.YtfameghednapkaaDoor.Ten
