/- TensorWhole: the law's walk. -/
import Derived.Test.YtfameghednapkaaDoorWholePB
import Derived.Test.YtfameghednapkaaDoorBunT3
namespace Go.Proofs.YtfameghednapkaaDoor.Ten
open Go.RowKit Go.Proofs.YtfameghednapkaaDoorW.PrintWords Go.Proofs.YtfameghednapkaaDoorW.PrintLast Go.Proofs.YtfameghednapkaaDoorW.PrintMore Go.Proofs.YtfameghednapkaaDoor.K Go.Proofs.YtfameghednapkaaDoor.RI Go.Proofs.YtfameghednapkaaDoor.Fixed Go.Proofs.YtfameghednapkaaDoor.Top
set_option linter.unusedVariables false
set_option linter.unusedSimpArgs false
set_option maxHeartbeats 16000000 in
set_option maxRecDepth 100000 in
theorem whole_calls (A : Option Addr) (c : Nat) (v : List Int) (more : Int) (w : World) (hC : Kd.C (Kd.int .i64) w A v.length v) (hL : LaidAt w 0 stepsA) :
    Calls Tryd.prog 5 #[.slice A v.length c, .int .i64 more] w fun e w' => e = .returned (.bool true) ∧ Below w.heap.size w w' := by
  have HL := Aside0.mk hL
  have HC := Aside0.mk hC
  have hm1 := hC.2.1
  clear hC hL
  by_cases h1 : 600 < v.length
  · have d1 : decide (600 < (v.length : Int)) = true := by simp; omega
    clear h1
    go_enter Tryd.func5, Tryd.ntmps5
    go_wp2_with (fail)
    refine (awake07_calls w HL.out).mono ?_
    rintro e wz ⟨rfl, hb⟩
    have HBz := Aside0.mk hb
    clear hb
    go_wp2_with (fail)
    go_ret
    exact ⟨rfl, HBz.out⟩
  · have d1 : decide (600 < (v.length : Int)) = false := by simp; omega
    have HLn : Aside0 (v.length ≤ 600) := ⟨by omega⟩
    clear h1
    by_cases hz : checkV v = 0
    · have HZ := Aside0.mk hz
      have hlen := check_len hz
      clear hz
      go_enter Tryd.func5, Tryd.ntmps5
      go_wp2_with (fail)
      refine (softmax_ok_calls A c v w HC.out HL.out HZ.out).mono ?_
      rintro e w1 ⟨As, cs, rfl, hr, hb⟩
      have HB1 := Aside0.mk hb
      have HS1 : Aside0 (Kd.C (Kd.int .i64) w1 As v.length (softV v)) := ⟨by have h := (Kd.R_reads' hr).2.2; rwa [softV_length] at h⟩
      have HSb : Aside0 (∀ i, i < v.length → 0 ≤ (softV v).getD i 0 ∧ (softV v).getD i 0 ≤ 65536) := ⟨fun i hi => softV_bd hi⟩
      have HSl : Aside0 ((softV v).length = v.length) := ⟨softV_length v⟩
      have HSf := Aside0.mk (soft_facts hlen.1)
      obtain ⟨s, hs⟩ : ∃ s, s = softV v := ⟨_, rfl⟩
      rw [← hs] at HS1 HSb HSl HSf
      have HSe := Aside0.mk hs
      have HLen := Aside0.mk hlen
      clear hr hb hs d1 hlen
      go_wp2_with (fail)
      go_loop [7, 8] (fun t i => ∃ k : Nat, k ≤ v.length ∧ i = .int .i64 (k : Int) ∧ t = .int .i64 (sumV (s.take k))) (fun _ i => v.length - (intOf i).toNat)
      case atStart => exact ⟨0, Nat.zero_le _, rfl, rfl⟩
      case round =>
        obtain ⟨k, hk, rfl, rfl⟩ := hrel
        by_cases hlt : k < v.length
        · obtain ⟨ad, rfl, hx⟩ := int_at HS1.out k hlt
          have hxb := HSb.out k hlt
          have hsu := sumV_take_succ s k (by rw [HSl.out]; exact hlt)
          have hbd := sumV_take_bd (l := s) (fun i hi => HSb.out i (by rw [HSl.out] at hi; exact hi)) k (by rw [HSl.out]; exact hk)
          obtain ⟨x, hxe⟩ : ∃ x, x = s.getD k 0 := ⟨_, rfl⟩
          rw [← hxe] at hx hxb hsu
          obtain ⟨q, hq⟩ : ∃ q, q = sumV (s.take (k + 1)) := ⟨_, rfl⟩
          have hkl := HLn.out
          have d2 : decide (x < 0) = false := by simp; omega
          have d3 : decide (65536 < x) = false := by simp; omega
          have hwq : IntKind.i64.wrap (sumV (s.take k) + x) = q := by rw [hq, hsu, IntKind.wrap_i64]; omega
          have hwk : IntKind.i64.wrap ((k : Int) + 1) = (k : Int) + 1 := by rw [IntKind.wrap_i64]; omega
          have HQ := Aside0.mk hq
          generalize sumV (s.take k) = p at *
          clear hxb hsu hbd hxe hq hkl
          go_wp2
          go_round
          case rel => exact ⟨k + 1, by omega, by go_num, by rw [HQ.out]⟩
          case measure => simp [intOf]; omega
        · obtain rfl : k = v.length := by omega
          have hsf := HSf.out
          have e1 : s.take v.length = s := by rw [← HSl.out, List.take_length]
          rw [e1]
          have hkl := HLn.out
          obtain ⟨t, ht⟩ : ∃ t, t = sumV s := ⟨_, rfl⟩
          rw [← ht] at hsf ⊢
          have d2 : decide (65536 < t) = false := by simp; omega
          have hw0 : IntKind.i64.wrap (65536 - (v.length : Int)) = 65536 - (v.length : Int) := by rw [IntKind.wrap_i64]; omega
          have d3 : decide (t ≤ 65536 - (v.length : Int)) = false := by simp; omega
          clear hsf e1 hkl ht hlt
          go_wp2_with (fail)
          refine (most_ok_calls A c v w1 (Kd.C_below HC.out HB1.out) HZ.out).mono ?_
          rintro e w2 ⟨rfl, hb⟩
          have HB2 := Aside0.mk (below_step HB1.out hb)
          have HS2 := Aside0.mk (Kd.C_below HS1.out hb)
          obtain ⟨j, hj, hjm, hmax⟩ := mostV_spec HLen.out.1
          rw [hjm]
          have HJ := Aside0.mk (And.intro hj hmax)
          clear hb hjm hmax d2 d3 hw0
          go_wp2_with (fail)
          go_loopw [11] (fun i wr => ∃ k : Nat, k ≤ v.length ∧ i = .int .i64 (k : Int) ∧ Aside0 (Drawn0 w2 wr)) (fun i _ => v.length - (intOf i).toNat)
          case atStart => exact ⟨0, Nat.zero_le _, rfl, ⟨⟨0, rfl⟩⟩⟩
          case round =>
            obtain ⟨k, hk, rfl, HD⟩ := hrel
            obtain ⟨⟨nd, rfl⟩⟩ := HD.out
            by_cases hlt : k < v.length
            · obtain ⟨ads, rfl, hsk⟩ := int_at HS2.out k hlt
              obtain ⟨_, he, hsj⟩ := int_at HS2.out j hj
              cases he
              obtain ⟨adv, rfl, hvk⟩ := int_at (Kd.C_below HC.out HB2.out) k hlt
              obtain ⟨_, he, hvj⟩ := int_at (Kd.C_below HC.out HB2.out) j hj
              cases he
              have hle : s.getD k 0 ≤ s.getD j 0 := by rw [HSe.out]; exact soft_most hlt hj HJ.out.2
              have hsame : v.getD k 0 = v.getD j 0 → s.getD k 0 = s.getD j 0 := fun h => by rw [HSe.out]; exact soft_same hlt hj h
              have hwk : IntKind.i64.wrap ((k : Int) + 1) = (k : Int) + 1 := by have := HLn.out; rw [IntKind.wrap_i64]; omega
              obtain ⟨a, ha⟩ : ∃ a, a = s.getD k 0 := ⟨_, rfl⟩
              obtain ⟨b, hb⟩ : ∃ a, a = s.getD j 0 := ⟨_, rfl⟩
              obtain ⟨x, hx⟩ : ∃ a, a = v.getD k 0 := ⟨_, rfl⟩
              obtain ⟨y, hy⟩ : ∃ a, a = v.getD j 0 := ⟨_, rfl⟩
              rw [← ha] at hsk hle hsame
              rw [← hb] at hsj hle hsame
              rw [← hx] at hvk hsame
              rw [← hy] at hvj hsame
              have d2 : decide (b < a) = false := by simp; omega
              by_cases hxy : x = y
              · have e1 := hsame hxy
                subst e1
                subst hxy
                have d4 : (x == x) = true := by simp
                have d5 : (a != a) = false := by simp
                clear hle hsame ha hb hx hy
                go_wp2_with (fail)
                go_quiet (fail)
                go_wp2
                go_roundw
                case rel => exact ⟨k + 1, by omega, by go_num, ⟨by first | exact ⟨⟨_, rfl⟩⟩ | exact ⟨⟨_, World.drewN_drewN _ _ _⟩⟩⟩⟩
                case measure => simp [intOf]; omega
              · have d4 : (x == y) = false := by simpa using hxy
                clear hle hsame ha hb hx hy hxy
                go_wp2_with (fail)
                go_quiet (fail)
                go_wp2
                go_roundw
                case rel => exact ⟨k + 1, by omega, by go_num, ⟨by first | exact ⟨⟨_, rfl⟩⟩ | exact ⟨⟨_, World.drewN_drewN _ _ _⟩⟩⟩⟩
                case measure => simp [intOf]; omega
            · obtain rfl : k = v.length := by omega
              have HB3 : Aside0 (Below w.heap.size w (w2.drewN nd)) := ⟨pw_below_drewN HB2.out nd⟩
              have HS3 := Aside0.mk (Kd.C_drewN HS2.out nd)
              clear HD hlt
              generalize w2.drewN nd = w3 at *
              by_cases hm2 : more < -4294967296
              · have d2 : decide (more < -4294967296) = true := by simpa using hm2
                clear hm2
                go_wp2_with (fail)
                refine (awake07_calls w3 (HL.out.below HB3.out)).mono ?_
                rintro e wz ⟨rfl, hb⟩
                have HBz := Aside0.mk (below_step HB3.out hb)
                clear hb
                go_wp2_with (fail)
                go_ret
                exact ⟨rfl, HBz.out⟩
              · have d2 : decide (more < -4294967296) = false := by simpa using hm2
                by_cases hm3 : 4294967296 < more
                · have d3 : decide (4294967296 < more) = true := by simpa using hm3
                  clear hm2 hm3
                  go_wp2_with (fail)
                  refine (awake07_calls w3 (HL.out.below HB3.out)).mono ?_
                  rintro e wz ⟨rfl, hb⟩
                  have HBz := Aside0.mk (below_step HB3.out hb)
                  clear hb
                  go_wp2_with (fail)
                  go_ret
                  exact ⟨rfl, HBz.out⟩
                · have d3 : decide (4294967296 < more) = false := by simpa using hm3
                  have HM3 : Aside0 (-4294967296 ≤ more ∧ more ≤ 4294967296) := ⟨by omega⟩
                  have HML : Aside0 ((moreV v more).length = v.length) := ⟨moreV_length v more⟩
                  clear hm2 hm3
                  go_wp2_with (fail)
                  clear d2 d3
                  go_loopw [12, 13] (fun o i wr => ∃ k : Nat, k ≤ v.length ∧ i = .int .i64 (k : Int) ∧ Aside0 (wr.ownsRow w3.heap.size 3 1 o ((moreV v more).take k).length (nums .i64 ((moreV v more).take k)) ∧ Below w3.heap.size w3 wr)) (fun _ i _ => v.length - (intOf i).toNat)
                  case atStart => exact ⟨0, Nat.zero_le _, rfl, ⟨own_nil _ _ _ _, Below.refl _ _⟩⟩
                  case round =>
                    obtain ⟨k, hk, rfl, HO⟩ := hrel
                    by_cases hlt : k < v.length
                    · obtain ⟨A5, c5, rfl⟩ := own_slice HO.out.1
                      obtain ⟨ad, rfl, hx⟩ := int_at (Kd.C_below HC.out (below_step HB3.out HO.out.2)) k hlt
                      have hxr := getD_r (check_inR HZ.out) k
                      have hmr := HM3.out
                      have hwk : IntKind.i64.wrap ((k : Int) + 1) = (k : Int) + 1 := by have := HLn.out; rw [IntKind.wrap_i64]; omega
                      have HX := Aside0.mk (moreV_succ v more k hlt)
                      have HXl : Aside0 (((moreV v more).take k).length ≤ 600) := ⟨by have := HLn.out; rw [List.length_take]; omega⟩
                      obtain ⟨x, hxe⟩ : ∃ x, x = v.getD k 0 := ⟨_, rfl⟩
                      rw [← hxe] at hx hxr HX
                      obtain ⟨y, hy⟩ : ∃ y, y = x + more := ⟨_, rfl⟩
                      have hwx : IntKind.i64.wrap (x + more) = y := by rw [hy, IntKind.wrap_i64]; omega
                      rw [← hy] at HX
                      obtain ⟨es, hes⟩ : ∃ es, es = (moreV v more).take k := ⟨_, rfl⟩
                      have HO4 : Aside0 (wr.ownsRow w3.heap.size 3 1 (.slice A5 es.length c5) es.length (nums .i64 es) ∧ Below w3.heap.size w3 wr) := ⟨by rw [hes]; exact HO.out⟩
                      rw [← hes] at HX HXl ⊢
                      clear hxe hy hxr hmr hes HO
                      go_wp2_with (at_builtin; refine print_append_num (w0 := w3) w3.heap.size rfl (.tmp 130) (.tmp 137) 22 3 .i64 8 rfl Tryd.underlying22 Fixed.info_int (by decide) _ es _ rfl rfl HO4.out.1 HO4.out.2 HO4.out.2.size ?_ ?_; rotate_left; intro v1 w4 hown hbw hgr hat; have HA := Aside0.mk (And.intro hown hbw); clear hown hbw hgr hat)
                      · refine ⟨⟨k + 1, by omega, by go_num, ⟨by rw [HX.out]; exact HA.out.1, HA.out.2⟩⟩, by simp [intOf]; omega⟩
                      · have := HXl.out
                        omega
                    · obtain rfl : k = v.length := by omega
                      obtain ⟨A5, c5, rfl⟩ := own_slice HO.out.1
                      have eT : (moreV v more).take v.length = moreV v more := by rw [← HML.out, List.take_length]
                      have HW5 : Aside0 (Kd.C (Kd.int .i64) wr A5 (moreV v more).length (moreV v more)) := ⟨by have h := own_C HO.out.1; rwa [eT] at h⟩
                      have HB5 := Aside0.mk (below_step HB3.out HO.out.2)
                      have HS5 := Aside0.mk (Kd.C_below HS3.out HO.out.2)
                      rw [eT]
                      have HMs : Aside0 (softV (moreV v more) = s) := ⟨by rw [soft_more more HLen.out.1, HSe.out]⟩
                      clear HO hlt eT
                      generalize moreV v more = u at *
                      by_cases hz2 : checkV u = 0
                      · have HZ2 := Aside0.mk hz2
                        clear hz2
                        go_wp2_with (fail)
                        refine (softmax_ok_calls A5 c5 u wr HW5.out (HL.out.below HB5.out) HZ2.out).mono ?_
                        rintro e w6 ⟨A6, c6, rfl, hr, hb⟩
                        have HB6 := Aside0.mk (below_step HB5.out hb)
                        have HS6 := Aside0.mk (Kd.C_below HS5.out hb)
                        have HT6 : Aside0 (Kd.C (Kd.int .i64) w6 A6 u.length s) := ⟨by have h := (Kd.R_reads' hr).2.2; rw [HMs.out, HSl.out, ← HML.out] at h; exact h⟩
                        clear hr hb
                        go_wp2_with (fail)
                        refine (Law.ints_n As v.length cs s A6 u.length c6 s w6 HS6.out HT6.out true (by simp)).mono ?_
                        rintro e w7 ⟨rfl, hd⟩
                        have HB7 := Aside0.mk (below_step HB6.out hd.below)
                        clear hd
                        go_wp2_with (fail)
                        refine (awake07_calls w7 (HL.out.below HB7.out)).mono ?_
                        rintro e wz ⟨rfl, hb⟩
                        have HBz := Aside0.mk (below_step HB7.out hb)
                        clear hb
                        go_wp2_with (fail)
                        go_ret
                        exact ⟨rfl, HBz.out⟩
                      · have HZ2 := Aside0.mk hz2
                        obtain ⟨z, hze⟩ : ∃ z, z = checkV u := ⟨_, rfl⟩
                        have dz : (z != 0) = true := by rw [hze]; simpa using hz2
                        have HZe := Aside0.mk hze
                        clear hz2 hze
                        go_wp2_with (fail)
                        refine (softmax_bad_calls A5 c5 u wr HW5.out HZ2.out).mono ?_
                        rw [← HZe.out]
                        rintro e w6 ⟨rfl, hb⟩
                        have HB6 := Aside0.mk (below_step HB5.out hb)
                        clear hb
                        go_wp2_with (fail)
                        refine (awake07_calls w6 (HL.out.below HB6.out)).mono ?_
                        rintro e wz ⟨rfl, hb⟩
                        have HBz := Aside0.mk (below_step HB6.out hb)
                        clear hb
                        go_wp2_with (fail)
                        go_ret
                        exact ⟨rfl, HBz.out⟩
    · have HNz := Aside0.mk hz
      obtain ⟨z, hze⟩ : ∃ z, z = checkV v := ⟨_, rfl⟩
      have dz : (z != 0) = true := by rw [hze]; simpa using hz
      have HZe := Aside0.mk hze
      clear hz hze
      go_enter Tryd.func5, Tryd.ntmps5
      go_wp2_with (fail)
      refine (softmax_bad_calls A c v w HC.out HNz.out).mono ?_
      rw [← HZe.out]
      rintro e w6 ⟨rfl, hb⟩
      have HB6 := Aside0.mk hb
      clear hb
      go_wp2_with (fail)
      refine (awake07_calls w6 (HL.out.below HB6.out)).mono ?_
      rintro e wz ⟨rfl, hb⟩
      have HBz := Aside0.mk (below_step HB6.out hb)
      clear hb
      go_wp2_with (fail)
      go_ret
      exact ⟨rfl, HBz.out⟩
theorem whole_n (A : Option Addr) (n c : Nat) (v : List Int) (more : Int) (w : World) (hC : Kd.C (Kd.int .i64) w A n v) (hL : LaidAt w 0 stepsA) :
    Calls Tryd.prog 5 #[.slice A n c, .int .i64 more] w fun e w' => e = .returned (.bool true) ∧ Below w.heap.size w w' := by
  obtain rfl := hC.1
  exact whole_calls A c v more w hC hL
end Go.Proofs.YtfameghednapkaaDoor.Ten
