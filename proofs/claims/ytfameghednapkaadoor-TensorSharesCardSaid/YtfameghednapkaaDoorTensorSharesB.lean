/- TensorShares: the law's walk. -/
import Derived.Test.YtfameghednapkaaDoorRMixB
import Derived.Test.YtfameghednapkaaDoorRSoft7B
import Derived.Test.YtfameghednapkaaDoorBunT3
namespace Go.Proofs.YtfameghednapkaaDoor.Ten
open Go.RowKit Go.Proofs.YtfameghednapkaaDoorW.PrintWords Go.Proofs.YtfameghednapkaaDoorW.PrintLast Go.Proofs.YtfameghednapkaaDoorW.PrintMore Go.Proofs.YtfameghednapkaaDoor.K Go.Proofs.YtfameghednapkaaDoor.RI Go.Proofs.YtfameghednapkaaDoor.Fixed
set_option linter.unusedVariables false
set_option linter.unusedSimpArgs false
set_option maxHeartbeats 4000000 in
set_option maxRecDepth 100000 in
theorem few7_calls (A : Option Addr) (c : Nat) (xs : List (List Int)) (w : World) (hx : Kd.C (Kd.slice 3 (Kd.int .i64)) w A xs.length xs) :
    Calls Tryd.prog 26 #[.slice A xs.length c] w fun e w' => ∃ b : Bool, e = .returned (.bool b) ∧ Drawn0 w w' := by
  have HX := Aside0.mk hx
  have hm := hx.2.1
  clear hx
  go_enter Tryd.func26, Tryd.ntmps26
  go_wp2
  go_loopw [3] (fun v3 w' => ∃ k : Nat, k ≤ xs.length ∧ v3 = .int .i64 k ∧ ∃ n, w' = w.drewN n) (fun v3 _ => xs.length - (intOf v3).toNat)
  case atStart => exact ⟨0, Nat.zero_le _, rfl, 0, rfl⟩
  case round =>
    obtain ⟨k, hk, rfl, nd, rfl⟩ := hrel
    by_cases hlt : k < xs.length
    · obtain ⟨ad, A1, c1, rfl, hx, hl1, hr1⟩ := row_at HX.out k hlt
      clear hl1
      have hm1 := hr1.2.1
      have hwk : IntKind.i64.wrap ((k : Int) + 1) = (k : Int) + 1 := by rw [IntKind.wrap_i64]; omega
      clear hr1
      generalize xs.getD k [] = x at *
      by_cases h7 : 600 < x.length
      · have h7I : decide (600 < (x.length : Int)) = true := by simp; omega
        have h7N : decide (600 < x.length) = true := by simp; omega
        clear h7
        go_wp2
        go_ret
        exact ⟨_, rfl, by first | exact ⟨_, rfl⟩ | exact ⟨_, World.drewN_drewN _ _ _⟩⟩
      · have h7I : decide (600 < (x.length : Int)) = false := by simp; omega
        have h7N : decide (600 < x.length) = false := by simp; omega
        clear h7
        go_wp2
        go_roundw
        case rel => exact ⟨k + 1, by omega, by go_num, _, rfl⟩
        case measure => simp [intOf]; omega
    · obtain rfl : k = xs.length := by omega
      go_wp2
      go_ret
      exact ⟨_, rfl, ⟨_, rfl⟩⟩
set_option maxHeartbeats 4000000 in
set_option maxRecDepth 100000 in
theorem same7_calls (A : Option Addr) (c : Nat) (xs : List Int) (A' : Option Addr) (c' : Nat) (z : Int) (w : World) (hx : Kd.C (Kd.int .i64) w A xs.length xs) (hy : Kd.C (Kd.int .i64) w A' xs.length xs) :
    Calls Tryd.prog 30 #[.slice A xs.length c, .int .i64 z, .slice A' xs.length c', .int .i64 z] w fun e w' => e = .returned (.bool true) ∧ Below w.heap.size w w' := by
  have HX := Aside0.mk hx
  have HY := Aside0.mk hy
  clear hx hy
  go_enter Tryd.func30, Tryd.ntmps30
  go_wp2_with (fail)
  refine (Law.ints_n A xs.length c xs A' xs.length c' xs w HX.out HY.out true (by simp)).mono ?_
  rintro e w1 ⟨rfl, hd⟩
  have HB := Aside0.mk hd.below
  clear hd
  go_wp2_with (fail)
  go_ret
  exact ⟨rfl, HB.out⟩
theorem listEnd_two {E : Int} {L : List Int} {w w' : World} {e : Ending} (h : ListEnd E L w e w') : ∃ A c xs, e = .returned (.tuple #[.slice A xs.length c, .int .i64 E]) ∧ Kd.C (Kd.int .i64) w' A xs.length xs ∧ (xs = if E = 0 then L else []) ∧ Below w.heap.size w w' := by
  by_cases hE : E = 0
  · obtain ⟨A, c, he, hC, _⟩ := h.2.1 hE
    exact ⟨A, c, L, by rw [he, hE], hC, by rw [if_pos hE], h.2.2⟩
  · exact ⟨none, 0, [], h.1 hE, own_C (own_nil _ w'.heap.size 3 1), by rw [if_neg hE], h.2.2⟩
set_option maxHeartbeats 8000000 in
set_option maxRecDepth 100000 in
theorem shares_calls (Av : Option Addr) (cv : Nat) (v : List Int) (As : Option Addr) (cs : Nat) (sh : List Int) (Al : Option Addr) (cl : Nat) (L : List (List Int)) (w : World)
    (hV : Kd.C (Kd.int .i64) w Av v.length v) (hS : Kd.C (Kd.int .i64) w As sh.length sh) (hLl : Kd.C (Kd.slice 3 (Kd.int .i64)) w Al L.length L) (hL : LaidAt w 0 stepsA) :
    Calls Tryd.prog 9 #[.slice Av v.length cv, .slice As sh.length cs, .slice Al L.length cl] w fun e w' => e = .returned (.bool true) ∧ Below w.heap.size w w' := by
  have HL := Aside0.mk hL
  have HV := Aside0.mk hV
  have HS := Aside0.mk hS
  have HLl := Aside0.mk hLl
  have HB0 : Aside0 (Below w.heap.size w w) := ⟨Below.refl _ _⟩
  have hm1 := hV.2.1
  have hm2 := hS.2.1
  have hm3 := hLl.2.1
  clear hV hS hLl hL
  have HEnd : Aside0 (∀ W, Below w.heap.size w W → Calls Tryd.prog 28 #[.slice As sh.length cs, .slice Al L.length cl] W (ListEnd (mixE sh L) (mixL sh L) W)) := ⟨fun W hb => mix_calls As cs sh Al cl L W (Kd.C_below HS.out hb) (Kd.C_below HLl.out hb)⟩
  have HEnr : Aside0 (∀ W, Below w.heap.size w W → Calls Tryd.prog 29 #[.slice As sh.length cs, .slice Al L.length cl] W (ListEnd (mixE sh L) (mixL sh L) W)) := ⟨fun W hb => rmix_calls As cs sh Al cl L W (Kd.C_below HS.out hb) (Kd.C_below HLl.out hb)⟩
  by_cases h1 : 600 < v.length
  · have dh1 : decide (600 < (v.length : Int)) = true := by simp; omega
    clear h1
    go_enter Tryd.func9, Tryd.ntmps9
    go_wp2_with (fail)
    refine (awake07_calls w (HL.out.below HB0.out)).mono ?_
    rintro e wz ⟨rfl, hb⟩
    have HBz := Aside0.mk (below_step HB0.out hb)
    clear hb
    go_wp2_with (fail)
    go_ret
    exact ⟨rfl, HBz.out⟩
  · have dh1 : decide (600 < (v.length : Int)) = false := by simp; omega
    by_cases h2 : 70 < sh.length
    · have dh2 : decide (70 < (sh.length : Int)) = true := by simp; omega
      clear h1 h2
      go_enter Tryd.func9, Tryd.ntmps9
      go_wp2_with (fail)
      refine (awake07_calls w (HL.out.below HB0.out)).mono ?_
      rintro e wz ⟨rfl, hb⟩
      have HBz := Aside0.mk (below_step HB0.out hb)
      clear hb
      go_wp2_with (fail)
      go_ret
      exact ⟨rfl, HBz.out⟩
    · have dh2 : decide (70 < (sh.length : Int)) = false := by simp; omega
      clear h1 h2
      go_enter Tryd.func9, Tryd.ntmps9
      go_wp2_with (fail)
      clear dh1 dh2
      refine (few7_calls Al cl L w HLl.out).mono ?_
      rintro e w1 ⟨b, rfl, hd⟩
      have HB1 := Aside0.mk hd.below
      clear hd
      cases b with
      | false =>
        go_wp2_with (fail)
        refine (awake07_calls w1 (HL.out.below HB1.out)).mono ?_
        rintro e wz ⟨rfl, hb⟩
        have HBz := Aside0.mk (below_step HB1.out hb)
        clear hb
        go_wp2_with (fail)
        go_ret
        exact ⟨rfl, HBz.out⟩
      | true =>
        go_wp2_with (fail)
        by_cases hz : checkV v = 0
        · have HZ := Aside0.mk hz
          refine (softmax_ok_calls Av cv v w1 (Kd.C_below HV.out HB1.out) (HL.out.below HB1.out) hz).mono ?_
          rintro e w2 ⟨A2, c2, rfl, hr, hb⟩
          have HG2 : Aside0 (Kd.C (Kd.int .i64) w2 A2 v.length (softV v)) := ⟨by
            have h := (Kd.R_reads' hr).2.2
            rwa [show (softV v).length = v.length by simp [softV, expsV]] at h⟩
          have HB2 := Aside0.mk (below_step HB1.out hb)
          clear hr hb hz
          go_wp2_with (fail)
          refine (rcheck_calls Av cv v w2 (Kd.C_below HV.out HB2.out)).mono ?_
          rintro e w3 ⟨rfl, hb⟩
          have HB3 := Aside0.mk (below_step HB2.out hb)
          have HG3 := Aside0.mk (Kd.C_below HG2.out hb)
          clear hb
          rw [HZ.out]
          go_wp2_with (fail)
          refine (rsoft_calls Av cv v w3 (Kd.C_below HV.out HB3.out) HZ.out).mono ?_
          rintro e w4 ⟨A4, c4, rfl, hr, hb⟩
          have HG4 : Aside0 (Kd.C (Kd.int .i64) w4 A4 v.length (softV v)) := ⟨by
            have h := (Kd.R_reads' hr).2.2
            rwa [show (softV v).length = v.length by simp [softV, expsV]] at h⟩
          have HG5 := Aside0.mk (Kd.C_below HG3.out hb)
          have HB4 := Aside0.mk (below_step HB3.out hb)
          clear hr hb
          go_wp2_with (fail)
          refine (Law.ints_n A2 v.length c2 (softV v) A4 v.length c4 (softV v) w4 HG5.out HG4.out true (by simp)).mono ?_
          rintro e w5 ⟨rfl, hd⟩
          have HB5 := Aside0.mk (below_step HB4.out hd.below)
          clear hd
          go_wp2_with (fail)
          refine (HEnd.out w5 HB5.out).mono ?_
          rintro e w6 hh
          obtain ⟨A6, c6, xs, rfl, hC6, hxs, hb⟩ := listEnd_two hh
          have HC6 := Aside0.mk hC6
          have HXs := Aside0.mk hxs
          have HB6 := Aside0.mk (below_step HB5.out hb)
          clear hh hC6 hxs hb
          go_wp2_with (fail)
          refine (HEnr.out w6 HB6.out).mono ?_
          rintro e w7 hh
          obtain ⟨A7, c7, ys, rfl, hC7, hys, hb⟩ := listEnd_two hh
          obtain rfl : ys = xs := hys.trans HXs.out.symm
          have HC7 := Aside0.mk hC7
          have HC67 := Aside0.mk (Kd.C_below HC6.out hb)
          have HB7 := Aside0.mk (below_step HB6.out hb)
          clear hh hC7 hys hb
          go_wp2_with (fail)
          refine (same7_calls A6 c6 ys A7 c7 (mixE sh L) w7 HC67.out HC7.out).mono ?_
          rintro e w8 ⟨rfl, hb⟩
          have HB8 := Aside0.mk (below_step HB7.out hb)
          clear hb
          go_wp2_with (fail)
          refine (awake07_calls w8 (HL.out.below HB8.out)).mono ?_
          rintro e wz ⟨rfl, hb⟩
          have HBz := Aside0.mk (below_step HB8.out hb)
          clear hb
          go_wp2_with (fail)
          go_ret
          exact ⟨rfl, HBz.out⟩
        · refine (softmax_bad_calls Av cv v w1 (Kd.C_below HV.out HB1.out) hz).mono ?_
          rintro e w2 ⟨rfl, hb⟩
          have HB2 := Aside0.mk (below_step HB1.out hb)
          clear hb
          have HCk : Aside0 (∀ W, Below w.heap.size w W → Calls Tryd.prog 17 #[.slice Av v.length cv] W fun e w' => e = .returned (.int .i64 (checkV v)) ∧ Below W.heap.size W w') := ⟨fun W hb => rcheck_calls Av cv v W (Kd.C_below HV.out hb)⟩
          have dz : (checkV v != 0) = true := by simpa using hz
          clear hz
          generalize checkV v = z at *
          go_wp2_with (fail)
          refine (HCk.out w2 HB2.out).mono ?_
          rintro e w5 ⟨rfl, hb⟩
          have HB5 := Aside0.mk (below_step HB2.out hb)
          clear hb
          go_wp2_with (fail)
          refine (HEnd.out w5 HB5.out).mono ?_
          rintro e w6 hh
          obtain ⟨A6, c6, xs, rfl, hC6, hxs, hb⟩ := listEnd_two hh
          have HC6 := Aside0.mk hC6
          have HXs := Aside0.mk hxs
          have HB6 := Aside0.mk (below_step HB5.out hb)
          clear hh hC6 hxs hb
          go_wp2_with (fail)
          refine (HEnr.out w6 HB6.out).mono ?_
          rintro e w7 hh
          obtain ⟨A7, c7, ys, rfl, hC7, hys, hb⟩ := listEnd_two hh
          obtain rfl : ys = xs := hys.trans HXs.out.symm
          have HC7 := Aside0.mk hC7
          have HC67 := Aside0.mk (Kd.C_below HC6.out hb)
          have HB7 := Aside0.mk (below_step HB6.out hb)
          clear hh hC7 hys hb
          go_wp2_with (fail)
          refine (same7_calls A6 c6 ys A7 c7 (mixE sh L) w7 HC67.out HC7.out).mono ?_
          rintro e w8 ⟨rfl, hb⟩
          have HB8 := Aside0.mk (below_step HB7.out hb)
          clear hb
          go_wp2_with (fail)
          refine (awake07_calls w8 (HL.out.below HB8.out)).mono ?_
          rintro e wz ⟨rfl, hb⟩
          have HBz := Aside0.mk (below_step HB8.out hb)
          clear hb
          go_wp2_with (fail)
          go_ret
          exact ⟨rfl, HBz.out⟩
theorem shares_n (Av : Option Addr) (nv cv : Nat) (v : List Int) (As : Option Addr) (ns cs : Nat) (sh : List Int) (Al : Option Addr) (nl cl : Nat) (L : List (List Int)) (w : World)
    (hV : Kd.C (Kd.int .i64) w Av nv v) (hS : Kd.C (Kd.int .i64) w As ns sh) (hLl : Kd.C (Kd.slice 3 (Kd.int .i64)) w Al nl L) (hL : LaidAt w 0 stepsA) :
    Calls Tryd.prog 9 #[.slice Av nv cv, .slice As ns cs, .slice Al nl cl] w fun e w' => e = .returned (.bool true) ∧ Below w.heap.size w w' := by
  obtain rfl := hV.1
  obtain rfl := hS.1
  obtain rfl := hLl.1
  exact shares_calls Av cv v As cs sh Al cl L w hV hS hLl hL
end Go.Proofs.YtfameghednapkaaDoor.Ten
