/- The walk of DrawFits. -/
import Derived.Test.YtdmeocoehahopaaDoorBunF8
namespace Go.Proofs.YtdmeocoehahopaaDoor.Draw
open Go.RowKit Go.Proofs.YtdmeocoehahopaaDoorW.PrintWords Go.Proofs.YtdmeocoehahopaaDoorW.PrintLast Go.Proofs.YtdmeocoehahopaaDoorW.PrintMore Go.Proofs.YtdmeocoehahopaaDoor.K Go.Proofs.YtdmeocoehahopaaDoor.Sha Go.Proofs.YtdmeocoehahopaaDoor.Codec Go.Proofs.YtdmeocoehahopaaDoor.RI Go.Proofs.YtdmeocoehahopaaDoor.Ten Go.Proofs.YtdmeocoehahopaaDoor.Top Go.Proofs.YtdmeocoehahopaaDoor.Fixed
set_option linter.unusedVariables false
set_option linter.unusedSimpArgs false
/-- What a call of a stream leaves: the number, or what is wrong; where the stream stands. -/
theorem back_any {B g : Nat} {d : List Int} {c : Int} {R : Int → Int → Int → Prop} {w w' : World} {e : Ending} (h : BackEnd B g d c R w e w') : ∃ x er c', e = .returned (.tuple #[.int .i64 x, .int .i64 er]) ∧ Moved B g d w w' c' ∧ ((er = 0 ∧ R x 0 c') ∨ (er ≠ 0 ∧ x = 0 ∧ c' = c)) := by
  obtain ⟨x, er, c', hR, ⟨h0, he, hm⟩ | ⟨h0, he, hm⟩⟩ := h
  · subst h0
    exact ⟨x, 0, c', he, hm, .inl ⟨rfl, hR⟩⟩
  · exact ⟨0, er, c, he, hm, .inr ⟨h0, rfl, rfl⟩⟩
set_option maxHeartbeats 16000000 in
set_option maxRecDepth 100000 in
theorem fits_calls (d : List Int) (A : Option Addr) (cc : Nat) (l : List Int) (k : Int) (w : World) (hd : d.length = 32) (hby : ∀ x ∈ d, 0 ≤ x ∧ x < 256) (hCw : Kd.C (Kd.int .i64) w A l.length l) (hk : -9223372036854775808 ≤ k ∧ k ≤ 9223372036854775807)
    (hLs : LaidAt w 0 stepsA) (hLf : LaidAt w 1 firstA) (hL : LaidAt w 2 constA) :
    Calls Tryd.prog 8 #[.agg (dA d), .slice A l.length cc, .int .i64 k] w fun e w' => e = .returned (.bool true) ∧ Below w.heap.size w w' := by
  have HLo := Aside0.mk (lo_of hLf hL)
  have HLs := Aside0.mk hLs
  have HBy := Aside0.mk hby
  have HDl := Aside0.mk hd
  have HI := Aside0.mk (dig_info hd)
  have HCw := Aside0.mk hCw
  have HK := Aside0.mk hk
  have hmw := hCw.2.1
  have HB0 : Aside0 (Below w.heap.size w (w.alloc (.cells (dA d) 23))) := ⟨bel_alloc (Below.refl _ _) _⟩
  have HR0 : Aside0 ((w.alloc (.cells (dA d) 23)).heap[w.heap.size]? = some (.cells (dA d) 23 (0, 0))) := ⟨heap_alloc_new _ _⟩
  clear hLf hL hLs hby hd hCw hk
  by_cases hl : 100 < l.length
  · have dl : decide (100 < (l.length : Int)) = true := by simp; omega
    clear hl
    go_enter Tryd.func8, Tryd.ntmps8
    go_wp2_with (with_reducible refine wpList_load_row rfl 23 (.tmp 3) rfl w.heap.size rfl 23 (dA d) (0, 0) _ HR0.out Tryd.underlying23 rfl HI.out ?_)
    generalize w.alloc (.cells (dA d) 23) = w0 at *
    refine (new_calls d 0 w0 HDl.out (by decide)).mono ?_
    rintro e w2 ⟨g, rfl, hg, hs, hb⟩
    have HB2 := Aside0.mk (below_step HB0.out hb)
    clear hb hg hs
    go_wp2_with (fail)
    refine (awake_calls w.heap.size w2 (HLo.out.below HB2.out)).mono ?_
    rintro e w3 ⟨rfl, hb⟩
    have HB3 := Aside0.mk (below_step HB2.out hb)
    clear hb
    go_wp2_with (fail)
    go_ret
    exact ⟨rfl, HB3.out⟩
  · have dl : decide (100 < (l.length : Int)) = false := by simp; omega
    have HLn : Aside0 (l.length ≤ 100) := ⟨by omega⟩
    clear hl
    go_enter Tryd.func8, Tryd.ntmps8
    go_wp2_with (with_reducible refine wpList_load_row rfl 23 (.tmp 3) rfl w.heap.size rfl 23 (dA d) (0, 0) _ HR0.out Tryd.underlying23 rfl HI.out ?_)
    generalize w.alloc (.cells (dA d) 23) = w0 at *
    refine (new_calls d 0 w0 HDl.out (by decide)).mono ?_
    rintro e w2 ⟨g, rfl, hg, hs, hb⟩
    have HB2 := Aside0.mk (below_step HB0.out hb)
    have HS2 := Aside0.mk hs
    have HG := Aside0.mk hg
    have HGw : Aside0 (w.heap.size < w0.heap.size) := ⟨blk_lt HR0.out⟩
    have HBw2 : Aside0 (w0.heap.size ≤ w2.heap.size) := ⟨hb.size⟩
    have HLo2 : Aside0 (Lo w0.heap.size w2) := ⟨by
      have h1 := HLo.out.below HB2.out
      exact ⟨h1.f, h1.c, Nat.lt_trans h1.gf HGw.out, Nat.lt_trans h1.gc HGw.out, hb.size⟩⟩
    have HOf : Aside0 (Off g A l.length) := ⟨off_below HCw.out (Nat.le_trans (Nat.le_of_lt HGw.out) hg)⟩
    have HCw0 : Aside0 (∀ W, Below w0.heap.size w2 W → Below w.heap.size w W ∧ Kd.C (Kd.int .i64) W A l.length l) := ⟨fun W h => by
      have h1 := HB2.out.trans (h.mono (Nat.le_of_lt HGw.out))
      exact ⟨h1, Kd.C_below HCw.out h1⟩⟩
    clear hg hs hb
    go_wp2_with (fail)
    clear dl
    refine (Below_calls d k 0 g w0.heap.size w2 HDl.out HBy.out HS2.out (by decide) (by decide) HK.out.2 HG.out HLo2.out).mono ?_
    rintro e w3 hh
    obtain ⟨x, er, c3, rfl, hm, hc⟩ := back_any hh
    have HM3 := Aside0.mk hm
    have HC3 : Aside0 (0 ≤ c3 ∧ c3 ≤ 64) := ⟨by
      rcases hc with ⟨_, h⟩ | ⟨_, _, h⟩
      · have := belowV_c (show belowV d k 0 = (x, 0, c3) from h) (by decide); omega
      · omega⟩
    have hok : Aside0 ((er = 0 ∧ 1 ≤ k ∧ 0 ≤ x ∧ x < k) ∨ er ≠ 0) := ⟨by
      rcases hc with ⟨h0, h⟩ | ⟨h0, _⟩
      · exact .inl ⟨h0, below_fits (show belowV d k 0 = (x, 0, c3) from h)⟩
      · exact .inr h0⟩
    clear hh hm hc
    go_upto_region 5 with (fail)
    go_cut [62] (fun s wx => s = .bool false ∧ wx = w3)
    case first =>
      rcases hok.out with ⟨h0, h1, h2, h3⟩ | h0
      · subst h0
        have q1 : decide (x < 0) = false := by simp; omega
        have q2 : decide (k ≤ x) = false := by simp; omega
        have q3 : decide (k < 1) = false := by simp; omega
        clear h1 h2 h3
        go_wp2
        go_meet
        case rel => exact ⟨rfl, rfl⟩
      · have q1 : (er == 0) = false := by simpa using h0
        clear h0
        go_wp2
        go_meet
        case rel => exact ⟨rfl, rfl⟩
    case rest =>
      obtain ⟨rfl, hwc⟩ := hcut
      rw [hwc]
      clear hok hwc
      go_wp2_with (fail)
      refine (Choose_calls d A cc l c3 g w0.heap.size w3 HDl.out HBy.out HM3.out.at_ HC3.out.1 (by have := HC3.out; omega) HG.out (HLo2.out.below HM3.out.bel) (HCw0.out _ HM3.out.bel).2 HOf.out).mono ?_
      rintro e w4 hh
      obtain ⟨x4, er4, c4, rfl, hm, hc⟩ := back_any hh
      have HM4 := Aside0.mk (HM3.out.trans hm)
      have HC4 : Aside0 (0 ≤ c4 ∧ c4 ≤ 128) := ⟨by
        have := HC3.out
        rcases hc with ⟨_, h⟩ | ⟨_, _, h⟩
        · have := chooseV_c (show chooseV d l c3 = (x4, 0, c4) from h) (by omega); omega
        · omega⟩
      have hok : Aside0 ((er4 = 0 ∧ ∃ p : Nat, x4 = (p : Int) ∧ p < l.length ∧ 1 ≤ l.getD p 0) ∨ er4 ≠ 0) := ⟨by
        rcases hc with ⟨h0, h⟩ | ⟨h0, _⟩
        · exact .inl ⟨h0, choose_fits (show chooseV d l c3 = (x4, 0, c4) from h)⟩
        · exact .inr h0⟩
      clear hh hm hc
      go_upto_region 8 with (fail)
      go_cut [87] (fun s wx => s = .bool false ∧ wx = w4)
      case first =>
        rcases hok.out with ⟨h0, p, rfl, h2, h3⟩ | h0
        · subst h0
          obtain ⟨ad, rfl, hx⟩ := int_at (HCw0.out _ HM4.out.bel).2 p h2
          have q1 : decide ((p : Int) < 0) = false := by simp
          have q2 : decide ((l.length : Int) ≤ (p : Int)) = false := by simp; omega
          have q2' : decide (l.length ≤ p) = false := by simp; omega
          obtain ⟨y, hy⟩ : ∃ y, y = l.getD p 0 := ⟨_, rfl⟩
          rw [← hy] at hx h3
          have q3 : decide (y < 1) = false := by simp; omega
          clear h3 hy
          go_wp2
          go_meet
          case rel => exact ⟨rfl, rfl⟩
        · have q1 : (er4 == 0) = false := by simpa using h0
          clear h0
          go_wp2
          go_meet
          case rel => exact ⟨rfl, rfl⟩
      case rest =>
        obtain ⟨rfl, hwc⟩ := hcut
        rw [hwc]
        clear hok hwc
        go_wp2_with (fail)
        refine (Pick_calls d A cc l k c4 g w0.heap.size w4 HDl.out HBy.out HM4.out.at_ HC4.out.1 (by have := HC4.out; omega) HG.out (Nat.le_trans HBw2.out HM4.out.bel.size) (HLo2.out.below HM4.out.bel) (HLs.out.below (HCw0.out _ HM4.out.bel).1) (HCw0.out _ HM4.out.bel).2).mono ?_
        rintro e w5 hh
        obtain ⟨x5, er5, c5, rfl, hm, hc⟩ := back_any hh
        have HB5 : Aside0 (Below w.heap.size w w5 ∧ Kd.C (Kd.int .i64) w5 A l.length l) := ⟨HCw0.out _ (HM4.out.trans hm).bel⟩
        rcases hc with ⟨rfl, hR⟩ | ⟨her, _, _⟩
        · obtain ⟨p, rfl, hp, hk1, hcn⟩ := pick_fits (show pickV d l k c4 = (x5, 0, c5) from hR)
          have q1 : decide ((p : Int) < 0) = false := by simp
          have q2 : decide ((l.length : Int) ≤ (p : Int)) = false := by simp; omega
          have q2' : decide (l.length ≤ p) = false := by simp; omega
          have HCn := Aside0.mk (And.intro hk1 hcn)
          clear hh hm hR hk1 hcn
          go_wp2_with (fail)
          clear q1 q2 q2'
          go_loopw [15, 16] (fun s i wr => ∃ t : Nat, t ≤ l.length ∧ i = .int .i64 (t : Int) ∧ s = .int .i64 (cnt (gtB l p) t : Int) ∧ Aside0 (Drawn0 w5 wr)) (fun _ i _ => l.length - (intOf i).toNat)
          case atStart => exact ⟨0, Nat.zero_le _, rfl, rfl, ⟨⟨0, rfl⟩⟩⟩
          case round =>
            obtain ⟨t, ht, rfl, rfl, HD⟩ := hrel
            obtain ⟨⟨nd, rfl⟩⟩ := HD.out
            have hln := HLn.out
            have hcl := cnt_le (gtB l p) t
            by_cases hlt : t < l.length
            · obtain ⟨ad, rfl, hx⟩ := int_at HB5.out.2 t hlt
              obtain ⟨_, he, hy⟩ := int_at HB5.out.2 p hp
              cases he
              have hsu : cnt (gtB l p) (t + 1) = cnt (gtB l p) t + if gtB l p t = true then 1 else 0 := rfl
              have hwt : IntKind.i64.wrap ((t : Int) + 1) = (t : Int) + 1 := by rw [IntKind.wrap_i64]; omega
              by_cases hg : l.getD p 0 < l.getD t 0
              · have hsu2 : cnt (gtB l p) (t + 1) = cnt (gtB l p) t + 1 := by rw [hsu, if_pos (by unfold gtB; exact decide_eq_true hg)]
                obtain ⟨x, hxe⟩ : ∃ x, x = l.getD t 0 := ⟨_, rfl⟩
                obtain ⟨y, hye⟩ : ∃ x, x = l.getD p 0 := ⟨_, rfl⟩
                rw [← hxe] at hx hg
                rw [← hye] at hy hg
                have dg : decide (y < x) = true := by simpa using hg
                have HSu := Aside0.mk hsu2
                generalize cnt (gtB l p) t = m at *
                have hwm : IntKind.i64.wrap ((m : Int) + 1) = (m : Int) + 1 := by rw [IntKind.wrap_i64]; omega
                clear hsu hsu2 hg hxe hye hcl hln HD
                go_wp2_with (fail)
                go_quiet (fail)
                go_wp2
                go_roundw
                case rel => exact ⟨t + 1, by omega, by go_num, by rw [HSu.out]; go_num, ⟨by first | exact ⟨⟨_, rfl⟩⟩ | exact ⟨⟨_, World.drewN_drewN _ _ _⟩⟩⟩⟩
                case measure => simp [intOf]; omega
              · have hsu2 : cnt (gtB l p) (t + 1) = cnt (gtB l p) t := by rw [hsu, if_neg (by unfold gtB; simpa using hg)]; rfl
                obtain ⟨x, hxe⟩ : ∃ x, x = l.getD t 0 := ⟨_, rfl⟩
                obtain ⟨y, hye⟩ : ∃ x, x = l.getD p 0 := ⟨_, rfl⟩
                rw [← hxe] at hx hg
                rw [← hye] at hy hg
                have dg : decide (y < x) = false := by simpa using hg
                have HSu := Aside0.mk hsu2
                generalize cnt (gtB l p) t = m at *
                clear hsu hsu2 hg hxe hye hcl hln HD
                go_wp2_with (fail)
                go_quiet (fail)
                go_wp2
                go_roundw
                case rel => exact ⟨t + 1, by omega, by go_num, by rw [HSu.out], ⟨by first | exact ⟨⟨_, rfl⟩⟩ | exact ⟨⟨_, World.drewN_drewN _ _ _⟩⟩⟩⟩
                case measure => simp [intOf]; omega
            · obtain rfl : t = l.length := by omega
              have HB6 : Aside0 (Below w.heap.size w (w5.drewN nd)) := ⟨pw_below_drewN HB5.out.1 nd⟩
              have hcn := HCn.out
              generalize cnt (gtB l p) l.length = m at *
              have q1 : decide ((m : Int) < k) = true := by simp; omega
              by_cases hk1 : k = 1
              · have q2 : (k != 1) = false := by simpa using hk1
                have q3 : ((m : Int) == 0) = true := by rw [beq_iff_eq]; omega
                clear hcn hk1 hcl hln hlt HD
                generalize w5.drewN nd = w6 at *
                go_wp2_with (fail)
                refine (awake_calls w.heap.size w6 (HLo.out.below HB6.out)).mono ?_
                rintro e wz ⟨rfl, hb⟩
                have HBz := Aside0.mk (below_step HB6.out hb)
                clear hb
                go_wp2_with (fail)
                go_ret
                exact ⟨rfl, HBz.out⟩
              · have q2 : (k != 1) = true := by simpa using hk1
                clear hcn hk1 hcl hln hlt HD
                generalize w5.drewN nd = w6 at *
                go_wp2_with (fail)
                refine (awake_calls w.heap.size w6 (HLo.out.below HB6.out)).mono ?_
                rintro e wz ⟨rfl, hb⟩
                have HBz := Aside0.mk (below_step HB6.out hb)
                clear hb
                go_wp2_with (fail)
                go_ret
                exact ⟨rfl, HBz.out⟩
        · have q1 : (er5 != 0) = true := by simpa using her
          clear hh hm her
          go_wp2_with (fail)
          refine (awake_calls w.heap.size w5 (HLo.out.below HB5.out.1)).mono ?_
          rintro e wz ⟨rfl, hb⟩
          have HBz := Aside0.mk (below_step HB5.out.1 hb)
          clear hb
          go_wp2_with (fail)
          go_ret
          exact ⟨rfl, HBz.out⟩
theorem fits_n (d : List Int) (A : Option Addr) (n cc : Nat) (l : List Int) (k : Int) (w : World) (hd : d.length = 32) (hby : ∀ x ∈ d, 0 ≤ x ∧ x < 256) (hCw : Kd.C (Kd.int .i64) w A n l) (hk : -9223372036854775808 ≤ k ∧ k ≤ 9223372036854775807)
    (hLs : LaidAt w 0 stepsA) (hLf : LaidAt w 1 firstA) (hL : LaidAt w 2 constA) :
    Calls Tryd.prog 8 #[.agg (dA d), .slice A n cc, .int .i64 k] w fun e w' => e = .returned (.bool true) ∧ Below w.heap.size w w' := by
  obtain rfl := hCw.1
  exact fits_calls d A cc l k w hd hby hCw hk hLs hLf hL
end Go.Proofs.YtdmeocoehahopaaDoor.Draw
