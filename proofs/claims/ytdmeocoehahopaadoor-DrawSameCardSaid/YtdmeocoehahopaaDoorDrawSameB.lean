/- DrawSame: the law's walk. -/
import Derived.Test.YtdmeocoehahopaaDoorDrawDoesB
import Derived.Test.YtdmeocoehahopaaDoorBunG8
namespace Go.Proofs.YtdmeocoehahopaaDoor.Draw
open Go.RowKit Go.Proofs.YtdmeocoehahopaaDoorW.PrintWords Go.Proofs.YtdmeocoehahopaaDoorW.PrintLast Go.Proofs.YtdmeocoehahopaaDoorW.PrintMore Go.Proofs.YtdmeocoehahopaaDoor.K Go.Proofs.YtdmeocoehahopaaDoor.Sha Go.Proofs.YtdmeocoehahopaaDoor.Codec Go.Proofs.YtdmeocoehahopaaDoor.RI Go.Proofs.YtdmeocoehahopaaDoor.Ten Go.Proofs.YtdmeocoehahopaaDoor.Top Go.Proofs.YtdmeocoehahopaaDoor.Fixed
set_option linter.unusedVariables false
set_option linter.unusedSimpArgs false
/-- Two streams at one count, each after the same call. -/
theorem back_same {B2 g2 : Nat} {d : List Int} {o : Opr} {c x er c' : Int} {w1 w2 : World} {e : Ending} (h : doesR d o c x er c') (k : BackEnd B2 g2 d c (doesR d o c) w1 e w2) :
    (er = 0 → e = .returned (.tuple #[.int .i64 x, .int .i64 0]) ∧ Moved B2 g2 d w1 w2 c') ∧ (er ≠ 0 → e = .returned (.tuple #[.int .i64 0, .int .i64 er]) ∧ Moved B2 g2 d w1 w2 c) := by
  obtain ⟨x2, er2, c2, hR, hh⟩ := k
  obtain ⟨rfl, rfl, rfl⟩ := doesR_det h hR
  rcases hh with ⟨h0, he, hm⟩ | ⟨h0, he, hm⟩
  · exact ⟨fun _ => ⟨he, hm⟩, fun h => absurd h0 h⟩
  · exact ⟨fun h => absurd h h0, fun _ => ⟨he, hm⟩⟩
set_option maxHeartbeats 16000000 in
set_option maxRecDepth 100000 in
theorem same_calls (d : List Int) (c0 : Int) (A : Option Addr) (cc : Nat) (ops : List Opr) (w : World) (hd : d.length = 32) (hby : ∀ x ∈ d, 0 ≤ x ∧ x < 256) (hC : Kd.C kOp w A ops.length ops) (hn : ∀ o ∈ ops, o.2.1 ≤ 9223372036854775807)
    (hLs : LaidAt w 0 stepsA) (hLf : LaidAt w 1 firstA) (hL : LaidAt w 2 constA) :
    Calls Tryd.prog 9 #[.agg (dA d), .int .i64 c0, .slice A ops.length cc] w fun e w' => e = .returned (.bool true) ∧ Below w.heap.size w w' := by
  have HLo := Aside0.mk (lo_of hLf hL)
  have HLs := Aside0.mk hLs
  have HBy := Aside0.mk hby
  have HDl := Aside0.mk hd
  have HI := Aside0.mk (dig_info hd)
  have HCw := Aside0.mk hC
  have HN := Aside0.mk hn
  have hmw := hC.2.1
  have HB0 : Aside0 (Below w.heap.size w (w.alloc (.cells (dA d) 23))) := ⟨bel_alloc (Below.refl _ _) _⟩
  have HR0 : Aside0 ((w.alloc (.cells (dA d) 23)).heap[w.heap.size]? = some (.cells (dA d) 23 (0, 0))) := ⟨heap_alloc_new _ _⟩
  have HAw : Aside0 (∀ W, Below w.heap.size w W → Calls Tryd.prog 13 #[] W fun e w' => e = .returned (.bool true) ∧ Below W.heap.size W w') := ⟨fun W hb => awake_calls w.heap.size W (HLo.out.below hb)⟩
  clear hLf hL hLs hby hd hC hn
  by_cases hneg : c0 < 0
  · have dn : decide (c0 < 0) = true := by simp; omega
    have HNw := Aside0.mk (fun W => new_neg_calls d c0 W hneg)
    clear hneg
    go_enter Tryd.func9, Tryd.ntmps9
    go_wp2_with (with_reducible refine wpList_load_row rfl 23 (.tmp 3) rfl w.heap.size rfl 23 (dA d) (0, 0) _ HR0.out Tryd.underlying23 rfl HI.out ?_)
    generalize w.alloc (.cells (dA d) 23) = w0 at *
    refine (HNw.out w0).mono ?_
    rintro e w2 ⟨rfl, hb⟩
    have HB2 := Aside0.mk (below_step HB0.out hb)
    clear hb
    go_wp2_with (fail)
    refine (HAw.out w2 HB2.out).mono ?_
    rintro e w3 ⟨rfl, hb⟩
    have HB3 := Aside0.mk (below_step HB2.out hb)
    clear hb
    go_wp2_with (fail)
    go_ret
    exact ⟨rfl, HB3.out⟩
  · have dn : decide (c0 < 0) = false := by simp; omega
    have HNw := Aside0.mk (fun W => new_calls d c0 W HDl.out hneg)
    by_cases hout : 4611686018427387904 < c0 ∨ 20 < ops.length
    · by_cases hbig : 4611686018427387904 < c0
      · have db : decide (4611686018427387904 < c0) = true := by simp; omega
        clear hneg hout hbig
        go_enter Tryd.func9, Tryd.ntmps9
        go_wp2_with (with_reducible refine wpList_load_row rfl 23 (.tmp 3) rfl w.heap.size rfl 23 (dA d) (0, 0) _ HR0.out Tryd.underlying23 rfl HI.out ?_)
        generalize w.alloc (.cells (dA d) 23) = w0 at *
        refine (HNw.out w0).mono ?_
        rintro e w2 ⟨g, rfl, hg, hs, hb⟩
        have HB2 := Aside0.mk (below_step HB0.out hb)
        clear hb hg hs
        go_wp2_with (fail)
        refine (HAw.out w2 HB2.out).mono ?_
        rintro e w3 ⟨rfl, hb⟩
        have HB3 := Aside0.mk (below_step HB2.out hb)
        clear hb
        go_wp2_with (fail)
        go_ret
        exact ⟨rfl, HB3.out⟩
      · have db : decide (4611686018427387904 < c0) = false := by simp; omega
        have dl : decide (20 < (ops.length : Int)) = true := by have := hout.resolve_left hbig; simp; omega
        clear hneg hout hbig
        go_enter Tryd.func9, Tryd.ntmps9
        go_wp2_with (with_reducible refine wpList_load_row rfl 23 (.tmp 3) rfl w.heap.size rfl 23 (dA d) (0, 0) _ HR0.out Tryd.underlying23 rfl HI.out ?_)
        generalize w.alloc (.cells (dA d) 23) = w0 at *
        refine (HNw.out w0).mono ?_
        rintro e w2 ⟨g, rfl, hg, hs, hb⟩
        have HB2 := Aside0.mk (below_step HB0.out hb)
        clear hb hg hs
        go_wp2_with (fail)
        refine (HAw.out w2 HB2.out).mono ?_
        rintro e w3 ⟨rfl, hb⟩
        have HB3 := Aside0.mk (below_step HB2.out hb)
        clear hb
        go_wp2_with (fail)
        go_ret
        exact ⟨rfl, HB3.out⟩
    · have db : decide (4611686018427387904 < c0) = false := by simp; omega
      have dl : decide (20 < (ops.length : Int)) = false := by simp; omega
      have HC0 : Aside0 (0 ≤ c0 ∧ c0 ≤ 4611686018427387904) := ⟨by omega⟩
      have hlen : ops.length ≤ 20 := by omega
      clear hneg hout
      go_enter Tryd.func9, Tryd.ntmps9
      go_wp2_with (with_reducible refine wpList_load_row rfl 23 (.tmp 3) rfl w.heap.size rfl 23 (dA d) (0, 0) _ HR0.out Tryd.underlying23 rfl HI.out ?_)
      generalize w.alloc (.cells (dA d) 23) = w0 at *
      refine (HNw.out w0).mono ?_
      rintro e w2 ⟨g, rfl, hg, hs, hb⟩
      have HGw : Aside0 (w.heap.size < w0.heap.size) := ⟨blk_lt HR0.out⟩
      have HB2 := Aside0.mk hb
      have HS2 := Aside0.mk hs
      have HG := Aside0.mk hg
      have HLoB : Aside0 (∀ W, Below w0.heap.size w0 W → Lo w0.heap.size W) := ⟨fun W hb => by
        have h1 := HLo.out.below (below_step HB0.out hb)
        exact ⟨h1.f, h1.c, Nat.lt_trans h1.gf HGw.out, Nat.lt_trans h1.gc HGw.out, hb.size⟩⟩
      clear hg hs hb HNw
      go_wp2_with (fail)
      clear dl dn db
      go_loopw [9] (fun v9 wr => ∃ k : Nat, k ≤ ops.length ∧ v9 = .int .i64 (k : Int) ∧ Aside0 (∃ c : Int, 0 ≤ c ∧ c ≤ 4611686018427387904 + 64 * (k : Int) ∧ StrAt wr g d c ∧ Below w0.heap.size w0 wr)) (fun v9 _ => ops.length - (intOf v9).toNat)
      case atStart => exact ⟨0, Nat.zero_le _, rfl, ⟨c0, HC0.out.1, by have := HC0.out.2; omega, HS2.out, HB2.out⟩⟩
      case round =>
        obtain ⟨k, hk, rfl, HO⟩ := hrel
        obtain ⟨c, hc0, hc1, hS, hB⟩ := HO.out
        clear HO HS2 HB2 HC0
        have HC := Aside0.mk (And.intro hc0 hc1)
        have HS := Aside0.mk hS
        have HB := Aside0.mk hB
        clear hc0 hc1 hS hB
        by_cases hlt : k < ops.length
        · have HBw : Aside0 (Below w.heap.size w wr) := ⟨below_step HB0.out HB.out⟩
          obtain ⟨ad, A1, c1, rfl, hx0, hx1, hx2, hl1, hr1⟩ := op_at HCw.out k hlt
          have HNk : Aside0 ((ops.getD k (0, 0, [])).2.1 ≤ 9223372036854775807) := ⟨by
            rw [List.getD_eq_getElem?_getD, List.getElem?_eq_getElem hlt]
            exact HN.out _ (List.getElem_mem hlt)⟩
          have HX0 := Aside0.mk hx0
          have HX1 := Aside0.mk hx1
          have HX2 := Aside0.mk hx2
          have HR1 := Aside0.mk hr1
          have hm1 := hr1.2.1
          have hwk : IntKind.i64.wrap ((k : Int) + 1) = (k : Int) + 1 := by rw [IntKind.wrap_i64]; omega
          clear hx0 hx1 hx2 hl1 hr1
          generalize ops.getD k (0, 0, []) = o at *
          obtain ⟨ask, n, l⟩ := o
          have y0 := cell_keep HBw.out HX0.out
          have y1 := cell_keep HBw.out HX1.out
          have y2 := cell_keep HBw.out HX2.out
          by_cases h100 : 100 < l.length
          · have dh : decide (100 < (l.length : Int)) = true := by simp; omega
            have dhN : decide (100 < l.length) = true := by simp; omega
            clear h100
            go_wp2_with (fail)
            go_roundw
            case rel => exact ⟨k + 1, by omega, by go_num, ⟨c, HC.out.1, by have := HC.out.2; omega, HS.out, HB.out⟩⟩
            case measure => simp [intOf]; omega
          · have dh : decide (100 < (l.length : Int)) = false := by simp; omega
            have dhN : decide (100 < l.length) = false := by simp; omega
            have HCt := Aside0.mk (count_calls d c g wr HDl.out HS.out)
            have HRr : Aside0 (wr.heap[w.heap.size]? = some (.cells (dA d) 23 (0, 0))) := ⟨(HB.out.block _ HGw.out).trans HR0.out⟩
            clear h100
            go_wp2_with (fail)
            refine HCt.out.mono ?_
            rintro e w' ⟨rfl, rfl⟩
            go_wp2_with (with_reducible refine wpList_load_row rfl 23 (.tmp 3) rfl w.heap.size rfl 23 (dA d) (0, 0) _ HRr.out Tryd.underlying23 rfl HI.out ?_)
            refine (new_calls d c wr HDl.out (by have := HC.out.1; omega)).mono ?_
            rintro e w3 ⟨g2, rfl, hg, hs, hb⟩
            have HG2 := Aside0.mk hg
            have HT3 := Aside0.mk hs
            have HS3 := Aside0.mk (HS.out.below hb)
            have HB3 : Aside0 (Below w0.heap.size w0 w3) := ⟨HB.out.trans (hb.mono HB.out.size)⟩
            have HBw3 : Aside0 (Below w.heap.size w w3) := ⟨below_step HB0.out HB3.out⟩
            have HGG : Aside0 (g < wr.heap.size) := ⟨blk_lt HS.out⟩
            have HOf : Aside0 (Off g A1 l.length ∧ Off g2 A1 l.length) := ⟨off_below HR1.out (Nat.le_trans (Nat.le_of_lt HGw.out) HG.out), off_below HR1.out (Nat.le_trans HBw.out.size HG2.out)⟩
            have y0 := cell_keep HBw3.out HX0.out
            have y1 := cell_keep HBw3.out HX1.out
            have y2 := cell_keep HBw3.out HX2.out
            clear hg hs hb
            go_wp2_with (fail)
            refine (does_calls d ask n A1 c1 l c g w0.heap.size w3 HDl.out HBy.out HS3.out HC.out.1 (by have := HC.out.2; omega) HNk.out HG.out HB3.out.size (HLoB.out w3 HB3.out) (HLs.out.below HBw3.out) (Kd.C_below HR1.out HBw3.out) HOf.out.1).mono ?_
            rintro e w4 ⟨x, er, c', hR, hh⟩
            have HR := Aside0.mk hR
            have HCc := Aside0.mk (doesR_c hR (by have := HC.out.2; omega))
            clear hR
            rcases hh with ⟨h0, rfl, hm⟩ | ⟨h0, rfl, hm⟩
            · subst h0
              have HM4 := Aside0.mk hm
              have HB4 : Aside0 (Below w0.heap.size w0 w4) := ⟨HB3.out.trans hm.bel⟩
              have HBw4 : Aside0 (Below w.heap.size w w4) := ⟨below_step HB0.out HB4.out⟩
              have HT4 : Aside0 (StrAt w4 g2 d c) := ⟨hm.keep.blk HT3.out (by have := HGG.out; have := HG2.out; omega) (by simp)⟩
              have z0 := cell_keep HBw4.out HX0.out
              have z1 := cell_keep HBw4.out HX1.out
              have z2 := cell_keep HBw4.out HX2.out
              clear hm y0 y1 y2
              go_wp2_with (fail)
              refine (does_calls d ask n A1 c1 l c g2 w0.heap.size w4 HDl.out HBy.out HT4.out HC.out.1 (by have := HC.out.2; omega) HNk.out (Nat.le_trans HG.out (by have := HGG.out; have := HG2.out; omega)) HB4.out.size (HLoB.out w4 HB4.out) (HLs.out.below HBw4.out) (Kd.C_below HR1.out HBw4.out) HOf.out.2).mono ?_
              rintro e w5 hh
              obtain ⟨rfl, hm⟩ := (back_same HR.out hh).1 rfl
              have HM5 := Aside0.mk hm
              have HB5 : Aside0 (Below w0.heap.size w0 w5) := ⟨HB4.out.trans hm.bel⟩
              have HS5 : Aside0 (StrAt w5 g d c') := ⟨hm.keep.blk HM4.out.at_ (by have := HGG.out; have := HG2.out; omega) (by simp)⟩
              have HQ1 := Aside0.mk (count_calls d c' g w5 HDl.out HS5.out)
              have HQ2 := Aside0.mk (count_calls d c' g2 w5 HDl.out HM5.out.at_)
              have e1 : (x != x) = false := by simp
              have e2 : (c' != c') = false := by simp
              have e3 : decide (c' < c) = false := by have := HCc.out; simp; omega
              have e4 : IntKind.i64.wrap (c + 64) = c + 64 := IntWalk.i64_in _ (by have := HC.out; omega)
              have e5 : decide (c + 64 < c') = false := by have := HCc.out; simp; omega
              clear hh hm z0 z1 z2
              go_wp2_with (fail)
              refine HQ1.out.mono ?_
              rintro e w' ⟨rfl, rfl⟩
              go_wp2_with (fail)
              refine HQ2.out.mono ?_
              rintro e w' ⟨rfl, rfl⟩
              go_wp2_with (fail)
              refine HQ1.out.mono ?_
              rintro e w' ⟨rfl, rfl⟩
              go_wp2_with (fail)
              refine HQ1.out.mono ?_
              rintro e w' ⟨rfl, rfl⟩
              go_wp2_with (fail)
              go_roundw
              case rel => exact ⟨k + 1, by omega, by go_num, ⟨c', by have := HC.out; have := HCc.out; omega, by have := HC.out; have := HCc.out; omega, HS5.out, HB5.out⟩⟩
              case measure => simp [intOf]; omega
            · have HM4 := Aside0.mk hm
              have H0 := Aside0.mk h0
              have HB4 : Aside0 (Below w0.heap.size w0 w4) := ⟨HB3.out.trans hm.bel⟩
              have HBw4 : Aside0 (Below w.heap.size w w4) := ⟨below_step HB0.out HB4.out⟩
              have HT4 : Aside0 (StrAt w4 g2 d c) := ⟨hm.keep.blk HT3.out (by have := HGG.out; have := HG2.out; omega) (by simp)⟩
              have z0 := cell_keep HBw4.out HX0.out
              have z1 := cell_keep HBw4.out HX1.out
              have z2 := cell_keep HBw4.out HX2.out
              clear hm y0 y1 y2 h0
              go_wp2_with (fail)
              refine (does_calls d ask n A1 c1 l c g2 w0.heap.size w4 HDl.out HBy.out HT4.out HC.out.1 (by have := HC.out.2; omega) HNk.out (Nat.le_trans HG.out (by have := HGG.out; have := HG2.out; omega)) HB4.out.size (HLoB.out w4 HB4.out) (HLs.out.below HBw4.out) (Kd.C_below HR1.out HBw4.out) HOf.out.2).mono ?_
              rintro e w5 hh
              obtain ⟨rfl, hm⟩ := (back_same HR.out hh).2 H0.out
              have HM5 := Aside0.mk hm
              have HB5 : Aside0 (Below w0.heap.size w0 w5) := ⟨HB4.out.trans hm.bel⟩
              have HS5 : Aside0 (StrAt w5 g d c) := ⟨hm.keep.blk HM4.out.at_ (by have := HGG.out; have := HG2.out; omega) (by simp)⟩
              have HQ1 := Aside0.mk (count_calls d c g w5 HDl.out HS5.out)
              have HQ2 := Aside0.mk (count_calls d c g2 w5 HDl.out HM5.out.at_)
              have e1 : (er != er) = false := by simp
              have e2 : (c != c) = false := by simp
              have e3 : decide (c < c) = false := by simp
              have e4 : IntKind.i64.wrap (c + 64) = c + 64 := IntWalk.i64_in _ (by have := HC.out; omega)
              have e5 : decide (c + 64 < c) = false := by simp; omega
              have e6 : (er != 0) = true := by have := H0.out; simpa using this
              clear hh hm z0 z1 z2
              go_wp2_with (fail)
              refine HQ1.out.mono ?_
              rintro e w' ⟨rfl, rfl⟩
              go_wp2_with (fail)
              refine HQ2.out.mono ?_
              rintro e w' ⟨rfl, rfl⟩
              go_wp2_with (fail)
              refine HQ1.out.mono ?_
              rintro e w' ⟨rfl, rfl⟩
              go_wp2_with (fail)
              refine HQ1.out.mono ?_
              rintro e w' ⟨rfl, rfl⟩
              go_wp2_with (fail)
              refine HQ1.out.mono ?_
              rintro e w' ⟨rfl, rfl⟩
              go_wp2_with (fail)
              go_roundw
              case rel => exact ⟨k + 1, by omega, by go_num, ⟨c, HC.out.1, by have := HC.out.2; omega, HS5.out, HB5.out⟩⟩
              case measure => simp [intOf]; omega
        · obtain rfl : k = ops.length := by omega
          have HBw : Aside0 (Below w.heap.size w wr) := ⟨below_step HB0.out HB.out⟩
          go_wp2_with (fail)
          refine (HAw.out wr HBw.out).mono ?_
          rintro e w3 ⟨rfl, hb⟩
          have HB3 := Aside0.mk (below_step HBw.out hb)
          clear hb
          go_wp2_with (fail)
          go_ret
          exact ⟨rfl, HB3.out⟩
theorem same_n (d : List Int) (c0 : Int) (A : Option Addr) (n cc : Nat) (ops : List Opr) (w : World) (hd : d.length = 32) (hby : ∀ x ∈ d, 0 ≤ x ∧ x < 256) (hC : Kd.C kOp w A n ops) (hn : ∀ o ∈ ops, o.2.1 ≤ 9223372036854775807)
    (hLs : LaidAt w 0 stepsA) (hLf : LaidAt w 1 firstA) (hL : LaidAt w 2 constA) :
    Calls Tryd.prog 9 #[.agg (dA d), .int .i64 c0, .slice A n cc] w fun e w' => e = .returned (.bool true) ∧ Below w.heap.size w w' := by
  obtain rfl := hC.1
  exact same_calls d c0 A cc ops w hd hby hC hn hLs hLf hL
end Go.Proofs.YtdmeocoehahopaaDoor.Draw
