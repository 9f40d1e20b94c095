/- The walk of DrawChoose: whatever the seed, the count and the weights, it answers true. -/
import Derived.Test.YtdmeocoehahopaaDoorDrawBelowLawB
import Derived.Test.YtdmeocoehahopaaDoorDrawChooseB
import Derived.Test.YtdmeocoehahopaaDoorDrawRefCB
namespace Go.Proofs.YtdmeocoehahopaaDoor.Draw
open Go.RowKit Go.Proofs.YtdmeocoehahopaaDoorW.PrintWords Go.Proofs.YtdmeocoehahopaaDoorW.PrintLast Go.Proofs.YtdmeocoehahopaaDoorW.PrintMore Go.Proofs.YtdmeocoehahopaaDoor.K Go.Proofs.YtdmeocoehahopaaDoor.Sha Go.Proofs.YtdmeocoehahopaaDoor.Codec Go.Proofs.YtdmeocoehahopaaDoor.RI Go.Proofs.YtdmeocoehahopaaDoor.Ten
set_option linter.unusedVariables false
set_option linter.unusedSimpArgs false
theorem chooseV_c {d ws : List Int} {c x er c' : Int} (h : chooseV d ws c = (x, er, c')) (hc : c ≤ 9223372036854775807) : c ≤ c' ∧ c' ≤ 9223372036854775807 ∧ c' ≤ c + 64 ∧ (er ≠ 0 → x = 0 ∧ c' = c) := by
  unfold chooseV at h
  split at h
  · cases h; exact ⟨Int.le_refl _, hc, by omega, fun _ => ⟨rfl, rfl⟩⟩
  · split at h
    · split at h
      · cases h; exact ⟨Int.le_refl _, hc, by omega, fun _ => ⟨rfl, rfl⟩⟩
      · split at h
        · obtain ⟨⟨x1, er1, c1⟩, hp⟩ : ∃ p, p = belowV d (sumV ws) c := ⟨_, rfl⟩
          have h2 := belowV_c hp.symm hc
          rw [← hp] at h
          cases h
          exact ⟨h2.1, h2.2.1, h2.2.2.1, fun h => absurd rfl h⟩
        · cases h; exact ⟨Int.le_refl _, hc, by omega, fun _ => ⟨rfl, rfl⟩⟩
    · cases h; exact ⟨Int.le_refl _, hc, by omega, fun _ => ⟨rfl, rfl⟩⟩
set_option maxHeartbeats 8000000 in
set_option maxRecDepth 100000 in
theorem choose_law_calls (d : List Int) (c : Int) (A : Option Addr) (cc : Nat) (ws : List Int) (w : World) (hd : d.length = 32) (hby : ∀ x ∈ d, 0 ≤ x ∧ x < 256) (hc : -9223372036854775808 ≤ c ∧ c ≤ 9223372036854775807) (hCw : Kd.C (Kd.int .i64) w A ws.length ws) (hLf : LaidAt w 1 firstA) (hL : LaidAt w 2 constA) :
    Calls Tryd.prog 6 #[.agg (dA d), .int .i64 c, .slice A ws.length cc] w fun e w' => e = .returned (.bool true) ∧ Below w.heap.size w w' := by
  have HLo := Aside0.mk (lo_of hLf hL)
  have HBy := Aside0.mk hby
  have HDl := Aside0.mk hd
  have HI := Aside0.mk (dig_info hd)
  have HC := Aside0.mk hc
  have HCw := Aside0.mk hCw
  have hmw := hCw.2.1
  have HB0 : Aside0 (Below w.heap.size w (w.alloc (.cells (dA d) 23))) := ⟨bel_alloc (Below.refl _ _) _⟩
  have HR0 : Aside0 ((w.alloc (.cells (dA d) 23)).heap[w.heap.size]? = some (.cells (dA d) 23 (0, 0))) := ⟨heap_alloc_new _ _⟩
  clear hLf hL hby hd hc hCw
  by_cases hneg : c < 0
  · have hnD : decide (c < 0) = true := by simpa using hneg
    have HNeg := Aside0.mk hneg
    clear hneg
    go_enter Tryd.func6, Tryd.ntmps6
    go_wp2_with (with_reducible refine wpList_load_row rfl 23 (.tmp 3) rfl w.heap.size rfl 23 (dA d) (0, 0) _ HR0.out Tryd.underlying23 rfl HI.out ?_)
    generalize w.alloc (.cells (dA d) 23) = w0 at *
    refine (new_neg_calls d c w0 HNeg.out).mono ?_
    rintro e w2 ⟨rfl, hb⟩
    have HB2 := Aside0.mk (below_step HB0.out hb)
    clear hb
    go_wp2_with (fail)
    refine (awake_calls w.heap.size w2 (HLo.out.below HB2.out)).mono ?_
    rintro e w3 ⟨rfl, hb⟩
    have HB3 := Aside0.mk (below_step HB2.out hb)
    clear hb
    go_wp2_with (fail)
    go_ret
    exact ⟨rfl, HB3.out⟩
  · have hnD : decide (c < 0) = false := by simpa using hneg
    have HPos : Aside0 (0 ≤ c) := ⟨by omega⟩
    clear hneg
    by_cases hl : 600 < ws.length
    · have dl : decide (600 < (ws.length : Int)) = true := by simp; omega
      clear hl
      go_enter Tryd.func6, Tryd.ntmps6
      go_wp2_with (with_reducible refine wpList_load_row rfl 23 (.tmp 3) rfl w.heap.size rfl 23 (dA d) (0, 0) _ HR0.out Tryd.underlying23 rfl HI.out ?_)
      generalize w.alloc (.cells (dA d) 23) = w0 at *
      refine (new_calls d c w0 HDl.out (by have := HPos.out; omega)).mono ?_
      rintro e w2 ⟨g, rfl, hg, hs, hb⟩
      have HB2 := Aside0.mk (below_step HB0.out hb)
      clear hb hg hs
      go_wp2_with (fail)
      refine (awake_calls w.heap.size w2 (HLo.out.below HB2.out)).mono ?_
      rintro e w3 ⟨rfl, hb⟩
      have HB3 := Aside0.mk (below_step HB2.out hb)
      clear hb
      go_wp2_with (fail)
      go_ret
      exact ⟨rfl, HB3.out⟩
    · have dl : decide (600 < (ws.length : Int)) = false := by simp; omega
      clear hl
      go_enter Tryd.func6, Tryd.ntmps6
      go_wp2_with (with_reducible refine wpList_load_row rfl 23 (.tmp 3) rfl w.heap.size rfl 23 (dA d) (0, 0) _ HR0.out Tryd.underlying23 rfl HI.out ?_)
      generalize w.alloc (.cells (dA d) 23) = w0 at *
      refine (new_calls d c w0 HDl.out (by have := HPos.out; omega)).mono ?_
      rintro e w2 ⟨g, rfl, hg, hs, hb⟩
      have HB2 := Aside0.mk (below_step HB0.out hb)
      have HR2 : Aside0 (w2.heap[w.heap.size]? = some (.cells (dA d) 23 (0, 0))) := ⟨(hb.block _ (blk_lt HR0.out)).trans HR0.out⟩
      have HS2 := Aside0.mk hs
      have HG := Aside0.mk hg
      have HGw : Aside0 (w.heap.size < w0.heap.size) := ⟨blk_lt HR0.out⟩
      have HLo2 : Aside0 (Lo w0.heap.size w2) := ⟨by
        have h1 := HLo.out.below HB2.out
        exact ⟨h1.f, h1.c, Nat.lt_trans h1.gf HGw.out, Nat.lt_trans h1.gc HGw.out, hb.size⟩⟩
      have HOf : Aside0 (Off g A ws.length) := ⟨off_below HCw.out (Nat.le_trans (Nat.le_of_lt HGw.out) hg)⟩
      clear hg hs hb
      go_wp2_with (fail)
      refine (Choose_calls d A cc ws c g w0.heap.size w2 HDl.out HBy.out HS2.out HPos.out HC.out.2 HG.out HLo2.out (Kd.C_below HCw.out HB2.out) HOf.out).mono ?_
      rintro e w4 ⟨x, er, c', hR, hh⟩
      have hcc := chooseV_c hR HC.out.2
      have HR := Aside0.mk hR
      clear hR
      rcases hh with ⟨rfl, rfl, hm⟩ | ⟨her, rfl, hm⟩
      · have HM := Aside0.mk hm
        have HR4 : Aside0 (w4.heap[w.heap.size]? = some (.cells (dA d) 23 (0, 0))) := ⟨(hm.bel.block _ HGw.out).trans HR2.out⟩
        have HB4 : Aside0 (Below w.heap.size w w4) := ⟨HB2.out.trans (hm.bel.mono (Nat.le_of_lt HGw.out))⟩
        have hw : IntKind.i64.wrap (c + (c' - c)) = c' := by have := HPos.out; rw [IntKind.wrap_i64]; omega
        clear hm hcc
        go_wp2_with (with_reducible refine wpList_load_row rfl 23 (.tmp 3) rfl w.heap.size rfl 23 (dA d) (0, 0) _ HR4.out Tryd.underlying23 rfl HI.out ?_)
        refine (rchoose_calls d A cc ws c w4 HDl.out HBy.out HPos.out HC.out.2 (Kd.C_below HCw.out HB4.out)).mono ?_
        rintro e w5 ⟨he, hb⟩
        have he2 := he _ _ _ HR.out
        rw [if_pos rfl] at he2
        subst he2
        have HB5 := Aside0.mk (below_step HB4.out hb)
        have HS5 := Aside0.mk (HM.out.at_.below hb)
        clear he hb
        obtain ⟨df, hdf⟩ : ∃ df, df = c' - c := ⟨_, rfl⟩
        rw [← hdf] at hw ⊢
        clear hdf
        go_wp2_with (first
          | (refine (count_calls d c' g w5 HDl.out HS5.out).mono ?_; rintro e w6 ⟨rfl, rfl⟩)
          | (fail))
        refine (awake_calls w.heap.size w5 (HLo.out.below HB5.out)).mono ?_
        rintro e w7 ⟨rfl, hb⟩
        have HB7 := Aside0.mk (below_step HB5.out hb)
        clear hb
        go_wp2_with (fail)
        go_ret
        exact ⟨rfl, HB7.out⟩
      · have HM := Aside0.mk hm
        obtain ⟨rfl, rfl⟩ := hcc.2.2.2 her
        have HR4 : Aside0 (w4.heap[w.heap.size]? = some (.cells (dA d) 23 (0, 0))) := ⟨(hm.bel.block _ HGw.out).trans HR2.out⟩
        have HB4 : Aside0 (Below w.heap.size w w4) := ⟨HB2.out.trans (hm.bel.mono (Nat.le_of_lt HGw.out))⟩
        have hw : IntKind.i64.wrap c' = c' := by have := HPos.out; have := HC.out; rw [IntKind.wrap_i64]; omega
        have HE := Aside0.mk her
        clear hm hcc her
        go_wp2_with (with_reducible refine wpList_load_row rfl 23 (.tmp 3) rfl w.heap.size rfl 23 (dA d) (0, 0) _ HR4.out Tryd.underlying23 rfl HI.out ?_)
        refine (rchoose_calls d A cc ws c' w4 HDl.out HBy.out HPos.out HC.out.2 (Kd.C_below HCw.out HB4.out)).mono ?_
        rintro e w5 ⟨he, hb⟩
        have he2 := he _ _ _ HR.out
        rw [if_neg HE.out] at he2
        subst he2
        have HB5 := Aside0.mk (below_step HB4.out hb)
        have HS5 := Aside0.mk (HM.out.at_.below hb)
        clear he hb
        go_wp2_with (first
          | (refine (count_calls d c' g w5 HDl.out HS5.out).mono ?_; rintro e w6 ⟨rfl, rfl⟩)
          | (fail))
        refine (awake_calls w.heap.size w5 (HLo.out.below HB5.out)).mono ?_
        rintro e w7 ⟨rfl, hb⟩
        have HB7 := Aside0.mk (below_step HB5.out hb)
        clear hb
        go_wp2_with (fail)
        go_ret
        exact ⟨rfl, HB7.out⟩
theorem choose_law_n (d : List Int) (c : Int) (A : Option Addr) (n cc : Nat) (ws : List Int) (w : World) (hd : d.length = 32) (hby : ∀ x ∈ d, 0 ≤ x ∧ x < 256) (hc : -9223372036854775808 ≤ c ∧ c ≤ 9223372036854775807) (hCw : Kd.C (Kd.int .i64) w A n ws) (hLf : LaidAt w 1 firstA) (hL : LaidAt w 2 constA) :
    Calls Tryd.prog 6 #[.agg (dA d), .int .i64 c, .slice A n cc] w fun e w' => e = .returned (.bool true) ∧ Below w.heap.size w w' := by
  obtain rfl := hCw.1
  exact choose_law_calls d c A cc ws w hd hby hc hCw hLf hL
end Go.Proofs.YtdmeocoehahopaaDoor.Draw
