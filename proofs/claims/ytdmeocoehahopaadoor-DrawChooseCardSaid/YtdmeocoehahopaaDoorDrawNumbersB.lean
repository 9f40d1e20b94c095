/- The walk of DrawNumbers: whatever the seed and the count, it answers true. -/
import Derived.Test.YtdmeocoehahopaaDoorBun6
namespace Go.Proofs.YtdmeocoehahopaaDoor.Draw
open Go.RowKit Go.Proofs.YtdmeocoehahopaaDoorW.PrintWords Go.Proofs.YtdmeocoehahopaaDoorW.PrintLast Go.Proofs.YtdmeocoehahopaaDoorW.PrintMore Go.Proofs.YtdmeocoehahopaaDoor.K Go.Proofs.YtdmeocoehahopaaDoor.Sha Go.Proofs.YtdmeocoehahopaaDoor.Codec Go.Proofs.YtdmeocoehahopaaDoor.RI
set_option linter.unusedVariables false
set_option linter.unusedSimpArgs false
theorem lo_of {w : World} (hLf : LaidAt w 1 firstA) (hL : LaidAt w 2 constA) : Lo w.heap.size w :=
  ⟨hLf, hL, by obtain ⟨_, _, h⟩ := hLf; exact blk_lt h, by obtain ⟨_, _, h⟩ := hL; exact blk_lt h, Nat.le_refl _⟩
set_option maxHeartbeats 8000000 in
set_option maxRecDepth 100000 in
theorem numbers_law_calls (d : List Int) (c : Int) (w : World) (hd : d.length = 32) (hby : ∀ x ∈ d, 0 ≤ x ∧ x < 256) (hc : -9223372036854775808 ≤ c ∧ c ≤ 9223372036854775807) (hLf : LaidAt w 1 firstA) (hL : LaidAt w 2 constA) :
    Calls Tryd.prog 3 #[.agg (dA d), .int .i64 c] w fun e w' => e = .returned (.bool true) ∧ Below w.heap.size w w' := by
  have HLo := Aside0.mk (lo_of hLf hL)
  have HBy := Aside0.mk hby
  have HDl := Aside0.mk hd
  have HI := Aside0.mk (dig_info hd)
  have HC := Aside0.mk hc
  have HB0 : Aside0 (Below w.heap.size w (w.alloc (.cells (dA d) 23))) := ⟨bel_alloc (Below.refl _ _) _⟩
  have HR0 : Aside0 ((w.alloc (.cells (dA d) 23)).heap[w.heap.size]? = some (.cells (dA d) 23 (0, 0))) := ⟨heap_alloc_new _ _⟩
  clear hLf hL hby hd hc
  by_cases hneg : c < 0
  · have hnD : decide (c < 0) = true := by simpa using hneg
    go_enter Tryd.func3, Tryd.ntmps3
    have HNeg := Aside0.mk hneg
    clear hneg
    go_wp2_with (with_reducible refine wpList_load_row rfl 23 (.tmp 2) rfl w.heap.size rfl 23 (dA d) (0, 0) _ HR0.out Tryd.underlying23 rfl HI.out ?_)
    generalize w.alloc (.cells (dA d) 23) = w0 at *
    refine (Number_calls d c w0 HDl.out HBy.out (HLo.out.below HB0.out).f (HLo.out.below HB0.out).c).mono ?_
    rintro e w1 ⟨he, hb⟩
    have he2 : e = .returned (.tuple #[.int .i64 0, .int .i64 10]) := by unfold NumEnd at he; rwa [if_pos HNeg.out] at he
    subst he2
    have HB1 := Aside0.mk (below_step HB0.out hb)
    have HR1 : Aside0 (w1.heap[w.heap.size]? = some (.cells (dA d) 23 (0, 0))) := ⟨(hb.block _ (blk_lt HR0.out)).trans HR0.out⟩
    clear he hb
    go_wp2_with (with_reducible refine wpList_load_row rfl 23 (.tmp 2) rfl w.heap.size rfl 23 (dA d) (0, 0) _ HR1.out Tryd.underlying23 rfl HI.out ?_)
    refine (new_neg_calls d c w1 HNeg.out).mono ?_
    rintro e w2 ⟨rfl, hb⟩
    have HB2 := Aside0.mk (below_step HB1.out hb)
    clear hb
    go_wp2_with (fail)
    refine (awake_calls w.heap.size w2 (HLo.out.below HB2.out)).mono ?_
    rintro e w3 ⟨rfl, hb⟩
    have HB3 := Aside0.mk (below_step HB2.out hb)
    clear hb
    go_wp2_with (fail)
    go_ret
    exact ⟨rfl, HB3.out⟩
  · have hnD : decide (c < 0) = false := by simpa using hneg
    have HPos : Aside0 (0 ≤ c) := ⟨by omega⟩
    clear hneg
    go_enter Tryd.func3, Tryd.ntmps3
    go_wp2_with (with_reducible refine wpList_load_row rfl 23 (.tmp 2) rfl w.heap.size rfl 23 (dA d) (0, 0) _ HR0.out Tryd.underlying23 rfl HI.out ?_)
    generalize w.alloc (.cells (dA d) 23) = w0 at *
    refine (Number_calls d c w0 HDl.out HBy.out (HLo.out.below HB0.out).f (HLo.out.below HB0.out).c).mono ?_
    rintro e w1 ⟨he, hb⟩
    have he2 : e = .returned (.tuple #[.int .i64 (numV d c), .int .i64 0]) := by unfold NumEnd at he; rwa [if_neg (by have := HPos.out; omega)] at he
    subst he2
    have HB1 := Aside0.mk (below_step HB0.out hb)
    have HR1 : Aside0 (w1.heap[w.heap.size]? = some (.cells (dA d) 23 (0, 0))) := ⟨(hb.block _ (blk_lt HR0.out)).trans HR0.out⟩
    clear he hb
    go_wp2_with (with_reducible refine wpList_load_row rfl 23 (.tmp 2) rfl w.heap.size rfl 23 (dA d) (0, 0) _ HR1.out Tryd.underlying23 rfl HI.out ?_)
    refine (new_calls d c w1 HDl.out (by have := HPos.out; omega)).mono ?_
    rintro e w2 ⟨g, rfl, hg, hs, hb⟩
    have HB2 := Aside0.mk (below_step HB1.out hb)
    have HR2 : Aside0 (w2.heap[w.heap.size]? = some (.cells (dA d) 23 (0, 0))) := ⟨(hb.block _ (blk_lt HR1.out)).trans HR1.out⟩
    have HS2 := Aside0.mk hs
    have HG : Aside0 (w.heap.size ≤ g) := ⟨Nat.le_trans HB1.out.size hg⟩
    clear hg hs hb
    go_wp2_with (with_reducible refine wpList_load_row rfl 23 (.tmp 2) rfl w.heap.size rfl 23 (dA d) (0, 0) _ HR2.out Tryd.underlying23 rfl HI.out ?_)
    refine (rnumber_calls d c w2 HDl.out HBy.out (by have := HC.out; omega)).mono ?_
    rintro e w3 ⟨rfl, hb⟩
    have HB3 := Aside0.mk (below_step HB2.out hb)
    have HS3 := Aside0.mk (HS2.out.below hb)
    clear hb
    go_wp2_with (fail)
    refine (count_calls d c g w3 HDl.out HS3.out).mono ?_
    rintro e w4 ⟨rfl, rfl⟩
    go_wp2_with (fail)
    refine (Next_calls d c g w.heap.size w3 HDl.out HBy.out HS3.out HPos.out HC.out.2 HG.out (HLo.out.below HB3.out)).mono ?_
    rintro e w4 ⟨x, er, c', hR, hh⟩
    by_cases hmax : c = 9223372036854775807
    · obtain ⟨rfl, rfl, rfl⟩ : x = 0 ∧ er = 17 ∧ c' = c := by unfold nextV at hR; rwa [if_pos hmax] at hR
      subst hmax
      rcases hh with ⟨h, _⟩ | ⟨_, rfl, hm⟩
      · exact absurd h (by decide)
      · have HM := Aside0.mk hm
        clear hm hR
        go_wp2_with (first
          | (refine (count_calls d _ g w4 HDl.out HM.out.at_).mono ?_; rintro e w5 ⟨rfl, rfl⟩)
          | (fail))
        refine (awake_calls w.heap.size w4 (HLo.out.below (HB3.out.trans HM.out.bel))).mono ?_
        rintro e w6 ⟨rfl, hb⟩
        have HB6 := Aside0.mk (below_step (HB3.out.trans HM.out.bel) hb)
        clear hb
        go_wp2_with (fail)
        go_ret
        exact ⟨rfl, HB6.out⟩
    · obtain ⟨rfl, rfl, rfl⟩ : x = numV d c ∧ er = 0 ∧ c' = c + 1 := by unfold nextV at hR; rwa [if_neg hmax] at hR
      rcases hh with ⟨_, rfl, hm⟩ | ⟨h, _⟩
      · have HM := Aside0.mk hm
        have hmD : (c == 9223372036854775807) = false := by simpa using hmax
        have hw : IntKind.i64.wrap (c + 1) = c + 1 := by have := HC.out; have := HPos.out; rw [IntKind.wrap_i64]; omega
        clear hm hR hmax
        go_wp2_with (first
          | (refine (count_calls d _ g w4 HDl.out HM.out.at_).mono ?_; rintro e w5 ⟨rfl, rfl⟩)
          | (fail))
        refine (awake_calls w.heap.size w4 (HLo.out.below (HB3.out.trans HM.out.bel))).mono ?_
        rintro e w6 ⟨rfl, hb⟩
        have HB6 := Aside0.mk (below_step (HB3.out.trans HM.out.bel) hb)
        clear hb
        go_wp2_with (fail)
        go_ret
        exact ⟨rfl, HB6.out⟩
      · exact absurd rfl h
end Go.Proofs.YtdmeocoehahopaaDoor.Draw
