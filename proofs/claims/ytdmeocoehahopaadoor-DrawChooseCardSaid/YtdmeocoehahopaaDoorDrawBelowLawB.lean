/- The walk of DrawBelow: whatever the seed, the count and the number, it answers true. -/
import Derived.Test.YtdmeocoehahopaaDoorDrawNumbersB
import Derived.Test.YtdmeocoehahopaaDoorDrawRefBB
namespace Go.Proofs.YtdmeocoehahopaaDoor.Draw
open Go.RowKit Go.Proofs.YtdmeocoehahopaaDoorW.PrintWords Go.Proofs.YtdmeocoehahopaaDoorW.PrintLast Go.Proofs.YtdmeocoehahopaaDoorW.PrintMore Go.Proofs.YtdmeocoehahopaaDoor.K Go.Proofs.YtdmeocoehahopaaDoor.Sha Go.Proofs.YtdmeocoehahopaaDoor.Codec Go.Proofs.YtdmeocoehahopaaDoor.RI
set_option linter.unusedVariables false
set_option linter.unusedSimpArgs false
theorem belowF_c (d : List Int) (n : Int) : ∀ (k : Nat) (c x er c' : Int), belowF d n k c = (x, er, c') → c ≤ 9223372036854775807 → c ≤ c' ∧ c' ≤ 9223372036854775807 ∧ c' ≤ c + k ∧ (er ≠ 0 → x = 0)
  | 0, c, x, er, c', h, hc => by cases h; exact ⟨Int.le_refl _, hc, by omega, fun _ => rfl⟩
  | k + 1, c, x, er, c', h, hc => by
    unfold belowF at h
    split at h
    · cases h; exact ⟨Int.le_refl _, hc, by omega, fun _ => rfl⟩
    · split at h
      · cases h; exact ⟨by omega, by omega, by omega, fun h9 => absurd rfl h9⟩
      · have h1 := belowF_c d n k (c + 1) x er c' h (by omega)
        exact ⟨by omega, h1.2.1, by omega, h1.2.2.2⟩
theorem belowV_c {d : List Int} {n c x er c' : Int} (h : belowV d n c = (x, er, c')) (hc : c ≤ 9223372036854775807) : c ≤ c' ∧ c' ≤ 9223372036854775807 ∧ c' ≤ c + 64 ∧ (er ≠ 0 → x = 0) := by
  unfold belowV at h
  split at h
  · cases h; exact ⟨Int.le_refl _, hc, by omega, fun _ => rfl⟩
  · exact belowF_c d n 64 c x er c' h hc
set_option maxHeartbeats 8000000 in
set_option maxRecDepth 100000 in
theorem below_law_calls (d : List Int) (c n : Int) (w : World) (hd : d.length = 32) (hby : ∀ x ∈ d, 0 ≤ x ∧ x < 256) (hc : -9223372036854775808 ≤ c ∧ c ≤ 9223372036854775807) (hn : -9223372036854775808 ≤ n ∧ n ≤ 9223372036854775807) (hLf : LaidAt w 1 firstA) (hL : LaidAt w 2 constA) :
    Calls Tryd.prog 5 #[.agg (dA d), .int .i64 c, .int .i64 n] w fun e w' => e = .returned (.bool true) ∧ Below w.heap.size w w' := by
  have HLo := Aside0.mk (lo_of hLf hL)
  have HBy := Aside0.mk hby
  have HDl := Aside0.mk hd
  have HI := Aside0.mk (dig_info hd)
  have HC := Aside0.mk hc
  have HN := Aside0.mk hn
  have HB0 : Aside0 (Below w.heap.size w (w.alloc (.cells (dA d) 23))) := ⟨bel_alloc (Below.refl _ _) _⟩
  have HR0 : Aside0 ((w.alloc (.cells (dA d) 23)).heap[w.heap.size]? = some (.cells (dA d) 23 (0, 0))) := ⟨heap_alloc_new _ _⟩
  clear hLf hL hby hd hc hn
  by_cases hneg : c < 0
  · have hnD : decide (c < 0) = true := by simpa using hneg
    have HNeg := Aside0.mk hneg
    clear hneg
    go_enter Tryd.func5, Tryd.ntmps5
    go_wp2_with (with_reducible refine wpList_load_row rfl 23 (.tmp 3) rfl w.heap.size rfl 23 (dA d) (0, 0) _ HR0.out Tryd.underlying23 rfl HI.out ?_)
    generalize w.alloc (.cells (dA d) 23) = w0 at *
    refine (new_neg_calls d c w0 HNeg.out).mono ?_
    rintro e w2 ⟨rfl, hb⟩
    have HB2 := Aside0.mk (below_step HB0.out hb)
    clear hb
    go_wp2_with (fail)
    refine (awake_calls w.heap.size w2 (HLo.out.below HB2.out)).mono ?_
    rintro e w3 ⟨rfl, hb⟩
    have HB3 := Aside0.mk (below_step HB2.out hb)
    clear hb
    go_wp2_with (fail)
    go_ret
    exact ⟨rfl, HB3.out⟩
  · have hnD : decide (c < 0) = false := by simpa using hneg
    have HPos : Aside0 (0 ≤ c) := ⟨by omega⟩
    clear hneg
    go_enter Tryd.func5, Tryd.ntmps5
    go_wp2_with (with_reducible refine wpList_load_row rfl 23 (.tmp 3) rfl w.heap.size rfl 23 (dA d) (0, 0) _ HR0.out Tryd.underlying23 rfl HI.out ?_)
    generalize w.alloc (.cells (dA d) 23) = w0 at *
    refine (new_calls d c w0 HDl.out (by have := HPos.out; omega)).mono ?_
    rintro e w2 ⟨g, rfl, hg, hs, hb⟩
    have HB2 := Aside0.mk (below_step HB0.out hb)
    have HR2 : Aside0 (w2.heap[w.heap.size]? = some (.cells (dA d) 23 (0, 0))) := ⟨(hb.block _ (blk_lt HR0.out)).trans HR0.out⟩
    have HS2 := Aside0.mk hs
    have HG := Aside0.mk hg
    have HGw : Aside0 (w.heap.size < w0.heap.size) := ⟨blk_lt HR0.out⟩
    have HLo2 : Aside0 (Lo w0.heap.size w2) := ⟨by
      have h1 := HLo.out.below HB2.out
      exact ⟨h1.f, h1.c, Nat.lt_trans h1.gf HGw.out, Nat.lt_trans h1.gc HGw.out, hb.size⟩⟩
    clear hg hs hb
    go_wp2_with (fail)
    refine (Below_calls d n c g w0.heap.size w2 HDl.out HBy.out HS2.out HPos.out HC.out.2 HN.out.2 HG.out HLo2.out).mono ?_
    rintro e w4 ⟨x, er, c', hR, hh⟩
    have hcc := belowV_c hR HC.out.2
    have HR := Aside0.mk hR
    clear hR
    rcases hh with ⟨rfl, rfl, hm⟩ | ⟨her, rfl, hm⟩
    · have HM := Aside0.mk hm
      have HR4 : Aside0 (w4.heap[w.heap.size]? = some (.cells (dA d) 23 (0, 0))) := ⟨(hm.bel.block _ HGw.out).trans HR2.out⟩
      have HB4 : Aside0 (Below w.heap.size w w4) := ⟨HB2.out.trans (hm.bel.mono (Nat.le_of_lt HGw.out))⟩
      have hw : IntKind.i64.wrap (c + (c' - c)) = c' := by have := HPos.out; rw [IntKind.wrap_i64]; omega
      clear hm hcc
      go_wp2_with (with_reducible refine wpList_load_row rfl 23 (.tmp 3) rfl w.heap.size rfl 23 (dA d) (0, 0) _ HR4.out Tryd.underlying23 rfl HI.out ?_)
      refine (rbelow_calls d n c w4 HDl.out HBy.out HPos.out HC.out.2 HN.out.1 HN.out.2).mono ?_
      rintro e w5 ⟨he, hb⟩
      have he2 := he _ _ _ HR.out
      rw [if_pos rfl] at he2
      subst he2
      have HB5 := Aside0.mk (below_step HB4.out hb)
      have HS5 := Aside0.mk (HM.out.at_.below hb)
      clear he hb
      obtain ⟨df, hdf⟩ : ∃ df, df = c' - c := ⟨_, rfl⟩
      rw [← hdf] at hw ⊢
      clear hdf
      go_wp2_with (first
        | (refine (count_calls d c' g w5 HDl.out HS5.out).mono ?_; rintro e w6 ⟨rfl, rfl⟩)
        | (fail))
      refine (awake_calls w.heap.size w5 (HLo.out.below HB5.out)).mono ?_
      rintro e w7 ⟨rfl, hb⟩
      have HB7 := Aside0.mk (below_step HB5.out hb)
      clear hb
      go_wp2_with (fail)
      go_ret
      exact ⟨rfl, HB7.out⟩
    · have HM := Aside0.mk hm
      obtain rfl : x = 0 := hcc.2.2.2 her
      have HR4 : Aside0 (w4.heap[w.heap.size]? = some (.cells (dA d) 23 (0, 0))) := ⟨(hm.bel.block _ HGw.out).trans HR2.out⟩
      have HB4 : Aside0 (Below w.heap.size w w4) := ⟨HB2.out.trans (hm.bel.mono (Nat.le_of_lt HGw.out))⟩
      have hw : IntKind.i64.wrap c = c := by have := HPos.out; have := HC.out; rw [IntKind.wrap_i64]; omega
      have HE := Aside0.mk her
      clear hm hcc her
      go_wp2_with (with_reducible refine wpList_load_row rfl 23 (.tmp 3) rfl w.heap.size rfl 23 (dA d) (0, 0) _ HR4.out Tryd.underlying23 rfl HI.out ?_)
      refine (rbelow_calls d n c w4 HDl.out HBy.out HPos.out HC.out.2 HN.out.1 HN.out.2).mono ?_
      rintro e w5 ⟨he, hb⟩
      have he2 := he _ _ _ HR.out
      rw [if_neg HE.out] at he2
      subst he2
      have HB5 := Aside0.mk (below_step HB4.out hb)
      have HS5 := Aside0.mk (HM.out.at_.below hb)
      clear he hb
      go_wp2_with (first
        | (refine (count_calls d c g w5 HDl.out HS5.out).mono ?_; rintro e w6 ⟨rfl, rfl⟩)
        | (fail))
      refine (awake_calls w.heap.size w5 (HLo.out.below HB5.out)).mono ?_
      rintro e w7 ⟨rfl, hb⟩
      have HB7 := Aside0.mk (below_step HB5.out hb)
      clear hb
      go_wp2_with (fail)
      go_ret
      exact ⟨rfl, HB7.out⟩
end Go.Proofs.YtdmeocoehahopaaDoor.Draw
