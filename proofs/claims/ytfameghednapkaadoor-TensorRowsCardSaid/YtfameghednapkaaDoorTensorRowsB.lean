/- TensorRows: the law's walk. -/
import Derived.Test.YtfameghednapkaaDoorRowsPB
import Derived.Test.YtfameghednapkaaDoorMulAllB
import Derived.Test.YtfameghednapkaaDoorBunT3
namespace Go.Proofs.YtfameghednapkaaDoor.Ten
open Go.RowKit Go.Proofs.YtfameghednapkaaDoorW.PrintWords Go.Proofs.YtfameghednapkaaDoorW.PrintLast Go.Proofs.YtfameghednapkaaDoorW.PrintMore Go.Proofs.YtfameghednapkaaDoor.K Go.Proofs.YtfameghednapkaaDoor.RI Go.Proofs.YtfameghednapkaaDoor.Fixed
set_option linter.unusedVariables false
set_option linter.unusedSimpArgs false
def RowsF (ra cols : Int) (Aa : Option Addr) (ca : Nat) (la : List Int) (g cn : Nat) (Lz : List Int) (iv : Nat) (xv : Value) (W : World) : Prop := match iv with
  | 0 => xv = .agg #[.int .i64 ra, .int .i64 cols, .slice Aa la.length ca]
  | 1 => xv = .pointer (some ⟨g, 1, none⟩)
  | 2 => xv = .int .i64 cols
  | 3 => ∃ Am, xv = .slice Am cn cn ∧ Kd.C (Kd.int .i64) W Am cn (List.replicate cn 0)
  | 4 => ∃ A c, xv = .tuple #[.slice A Lz.length c, .int .i64 0] ∧ Kd.C (Kd.int .i64) W A Lz.length Lz
  | 5 => ∃ A c, xv = .tuple #[.slice A Lz.length c, .int .i64 0] ∧ Kd.C (Kd.int .i64) W A Lz.length Lz
  | 6 => ∃ A c, xv = .slice A Lz.length c ∧ Kd.C (Kd.int .i64) W A Lz.length Lz
  | 7 => xv = .int .i64 0
  | 8 => ∃ A c, xv = .slice A Lz.length c ∧ Kd.C (Kd.int .i64) W A Lz.length Lz
  | 9 => xv = .int .i64 0
  | _ => True
theorem RowsF.step (ra cols : Int) (Aa : Option Addr) (ca : Nat) (la : List Int) (g cn : Nat) (Lz : List Int) (i : Nat) (x : Value) (W W' : World) (hb : Below W.heap.size W W') (h : RowsF ra cols Aa ca la g cn Lz i x W) : RowsF ra cols Aa ca la g cn Lz i x W' := by
  unfold RowsF at *
  split <;> simp only at h ⊢
  · exact h
  · exact h
  · exact h
  · obtain ⟨Am, e, h⟩ := h; exact ⟨Am, e, Kd.C_below h hb⟩
  · obtain ⟨A, c, e, h⟩ := h; exact ⟨A, c, e, Kd.C_below h hb⟩
  · obtain ⟨A, c, e, h⟩ := h; exact ⟨A, c, e, Kd.C_below h hb⟩
  · obtain ⟨A, c, e, h⟩ := h; exact ⟨A, c, e, Kd.C_below h hb⟩
  · exact h
  · obtain ⟨A, c, e, h⟩ := h; exact ⟨A, c, e, Kd.C_below h hb⟩
  · exact h
set_option maxHeartbeats 16000000 in
set_option maxRecDepth 100000 in
theorem rows_calls (ra cols : Int) (Aa : Option Addr) (ca : Nat) (la : List Int) (rb colsb : Int) (Ab : Option Addr) (cb : Nat) (lb : List Int) (Av : Option Addr) (cv : Nat) (v : List Int) (w : World)
    (hCa : Kd.C (Kd.int .i64) w Aa la.length la) (hca : la.length ≤ ca) (hCb : Kd.C (Kd.int .i64) w Ab lb.length lb) (hcb : lb.length ≤ cb) (hV : Kd.C (Kd.int .i64) w Av v.length v) (hcv : v.length ≤ cv) (hL : LaidAt w 0 stepsA) :
    Calls Tryd.prog 8 #[.agg #[.int .i64 ra, .int .i64 cols, .slice Aa la.length ca], .agg #[.int .i64 rb, .int .i64 colsb, .slice Ab lb.length cb], .slice Av v.length cv] w fun e w' => e = .returned (.bool true) ∧ Below w.heap.size w w' := by
  have HL := Aside0.mk hL
  have HCa := Aside0.mk hCa
  have HCb := Aside0.mk hCb
  have HV := Aside0.mk hV
  have HCc := Aside0.mk (And.intro hca (And.intro hcb hcv))
  have HB0 : Aside0 (Below w.heap.size w ((w.alloc (.cells #[.int .i64 ra, .int .i64 cols, .slice Aa la.length ca] 36)).alloc (.cells #[.int .i64 rb, .int .i64 colsb, .slice Ab lb.length cb] 36))) := ⟨bel_alloc (bel_alloc (Below.refl _ _) _) _⟩
  have HX0 : Aside0 (((w.alloc (.cells #[.int .i64 ra, .int .i64 cols, .slice Aa la.length ca] 36)).alloc (.cells #[.int .i64 rb, .int .i64 colsb, .slice Ab lb.length cb] 36)).heap[w.heap.size]? = some (.cells #[.int .i64 ra, .int .i64 cols, .slice Aa la.length ca] 36 (0, 0))) := ⟨blk_alloc (heap_alloc_new _ _) _⟩
  have HY0 : Aside0 (((w.alloc (.cells #[.int .i64 ra, .int .i64 cols, .slice Aa la.length ca] 36)).alloc (.cells #[.int .i64 rb, .int .i64 colsb, .slice Ab lb.length cb] 36)).heap[w.heap.size + 1]? = some (.cells #[.int .i64 rb, .int .i64 colsb, .slice Ab lb.length cb] 36 (0, 0))) := ⟨by
    have h := heap_alloc_new (w.alloc (.cells #[.int .i64 ra, .int .i64 cols, .slice Aa la.length ca] 36)) (.cells #[.int .i64 rb, .int .i64 colsb, .slice Ab lb.length cb] 36)
    rwa [World.size_alloc] at h⟩
  have HL1 : Aside0 (la.length ≤ 9223372036854775807 ∧ lb.length ≤ 9223372036854775807 ∧ v.length ≤ 9223372036854775807) := ⟨hCa.2.1, hCb.2.1, hV.2.1⟩
  clear hCa hCb hV hL hca hcb hcv
  by_cases h1 : 300 < la.length
  · have dh1 : decide (300 < (la.length : Int)) = true := by simp; omega
    clear h1
    go_enter Tryd.func8, Tryd.ntmps8
    go_wp2_with (fail)
    generalize ((w.alloc (.cells #[.int .i64 ra, .int .i64 cols, .slice Aa la.length ca] 36)).alloc (.cells #[.int .i64 rb, .int .i64 colsb, .slice Ab lb.length cb] 36)) = w0 at *
    refine (awake07_calls w0 (HL.out.below HB0.out)).mono ?_
    rintro e wz ⟨rfl, hb⟩
    have HBz := Aside0.mk (below_step HB0.out hb)
    clear hb
    go_wp2_with (fail)
    go_ret
    exact ⟨rfl, HBz.out⟩
  · have dh1 : decide (300 < (la.length : Int)) = false := by simp; omega
    by_cases h2 : 300 < lb.length
    · have dh2 : decide (300 < (lb.length : Int)) = true := by simp; omega
      clear h2
      go_enter Tryd.func8, Tryd.ntmps8
      go_wp2_with (fail)
      generalize ((w.alloc (.cells #[.int .i64 ra, .int .i64 cols, .slice Aa la.length ca] 36)).alloc (.cells #[.int .i64 rb, .int .i64 colsb, .slice Ab lb.length cb] 36)) = w0 at *
      refine (awake07_calls w0 (HL.out.below HB0.out)).mono ?_
      rintro e wz ⟨rfl, hb⟩
      have HBz := Aside0.mk (below_step HB0.out hb)
      clear hb
      go_wp2_with (fail)
      go_ret
      exact ⟨rfl, HBz.out⟩
    · have dh2 : decide (300 < (lb.length : Int)) = false := by simp; omega
      by_cases h3 : 64 < v.length
      · have dh3 : decide (64 < (v.length : Int)) = true := by simp; omega
        clear h3
        go_enter Tryd.func8, Tryd.ntmps8
        go_wp2_with (fail)
        generalize ((w.alloc (.cells #[.int .i64 ra, .int .i64 cols, .slice Aa la.length ca] 36)).alloc (.cells #[.int .i64 rb, .int .i64 colsb, .slice Ab lb.length cb] 36)) = w0 at *
        refine (awake07_calls w0 (HL.out.below HB0.out)).mono ?_
        rintro e wz ⟨rfl, hb⟩
        have HBz := Aside0.mk (below_step HB0.out hb)
        clear hb
        go_wp2_with (fail)
        go_ret
        exact ⟨rfl, HBz.out⟩
      · have dh3 : decide (64 < (v.length : Int)) = false := by simp; omega
        by_cases h4 : cols ≠ colsb
        · have dh4 : (cols != colsb) = true := by simpa using h4
          clear h4
          go_enter Tryd.func8, Tryd.ntmps8
          go_wp2_with (fail)
          generalize ((w.alloc (.cells #[.int .i64 ra, .int .i64 cols, .slice Aa la.length ca] 36)).alloc (.cells #[.int .i64 rb, .int .i64 colsb, .slice Ab lb.length cb] 36)) = w0 at *
          refine (awake07_calls w0 (HL.out.below HB0.out)).mono ?_
          rintro e wz ⟨rfl, hb⟩
          have HBz := Aside0.mk (below_step HB0.out hb)
          clear hb
          go_wp2_with (fail)
          go_ret
          exact ⟨rfl, HBz.out⟩
        · obtain rfl : cols = colsb := by simpa using h4
          have HLn : Aside0 (la.length ≤ 300 ∧ lb.length ≤ 300 ∧ v.length ≤ 64) := ⟨by omega⟩
          clear h1 h2 h3 h4
          obtain ⟨za, hza⟩ : ∃ z, mV ra cols la = z := ⟨_, rfl⟩
          have HZa := Aside0.mk hza
          clear hza
          by_cases h5 : za = 0
          · subst h5
            obtain ⟨zb, hzb⟩ : ∃ z, mV rb cols lb = z := ⟨_, rfl⟩
            have HZb := Aside0.mk hzb
            clear hzb
            by_cases h6 : zb = 0
            · subst h6
              have hr1 := (m_ok HZa.out).2.1
              have hr2 := (m_ok HZb.out).2.1
              have hr3 := (m_ok HZa.out).1
              have hr4 := (m_ok HZb.out).1
              have hwr : IntKind.i64.wrap (ra + rb) = ra + rb := by rw [IntKind.wrap_i64]; omega
              by_cases h7 : 512 < ra + rb
              · have dh7 : decide (512 < ra + rb) = true := by simpa using h7
                clear h7 hr1 hr2 hr3 hr4
                go_enter Tryd.func8, Tryd.ntmps8
                go_wp2_with (fail)
                generalize ((w.alloc (.cells #[.int .i64 ra, .int .i64 cols, .slice Aa la.length ca] 36)).alloc (.cells #[.int .i64 rb, .int .i64 cols, .slice Ab lb.length cb] 36)) = w0 at *
                refine (mcheck_calls ra cols Aa ca la w0 (Kd.C_below HCa.out HB0.out)).mono ?_
                rw [HZa.out]
                rintro e w1 ⟨rfl, hb⟩
                have HB1 := Aside0.mk (below_step HB0.out hb)
                have HX1 : Aside0 (w1.heap[w.heap.size]? = some (.cells #[.int .i64 ra, .int .i64 cols, .slice Aa la.length ca] 36 (0, 0))) := ⟨(hb.block _ (blk_lt HX0.out)).trans HX0.out⟩
                have HY1 : Aside0 (w1.heap[w.heap.size + 1]? = some (.cells #[.int .i64 rb, .int .i64 cols, .slice Ab lb.length cb] 36 (0, 0))) := ⟨(hb.block _ (blk_lt HY0.out)).trans HY0.out⟩
                clear hb
                obtain ⟨ha0, ha1, ha2⟩ := mat_cells HX1.out
                obtain ⟨hb0, hb1, hb2⟩ := mat_cells HY1.out
                go_wp2_with (fail)
                clear ha0 ha1 ha2 hb0 hb1 hb2
                refine (mcheck_calls rb cols Ab cb lb w1 (Kd.C_below HCb.out HB1.out)).mono ?_
                rw [HZb.out]
                rintro e w2 ⟨rfl, hb⟩
                have HB2 := Aside0.mk (below_step HB1.out hb)
                have HX2 : Aside0 (w2.heap[w.heap.size]? = some (.cells #[.int .i64 ra, .int .i64 cols, .slice Aa la.length ca] 36 (0, 0))) := ⟨(hb.block _ (blk_lt HX1.out)).trans HX1.out⟩
                have HY2 : Aside0 (w2.heap[w.heap.size + 1]? = some (.cells #[.int .i64 rb, .int .i64 cols, .slice Ab lb.length cb] 36 (0, 0))) := ⟨(hb.block _ (blk_lt HY1.out)).trans HY1.out⟩
                clear hb
                obtain ⟨ha0, ha1, ha2⟩ := mat_cells HX2.out
                obtain ⟨hb0, hb1, hb2⟩ := mat_cells HY2.out
                go_wp2_with (fail)
                clear ha0 ha1 ha2 hb0 hb1 hb2
                refine (awake07_calls w2 (HL.out.below HB2.out)).mono ?_
                rintro e wz ⟨rfl, hb⟩
                have HBz := Aside0.mk (below_step HB2.out hb)
                clear hb
                go_wp2_with (fail)
                go_ret
                exact ⟨rfl, HBz.out⟩
              · have dh7 : decide (512 < ra + rb) = false := by simpa using h7
                have H512 : Aside0 (ra + rb ≤ 512) := ⟨by omega⟩
                clear h7 hr1 hr2 hr3 hr4
                go_enter Tryd.func8, Tryd.ntmps8
                go_wp2_with (fail)
                generalize ((w.alloc (.cells #[.int .i64 ra, .int .i64 cols, .slice Aa la.length ca] 36)).alloc (.cells #[.int .i64 rb, .int .i64 cols, .slice Ab lb.length cb] 36)) = w0 at *
                refine (mcheck_calls ra cols Aa ca la w0 (Kd.C_below HCa.out HB0.out)).mono ?_
                rw [HZa.out]
                rintro e w1 ⟨rfl, hb⟩
                have HB1 := Aside0.mk (below_step HB0.out hb)
                have HX1 : Aside0 (w1.heap[w.heap.size]? = some (.cells #[.int .i64 ra, .int .i64 cols, .slice Aa la.length ca] 36 (0, 0))) := ⟨(hb.block _ (blk_lt HX0.out)).trans HX0.out⟩
                have HY1 : Aside0 (w1.heap[w.heap.size + 1]? = some (.cells #[.int .i64 rb, .int .i64 cols, .slice Ab lb.length cb] 36 (0, 0))) := ⟨(hb.block _ (blk_lt HY0.out)).trans HY0.out⟩
                clear hb
                obtain ⟨ha0, ha1, ha2⟩ := mat_cells HX1.out
                obtain ⟨hb0, hb1, hb2⟩ := mat_cells HY1.out
                go_wp2_with (fail)
                clear ha0 ha1 ha2 hb0 hb1 hb2
                refine (mcheck_calls rb cols Ab cb lb w1 (Kd.C_below HCb.out HB1.out)).mono ?_
                rw [HZb.out]
                rintro e w2 ⟨rfl, hb⟩
                have HB2 := Aside0.mk (below_step HB1.out hb)
                have HX2 : Aside0 (w2.heap[w.heap.size]? = some (.cells #[.int .i64 ra, .int .i64 cols, .slice Aa la.length ca] 36 (0, 0))) := ⟨(hb.block _ (blk_lt HX1.out)).trans HX1.out⟩
                have HY2 : Aside0 (w2.heap[w.heap.size + 1]? = some (.cells #[.int .i64 rb, .int .i64 cols, .slice Ab lb.length cb] 36 (0, 0))) := ⟨(hb.block _ (blk_lt HY1.out)).trans HY1.out⟩
                clear hb
                obtain ⟨ha0, ha1, ha2⟩ := mat_cells HX2.out
                obtain ⟨hb0, hb1, hb2⟩ := mat_cells HY2.out
                obtain ⟨lc, hlc⟩ : ∃ lc, lc = la ++ lb := ⟨_, rfl⟩
                have HLc := Aside0.mk hlc
                clear hlc
                obtain ⟨W3, hW3⟩ : ∃ W3, W3 = w2.alloc (.cells #[.int .i64 (ra + rb), .int .i64 cols, .slice none 0 0] 36) := ⟨_, rfl⟩
                have HZ3 : Aside0 (W3.heap[w2.heap.size]? = some (.cells #[.int .i64 (ra + rb), .int .i64 cols, .slice none 0 0] 36 (0, 0))) := ⟨by rw [hW3]; exact heap_alloc_new _ _⟩
                have HX3 : Aside0 (W3.heap[w.heap.size]? = some (.cells #[.int .i64 ra, .int .i64 cols, .slice Aa la.length ca] 36 (0, 0))) := ⟨by rw [hW3]; exact blk_alloc HX2.out _⟩
                have HY3 : Aside0 (W3.heap[w.heap.size + 1]? = some (.cells #[.int .i64 rb, .int .i64 cols, .slice Ab lb.length cb] 36 (0, 0))) := ⟨by rw [hW3]; exact blk_alloc HY2.out _⟩
                have HB3 : Aside0 (Below w.heap.size w W3) := ⟨by rw [hW3]; exact bel_alloc HB2.out _⟩
                have HS3 : Aside0 (W3.heap.size = w2.heap.size + 1) := ⟨by rw [hW3, World.size_alloc]⟩
                have HW3 := Aside0.mk hW3
                clear hW3
                have hz1 : w.heap.size < w2.heap.size := blk_lt HX2.out
                have hz2 : w.heap.size + 1 < w2.heap.size := blk_lt HY2.out
                have HL8 : Aside0 ((([] : List Int).length + la.length) * 8 ≤ 140737488355328) := ⟨by have := HLn.out; simp; omega⟩
                have HL9 : Aside0 ((la.length + lb.length) * 8 ≤ 140737488355328) := ⟨by have := HLn.out; omega⟩
                obtain ⟨ha0', ha1', ha2'⟩ := mat_cells HX3.out
                obtain ⟨he0, he1, he2⟩ := mat_cells HZ3.out
                have hfe2 := blk_frozen HZ3.out 2
                go_upto_region 4 with (fail)
                rw [← HW3.out]
                go_upto_region 5 with (at_builtin; refine print_append_row (w0 := W3) (W := W3) (w2.heap.size + 1) rfl (.tmp 69) (.tmp 71) 22 3 .i64 8 rfl Tryd.underlying22 info_int (by decide) (.slice none 0 0) [] la Aa la.length ca rfl rfl (own_nil _ _ _ _) (reads_int (Kd.C_below HCa.out HB3.out)) (Below.refl _ _) (by rw [HS3.out]; exact Nat.le_refl _) HL8.out ?_; intro v1 w4 hown hbw hgr hat; rw [List.nil_append] at hown; obtain ⟨A4, c4, rfl⟩ := own_slice hown; have HA1 := Aside0.mk (And.intro hown hbw); obtain ⟨hd0, hd1, hd2⟩ := mat_cells ((hbw.block _ (Nat.lt_succ_self _)).trans HZ3.out); have hfd2 := blk_frozen ((hbw.block _ (Nat.lt_succ_self _)).trans HZ3.out) 2; clear hown hbw hgr hat)
                clear ha0' ha1' ha2' he0 he1 he2 hfe2 hd0 hd1 hd2 hfd2
                have HSb : Aside0 (w.heap.size ≤ w2.heap.size + 1 ∧ w.heap.size ≠ w2.heap.size ∧ w.heap.size + 1 ≠ w2.heap.size ∧ w.heap.size < w2.heap.size + 1 ∧ w.heap.size + 1 < w2.heap.size + 1) := ⟨by omega⟩
                have HZ5 : Aside0 ((w4.setCell ⟨w2.heap.size, 2, none⟩ (.slice A4 la.length c4)).heap[w2.heap.size]? = some (.cells #[.int .i64 (ra + rb), .int .i64 cols, .slice A4 la.length c4] 36 (0, 0))) := ⟨blk_put ((HA1.out.2.block _ (Nat.lt_succ_self _)).trans HZ3.out) 2 _ rfl⟩
                have HX5 : Aside0 ((w4.setCell ⟨w2.heap.size, 2, none⟩ (.slice A4 la.length c4)).heap[w.heap.size]? = some (.cells #[.int .i64 ra, .int .i64 cols, .slice Aa la.length ca] 36 (0, 0))) := ⟨blk_far ((HA1.out.2.block _ HSb.out.2.2.2.1).trans HX3.out) HSb.out.2.1 _⟩
                have HY5 : Aside0 ((w4.setCell ⟨w2.heap.size, 2, none⟩ (.slice A4 la.length c4)).heap[w.heap.size + 1]? = some (.cells #[.int .i64 rb, .int .i64 cols, .slice Ab lb.length cb] 36 (0, 0))) := ⟨blk_far ((HA1.out.2.block _ HSb.out.2.2.2.2).trans HY3.out) HSb.out.2.2.1 _⟩
                have HB5 : Aside0 (Below w.heap.size w (w4.setCell ⟨w2.heap.size, 2, none⟩ (.slice A4 la.length c4))) := ⟨(HB3.out.trans (HA1.out.2.mono HSb.out.1)).setCell (Nat.le_of_lt (blk_lt HX2.out)) _⟩
                have HO5 : Aside0 ((w4.setCell ⟨w2.heap.size, 2, none⟩ (.slice A4 la.length c4)).ownsRow (w2.heap.size + 1) 3 1 (.slice A4 la.length c4) la.length (nums .i64 la)) := ⟨ownsRow_setCell_below HA1.out.1 (Nat.lt_succ_self _) _⟩
                have HS5 : Aside0 (w2.heap.size + 1 ≤ (w4.setCell ⟨w2.heap.size, 2, none⟩ (.slice A4 la.length c4)).heap.size) := ⟨by have h := HA1.out.2.size; rw [HS3.out] at h; simpa [World.setCell] using h⟩
                clear HA1
                generalize (w4.setCell ⟨w2.heap.size, 2, none⟩ (.slice A4 la.length c4)) = w5 at *
                obtain ⟨hb0', hb1', hb2'⟩ := mat_cells HY5.out
                obtain ⟨he0, he1, he2⟩ := mat_cells HZ5.out
                have hfe2 := blk_frozen HZ5.out 2
                go_upto_region 6 with (at_builtin; refine print_append_row (w0 := w5) (W := w5) (w2.heap.size + 1) rfl (.tmp 75) (.tmp 77) 22 3 .i64 8 rfl Tryd.underlying22 info_int (by decide) (.slice A4 la.length c4) la lb Ab lb.length cb rfl rfl HO5.out (reads_int (Kd.C_below HCb.out HB5.out)) (Below.refl _ _) HS5.out HL9.out ?_; intro v1 w6 hown hbw hgr hat; rw [← HLc.out] at hown; obtain ⟨A6, c6, rfl⟩ := own_slice hown; have HA1 := Aside0.mk (And.intro hown hbw); obtain ⟨hd0, hd1, hd2⟩ := mat_cells ((hbw.block _ (Nat.lt_succ_self _)).trans HZ5.out); have hfd2 := blk_frozen ((hbw.block _ (Nat.lt_succ_self _)).trans HZ5.out) 2; clear hown hbw hgr hat)
                clear hb0' hb1' hb2' he0 he1 he2 hfe2 hd0 hd1 hd2 hfd2
                have HZ7 : Aside0 ((w6.setCell ⟨w2.heap.size, 2, none⟩ (.slice A6 lc.length c6)).heap[w2.heap.size]? = some (.cells #[.int .i64 (ra + rb), .int .i64 cols, .slice A6 lc.length c6] 36 (0, 0))) := ⟨blk_put ((HA1.out.2.block _ (Nat.lt_succ_self _)).trans HZ5.out) 2 _ rfl⟩
                have HX7 : Aside0 ((w6.setCell ⟨w2.heap.size, 2, none⟩ (.slice A6 lc.length c6)).heap[w.heap.size]? = some (.cells #[.int .i64 ra, .int .i64 cols, .slice Aa la.length ca] 36 (0, 0))) := ⟨blk_far ((HA1.out.2.block _ HSb.out.2.2.2.1).trans HX5.out) HSb.out.2.1 _⟩
                have HY7 : Aside0 ((w6.setCell ⟨w2.heap.size, 2, none⟩ (.slice A6 lc.length c6)).heap[w.heap.size + 1]? = some (.cells #[.int .i64 rb, .int .i64 cols, .slice Ab lb.length cb] 36 (0, 0))) := ⟨blk_far ((HA1.out.2.block _ HSb.out.2.2.2.2).trans HY5.out) HSb.out.2.2.1 _⟩
                have HB7 : Aside0 (Below w.heap.size w (w6.setCell ⟨w2.heap.size, 2, none⟩ (.slice A6 lc.length c6))) := ⟨(HB5.out.trans (HA1.out.2.mono HSb.out.1)).setCell (Nat.le_of_lt (blk_lt HX2.out)) _⟩
                have HCc7 : Aside0 (Kd.C (Kd.int .i64) (w6.setCell ⟨w2.heap.size, 2, none⟩ (.slice A6 lc.length c6)) A6 lc.length lc ∧ lc.length ≤ c6) := ⟨by
                  have h := Kd.R_reads' (R_int (ownsRow_setCell_below (a := ⟨w2.heap.size, 2, none⟩) HA1.out.1 (Nat.lt_succ_self _) (.slice A6 lc.length c6)))
                  exact ⟨h.2.2, h.2.1⟩⟩
                clear HA1 hz1 hz2
                generalize (w6.setCell ⟨w2.heap.size, 2, none⟩ (.slice A6 lc.length c6)) = w7 at *
                obtain ⟨ha0, ha1, ha2⟩ := mat_cells HX7.out
                go_wp2_with (fail)
                clear ha0 ha1 ha2
                have HQ : Aside0 (mulE (ra + rb) cols lc v = if mulE ra cols la v = 0 then mulE rb cols lb v else mulE ra cols la v) := ⟨by rw [HLc.out]; exact both_mulE HZa.out HZb.out H512.out⟩
                have HQL : Aside0 (mulL (ra + rb) cols lc v = mulL ra cols la v ++ mulL rb cols lb v) := ⟨by rw [HLc.out]; exact both_mulL HZa.out HZb.out⟩
                refine (mul_calls ra cols Aa ca la Av cv v w7 (Kd.C_below HCa.out HB7.out) HCc.out.1 (Kd.C_below HV.out HB7.out)).mono ?_
                obtain ⟨Ea, hEa⟩ : ∃ E, E = mulE ra cols la v := ⟨_, rfl⟩
                obtain ⟨La, hLa⟩ : ∃ E, E = mulL ra cols la v := ⟨_, rfl⟩
                rw [← hEa, ← hLa]
                rw [← hEa] at HQ
                rw [← hLa] at HQL
                have HLaL : Aside0 (La.length ≤ 512) := ⟨by rw [hLa, mulL_length]; have := (m_ok HZa.out).2.1; omega⟩
                clear hEa hLa
                rintro e w8 hend
                have HE8 := Aside0.mk hend
                have HB8 := Aside0.mk (below_step HB7.out hend.2.2)
                have HY8 : Aside0 (w8.heap[w.heap.size + 1]? = some (.cells #[.int .i64 rb, .int .i64 cols, .slice Ab lb.length cb] 36 (0, 0))) := ⟨(hend.2.2.block _ (blk_lt HY7.out)).trans HY7.out⟩
                have HX8 : Aside0 (w8.heap[w.heap.size]? = some (.cells #[.int .i64 ra, .int .i64 cols, .slice Aa la.length ca] 36 (0, 0))) := ⟨(hend.2.2.block _ (blk_lt HX7.out)).trans HX7.out⟩
                have HZ8 : Aside0 (w8.heap[w2.heap.size]? = some (.cells #[.int .i64 (ra + rb), .int .i64 cols, .slice A6 lc.length c6] 36 (0, 0))) := ⟨(hend.2.2.block _ (blk_lt HZ7.out)).trans HZ7.out⟩
                have HCc8 : Aside0 (Kd.C (Kd.int .i64) w8 A6 lc.length lc ∧ lc.length ≤ c6) := ⟨Kd.C_below HCc7.out.1 hend.2.2, HCc7.out.2⟩
                obtain ⟨hb0, hb1, hb2⟩ := mat_cells HY8.out
                have hal : ∃ A8 n8 c8, e = .returned (.tuple #[.slice A8 n8 c8, .int .i64 Ea]) ∧ (Ea = 0 → Kd.C (Kd.int .i64) w8 A8 n8 La) := by
                  by_cases h : Ea = 0
                  · obtain ⟨A8, c8, h1, h2, _⟩ := hend.2.1 h
                    exact ⟨A8, _, c8, by rw [h]; exact h1, fun _ => h2⟩
                  · exact ⟨none, 0, 0, hend.1 h, fun h9 => absurd h9 h⟩
                obtain ⟨A8, n8, c8, rfl, hx8⟩ := hal
                have HXx := Aside0.mk hx8
                clear hend hx8 HE8
                go_wp2_with (fail)
                clear hb0 hb1 hb2
                refine (mul_calls rb cols Ab cb lb Av cv v w8 (Kd.C_below HCb.out HB8.out) HCc.out.2.1 (Kd.C_below HV.out HB8.out)).mono ?_
                obtain ⟨Eb, hEb⟩ : ∃ E, E = mulE rb cols lb v := ⟨_, rfl⟩
                obtain ⟨Lb, hLb⟩ : ∃ E, E = mulL rb cols lb v := ⟨_, rfl⟩
                rw [← hEb, ← hLb]
                rw [← hEb] at HQ
                rw [← hLb] at HQL
                have HLbL : Aside0 (Lb.length ≤ 512) := ⟨by rw [hLb, mulL_length]; have := (m_ok HZb.out).2.1; omega⟩
                clear hEb hLb
                rintro e w9 hend
                have HB9 := Aside0.mk (below_step HB8.out hend.2.2)
                have HX9 : Aside0 (w9.heap[w.heap.size]? = some (.cells #[.int .i64 ra, .int .i64 cols, .slice Aa la.length ca] 36 (0, 0))) := ⟨(hend.2.2.block _ (blk_lt HX8.out)).trans HX8.out⟩
                have HZ9 : Aside0 (w9.heap[w2.heap.size]? = some (.cells #[.int .i64 (ra + rb), .int .i64 cols, .slice A6 lc.length c6] 36 (0, 0))) := ⟨(hend.2.2.block _ (blk_lt HZ8.out)).trans HZ8.out⟩
                have HCc9 : Aside0 (Kd.C (Kd.int .i64) w9 A6 lc.length lc ∧ lc.length ≤ c6) := ⟨Kd.C_below HCc8.out.1 hend.2.2, HCc8.out.2⟩
                have HXx9 : Aside0 (Ea = 0 → Kd.C (Kd.int .i64) w9 A8 n8 La) := ⟨fun h => Kd.C_below (HXx.out h) hend.2.2⟩
                obtain ⟨he0, he1, he2⟩ := mat_cells HZ9.out
                have hal : ∃ A9 n9 c9, e = .returned (.tuple #[.slice A9 n9 c9, .int .i64 Eb]) ∧ (Eb = 0 → Kd.C (Kd.int .i64) w9 A9 n9 Lb) := by
                  by_cases h : Eb = 0
                  · obtain ⟨A8, c8, h1, h2, _⟩ := hend.2.1 h
                    exact ⟨A8, _, c8, by rw [h]; exact h1, fun _ => h2⟩
                  · exact ⟨none, 0, 0, hend.1 h, fun h9 => absurd h9 h⟩
                obtain ⟨A9, n9, c9, rfl, hx8⟩ := hal
                have HYy9 := Aside0.mk hx8
                clear hend hx8
                go_wp2_with (fail)
                clear he0 he1 he2
                refine (mul_calls (ra + rb) cols A6 c6 lc Av cv v w9 HCc9.out.1 HCc9.out.2 (Kd.C_below HV.out HB9.out)).mono ?_
                obtain ⟨Ec, hEc⟩ : ∃ E, E = mulE (ra + rb) cols lc v := ⟨_, rfl⟩
                obtain ⟨Lc, hLc⟩ : ∃ E, E = mulL (ra + rb) cols lc v := ⟨_, rfl⟩
                rw [← hEc, ← hLc]
                rw [← hEc] at HQ
                rw [← hLc] at HQL
                clear hEc hLc
                rintro e w10 hend
                have HB10 := Aside0.mk (below_step HB9.out hend.2.2)
                have HX10 : Aside0 (w10.heap[w.heap.size]? = some (.cells #[.int .i64 ra, .int .i64 cols, .slice Aa la.length ca] 36 (0, 0))) := ⟨(hend.2.2.block _ (blk_lt HX9.out)).trans HX9.out⟩
                have HXx10 : Aside0 (Ea = 0 → Kd.C (Kd.int .i64) w10 A8 n8 La) := ⟨fun h => Kd.C_below (HXx9.out h) hend.2.2⟩
                have HYy10 : Aside0 (Eb = 0 → Kd.C (Kd.int .i64) w10 A9 n9 Lb) := ⟨fun h => Kd.C_below (HYy9.out h) hend.2.2⟩
                by_cases ha : Ea = 0
                · subst ha
                  by_cases hb : Eb = 0
                  · subst hb
                    obtain rfl : Ec = 0 := HQ.out
                    obtain ⟨A10, c10, rfl, hC10, _⟩ := hend.2.1 rfl
                    have HC10 := Aside0.mk hC10
                    have HA8 := Aside0.mk (HXx10.out rfl)
                    have HA9 := Aside0.mk (HYy10.out rfl)
                    clear hend hC10
                    have HLx : Aside0 ((([] : List Int).length + n8) * 8 ≤ 140737488355328) := ⟨by have := HLaL.out; have := HA8.out.1; simp; omega⟩
                    have HLy : Aside0 ((La.length + n9) * 8 ≤ 140737488355328) := ⟨by have := HLaL.out; have := HLbL.out; have := HA9.out.1; omega⟩
                    go_upto_region 17 with (first | (at_builtin; refine print_append_row (w0 := w10) (W := w10) w10.heap.size rfl (.tmp 119) (.tmp 120) 22 3 .i64 8 rfl Tryd.underlying22 info_int (by decide) (.slice none 0 0) [] La A8 n8 c8 rfl rfl (own_nil _ _ _ _) (reads_int HA8.out) (Below.refl _ _) (Nat.le_refl _) HLx.out ?_; intro v1 w11 hown hbw hgr hat; rw [List.nil_append] at hown; obtain ⟨A11, c11, rfl⟩ := own_slice hown; have HA11 := Aside0.mk (And.intro hown hbw); clear hown hbw hgr hat) | (at_builtin; refine print_append_row (w0 := w10) (W := w11) w10.heap.size rfl (.tmp 122) (.tmp 123) 22 3 .i64 8 rfl Tryd.underlying22 info_int (by decide) (.slice A11 La.length c11) La Lb A9 n9 c9 rfl rfl HA11.out.1 (reads_int (Kd.C_below HA9.out HA11.out.2)) HA11.out.2 HA11.out.2.size HLy.out ?_; intro v1 w12 hown hbw hgr hat; rw [← HQL.out] at hown; obtain ⟨A12, c12, rfl⟩ := own_slice hown; have HA12 := Aside0.mk (And.intro hown hbw); clear hown hbw hgr hat))
                    have HB12 := Aside0.mk (below_step HB10.out HA12.out.2)
                    have HX12 : Aside0 (w12.heap[w.heap.size]? = some (.cells #[.int .i64 ra, .int .i64 cols, .slice Aa la.length ca] 36 (0, 0))) := ⟨(HA12.out.2.block _ (blk_lt HX10.out)).trans HX10.out⟩
                    have HC12 : Aside0 (Kd.C (Kd.int .i64) w12 A10 Lc.length Lc) := ⟨Kd.C_below HC10.out HA12.out.2⟩
                    have HD12 : Aside0 (Kd.C (Kd.int .i64) w12 A12 Lc.length Lc) := ⟨own_C HA12.out.1⟩
                    obtain ⟨cn, hcn⟩ : ∃ cn : Nat, (cn : Int) = cols := ⟨cols.toNat, by have := (m_ok HZa.out).2.2.1; omega⟩
                    have HCn := Aside0.mk hcn
                    have hc64 : cn ≤ 64 := by have := (m_ok HZa.out).2.2.2.1; omega
                    have HC9 : Aside0 (cn ≤ 9223372036854775807) := ⟨by omega⟩
                    have HMk : Aside0 (∀ W : World, (Instr.makeSlice 22 (.int .i64 (cn : Int)) (.int .i64 (cn : Int))).run Tryd.prog W = .ok (.slice (some ⟨W.heap.size, 0, none⟩) cn cn) (W.alloc (.cells (madeCells #[.int .i64 0] cn) 3))) := ⟨print_make 22 3 .i64 8 Tryd.underlying22 info_int (by decide) cn (by omega)⟩
                    have HEz : Aside0 (mulE ra cols la (List.replicate cn 0) = 0) := ⟨zero_mulE hcn HZa.out⟩
                    obtain ⟨Lz, hLz⟩ : ∃ E, E = mulL ra cols la (List.replicate cn 0) := ⟨_, rfl⟩
                    have HLz := Aside0.mk hLz
                    have HZer : Aside0 (∀ k, k < Lz.length → Lz.getD k 0 = 0) := ⟨fun k hk => by rw [hLz] at hk ⊢; exact zero_mulL hcn HZa.out k hk⟩
                    have HLzl : Aside0 (Lz.length ≤ 512) := ⟨by rw [hLz, mulL_length]; have := (m_ok HZa.out).2.1; omega⟩
                    have dLen : ((Lz.length : Int) == ra) = true := by rw [hLz, mulL_length, beq_iff_eq]; have := (m_ok HZa.out).1; omega
                    clear hcn hc64 hLz
                    refine wp_region_fin [false, false, false, false, false, false, false, false, false, false, false, false, false, false, false, false, true, true, false, false, false, false, false, false, false, false, false, false, false, false, false, false, false, false, false, false, false, false, false, false, false, false, false, false, false, false, false, false, false, false, false, false, false, false, false, false, false, false, false, false, false, false, false, false, false, false, false, false, false, false, false, false, false, false, false, false, false, false, false, false, false, false, false, false, false, false, false, false, false, false, false, false, false, false, false, false, false, false, false, false, false, false, false, false, false, false, false, false, false, false, false, false, false, false, false, false, false, false, false, false, false, false, false, false, false, true, true, true, true, true, true, true, true] (by kernel_rfl) (by kernel_rfl) (fun W => Below w12.heap.size w12 W) (fun W W' => Below W.heap.size W W') (RowsF ra cols Aa ca la w.heap.size cn Lz) (fun iv xv W W' _ hb h => RowsF.step ra cols Aa ca la w.heap.size cn Lz iv xv W W' hb h) (below_drew (Below.refl _ _)) ?_ ?_
                    · refine ⟨?_, ?_, ?_, ?_, ?_, ?_, ?_, ?_, ?_, ?_, trivial⟩
                      · intro v W hb hd
                        obtain ⟨hc0, hc1, hc2⟩ := mat_cells ((hb.block _ (blk_lt HX12.out)).trans HX12.out)
                        refine step_list fun K hK => ?_
                        simp only [fill_lit, fillL, Act.put, List.setIfInBounds_toArray, List.set_cons_zero, List.set_cons_succ, Nat.reduceAdd] at hK ⊢
                        clear hd
                        go_wp2
                        exact ⟨hb, Below.refl _ _, rfl⟩
                      · intro v W hb hd
                        refine step_list fun K hK => ?_
                        simp only [fill_lit, fillL, Act.put, List.setIfInBounds_toArray, List.set_cons_zero, List.set_cons_succ, Nat.reduceAdd] at hK ⊢
                        clear hd
                        go_wp2
                        exact ⟨hb, Below.refl _ _, rfl⟩
                      · intro v W hb hd
                        obtain ⟨hc0, hc1, hc2⟩ := mat_cells ((hb.block _ (blk_lt HX12.out)).trans HX12.out)
                        have h1 : v 127 = .pointer (some ⟨w.heap.size, 1, none⟩) := hd 1 (by kernel_rfl)
                        refine step_list fun K hK => ?_
                        simp only [fill_lit, fillL, Act.put, List.setIfInBounds_toArray, List.set_cons_zero, List.set_cons_succ, Nat.reduceAdd] at hK ⊢
                        rw [h1] at hK ⊢
                        clear hd h1
                        go_wp2
                        exact ⟨hb, Below.refl _ _, rfl⟩
                      · intro v W hb hd
                        have h2 : v 128 = .int .i64 cols := hd 2 (by kernel_rfl)
                        have hmk := HMk.out
                        refine step_list fun K hK => ?_
                        simp only [fill_lit, fillL, Act.put, List.setIfInBounds_toArray, List.set_cons_zero, List.set_cons_succ, Nat.reduceAdd] at hK ⊢
                        rw [h2, ← HCn.out] at hK ⊢
                        clear hd h2
                        go_wp2_with (fail)
                        exact ⟨bel_alloc hb _, bel_alloc (Below.refl _ _) _, _, rfl, made_C _ _ HC9.out⟩
                      · intro v W hb hd
                        obtain ⟨Am, h3, hC'⟩ := hd 3 (by kernel_rfl)
                        replace h3 : v 129 = .slice Am cn cn := h3
                        have HC' := Aside0.mk hC'
                        have h0 : v 126 = .agg #[.int .i64 ra, .int .i64 cols, .slice Aa la.length ca] := hd 0 (by kernel_rfl)
                        refine step_list fun K hK => ?_
                        simp only [fill_lit, fillL, Act.put, List.setIfInBounds_toArray, List.set_cons_zero, List.set_cons_succ, Nat.reduceAdd] at hK ⊢
                        rw [h0, h3] at hK ⊢
                        clear hd h0 h3 hC'
                        go_wp2_with (fail)
                        have HMz := mul_calls ra cols Aa ca la Am cn (List.replicate cn 0) W (Kd.C_below HCa.out (below_step HB12.out hb)) HCc.out.1 (by rw [List.length_replicate]; exact HC'.out)
                        rw [List.length_replicate, HEz.out, ← HLz.out] at HMz
                        refine HMz.mono ?_
                        rintro e W' ⟨_, hz2, hb'⟩
                        obtain ⟨A9, c9, rfl, hC9, _⟩ := hz2 rfl
                        have HB' := Aside0.mk hb'
                        have HC9' := Aside0.mk hC9
                        clear hb' hz2 hC9 HMz
                        go_wp2_with (fail)
                        exact ⟨below_step hb HB'.out, HB'.out, A9, c9, rfl, HC9'.out⟩
                      · intro v W hb hd
                        obtain ⟨A9, c9, h3, hC'⟩ := hd 4 (by kernel_rfl)
                        replace h3 : v 130 = .tuple #[.slice A9 Lz.length c9, .int .i64 0] := h3
                        have HC' := Aside0.mk hC'
                        refine step_list fun K hK => ?_
                        simp only [fill_lit, fillL, Act.put, List.setIfInBounds_toArray, List.set_cons_zero, List.set_cons_succ, Nat.reduceAdd] at hK ⊢
                        rw [h3] at hK ⊢
                        clear hd h3 hC'
                        go_wp2
                        exact ⟨hb, Below.refl _ _, A9, c9, rfl, HC'.out⟩
                      · intro v W hb hd
                        obtain ⟨A9, c9, h3, hC'⟩ := hd 5 (by kernel_rfl)
                        replace h3 : v 125 = .tuple #[.slice A9 Lz.length c9, .int .i64 0] := h3
                        have HC' := Aside0.mk hC'
                        refine step_list fun K hK => ?_
                        simp only [fill_lit, fillL, Act.put, List.setIfInBounds_toArray, List.set_cons_zero, List.set_cons_succ, Nat.reduceAdd] at hK ⊢
                        rw [h3] at hK ⊢
                        clear hd h3 hC'
                        go_wp2
                        exact ⟨hb, Below.refl _ _, A9, c9, rfl, HC'.out⟩
                      · intro v W hb hd
                        obtain ⟨A9, c9, h3, hC'⟩ := hd 5 (by kernel_rfl)
                        replace h3 : v 125 = .tuple #[.slice A9 Lz.length c9, .int .i64 0] := h3
                        refine step_list fun K hK => ?_
                        simp only [fill_lit, fillL, Act.put, List.setIfInBounds_toArray, List.set_cons_zero, List.set_cons_succ, Nat.reduceAdd] at hK ⊢
                        rw [h3] at hK ⊢
                        clear hd h3 hC'
                        go_wp2
                        exact ⟨hb, Below.refl _ _, rfl⟩
                      · intro v W hb hd
                        obtain ⟨A9, c9, h3, hC'⟩ := hd 6 (by kernel_rfl)
                        replace h3 : v 131 = .slice A9 Lz.length c9 := h3
                        have HC' := Aside0.mk hC'
                        refine step_list fun K hK => ?_
                        simp only [fill_lit, fillL, Act.put, List.setIfInBounds_toArray, List.set_cons_zero, List.set_cons_succ, Nat.reduceAdd] at hK ⊢
                        rw [h3] at hK ⊢
                        clear hd h3 hC'
                        go_wp2
                        exact ⟨hb, Below.refl _ _, A9, c9, rfl, HC'.out⟩
                      · intro v W hb hd
                        have h7 : v 132 = .int .i64 0 := hd 7 (by kernel_rfl)
                        refine step_list fun K hK => ?_
                        simp only [fill_lit, fillL, Act.put, List.setIfInBounds_toArray, List.set_cons_zero, List.set_cons_succ, Nat.reduceAdd] at hK ⊢
                        rw [h7] at hK ⊢
                        clear hd h7
                        go_wp2
                        exact ⟨hb, Below.refl _ _, rfl⟩
                    · intro v W hb hF
                      have h9 : v 17 = .int .i64 0 := hF 9 (of_decide_eq_true (by kernel_rfl))
                      obtain ⟨A9', c9', h8, hC'⟩ := hF 8 (of_decide_eq_true (by kernel_rfl))
                      replace h8 : v 16 = .slice A9' Lz.length c9' := h8
                      have HB13 := Aside0.mk (below_step HB12.out hb)
                      have HN13 := Aside0.mk hC'
                      have HC13 := Aside0.mk (Kd.C_below HC12.out hb)
                      have HD13 := Aside0.mk (Kd.C_below HD12.out hb)
                      have HX13 : Aside0 (W.heap[w.heap.size]? = some (.cells #[.int .i64 ra, .int .i64 cols, .slice Aa la.length ca] 36 (0, 0))) := ⟨(hb.block _ (blk_lt HX12.out)).trans HX12.out⟩
                      simp only [fill_lit, fillL, Nat.reduceAdd]
                      rw [h8, h9]
                      clear hF h8 h9 hb hC'
                      go_wp2_with (fail)
                      go_loop [18] (fun i => ∃ k : Nat, k ≤ Lz.length ∧ i = .int .i64 (k : Int)) (fun i => Lz.length - (intOf i).toNat)
                      case atStart => exact ⟨0, Nat.zero_le _, rfl⟩
                      case round =>
                        obtain ⟨k, hk, rfl⟩ := hrel
                        by_cases hlt : k < Lz.length
                        · obtain ⟨ad, rfl, hx⟩ := int_at HN13.out k hlt
                          rw [HZer.out k hlt] at hx
                          have hwk : IntKind.i64.wrap ((k : Int) + 1) = (k : Int) + 1 := by have := HLzl.out; rw [IntKind.wrap_i64]; omega
                          clear dLen
                          go_wp2
                          go_round
                          case rel => exact ⟨k + 1, by omega, by go_num⟩
                          case measure => simp [intOf]; omega
                        · obtain rfl : k = Lz.length := by omega
                          go_wp2_with (fail)
                          refine (Law.ints_n A10 Lc.length c10 Lc A12 Lc.length c12 Lc W HC13.out HD13.out true (by simp)).mono ?_
                          rintro e w14 ⟨rfl, hd⟩
                          have HB14 := Aside0.mk (below_step HB13.out hd.below)
                          obtain ⟨ha0, ha1, ha2⟩ := mat_cells ((hd.below.block _ (blk_lt HX13.out)).trans HX13.out)
                          clear hd
                          go_wp2_with (fail)
                          refine (awake07_calls w14 (HL.out.below HB14.out)).mono ?_
                          rintro e wz ⟨rfl, hb⟩
                          have HBz := Aside0.mk (below_step HB14.out hb)
                          clear hb
                          go_wp2_with (fail)
                          go_ret
                          exact ⟨rfl, HBz.out⟩
                  · have db : (Eb != 0) = true := by simpa using hb
                    have dbe : (Eb == 0) = false := by simpa using hb
                    obtain rfl : Ec = Eb := HQ.out
                    have he := hend.1 hb
                    subst he
                    clear hend hb
                    go_wp2_with (fail)
                    refine (awake07_calls w10 (HL.out.below HB10.out)).mono ?_
                    rintro e wz ⟨rfl, hb⟩
                    have HBz := Aside0.mk (below_step HB10.out hb)
                    clear hb
                    go_wp2_with (fail)
                    go_ret
                    exact ⟨rfl, HBz.out⟩
                · have da : (Ea != 0) = true := by simpa using ha
                  have dae : (Ea == 0) = false := by simpa using ha
                  obtain rfl : Ec = Ea := HQ.out.trans (if_neg ha)
                  have he := hend.1 ha
                  subst he
                  clear hend ha
                  go_wp2_with (fail)
                  refine (awake07_calls w10 (HL.out.below HB10.out)).mono ?_
                  rintro e wz ⟨rfl, hb⟩
                  have HBz := Aside0.mk (below_step HB10.out hb)
                  clear hb
                  go_wp2_with (fail)
                  go_ret
                  exact ⟨rfl, HBz.out⟩
            · have dz : (zb != 0) = true := by simpa using h6
              clear h6
              go_enter Tryd.func8, Tryd.ntmps8
              go_wp2_with (fail)
              generalize ((w.alloc (.cells #[.int .i64 ra, .int .i64 cols, .slice Aa la.length ca] 36)).alloc (.cells #[.int .i64 rb, .int .i64 cols, .slice Ab lb.length cb] 36)) = w0 at *
              refine (mcheck_calls ra cols Aa ca la w0 (Kd.C_below HCa.out HB0.out)).mono ?_
              rw [HZa.out]
              rintro e w1 ⟨rfl, hb⟩
              have HB1 := Aside0.mk (below_step HB0.out hb)
              have HX1 : Aside0 (w1.heap[w.heap.size]? = some (.cells #[.int .i64 ra, .int .i64 cols, .slice Aa la.length ca] 36 (0, 0))) := ⟨(hb.block _ (blk_lt HX0.out)).trans HX0.out⟩
              have HY1 : Aside0 (w1.heap[w.heap.size + 1]? = some (.cells #[.int .i64 rb, .int .i64 cols, .slice Ab lb.length cb] 36 (0, 0))) := ⟨(hb.block _ (blk_lt HY0.out)).trans HY0.out⟩
              clear hb
              obtain ⟨ha0, ha1, ha2⟩ := mat_cells HX1.out
              obtain ⟨hb0, hb1, hb2⟩ := mat_cells HY1.out
              go_wp2_with (fail)
              clear ha0 ha1 ha2 hb0 hb1 hb2
              refine (mcheck_calls rb cols Ab cb lb w1 (Kd.C_below HCb.out HB1.out)).mono ?_
              rw [HZb.out]
              rintro e w2 ⟨rfl, hb⟩
              have HB2 := Aside0.mk (below_step HB1.out hb)
              have HX2 : Aside0 (w2.heap[w.heap.size]? = some (.cells #[.int .i64 ra, .int .i64 cols, .slice Aa la.length ca] 36 (0, 0))) := ⟨(hb.block _ (blk_lt HX1.out)).trans HX1.out⟩
              have HY2 : Aside0 (w2.heap[w.heap.size + 1]? = some (.cells #[.int .i64 rb, .int .i64 cols, .slice Ab lb.length cb] 36 (0, 0))) := ⟨(hb.block _ (blk_lt HY1.out)).trans HY1.out⟩
              clear hb
              obtain ⟨ha0, ha1, ha2⟩ := mat_cells HX2.out
              obtain ⟨hb0, hb1, hb2⟩ := mat_cells HY2.out
              go_wp2_with (fail)
              clear ha0 ha1 ha2 hb0 hb1 hb2
              refine (awake07_calls w2 (HL.out.below HB2.out)).mono ?_
              rintro e wz ⟨rfl, hb⟩
              have HBz := Aside0.mk (below_step HB2.out hb)
              clear hb
              go_wp2_with (fail)
              go_ret
              exact ⟨rfl, HBz.out⟩
          · have dz : (za != 0) = true := by simpa using h5
            clear h5
            go_enter Tryd.func8, Tryd.ntmps8
            go_wp2_with (fail)
            generalize ((w.alloc (.cells #[.int .i64 ra, .int .i64 cols, .slice Aa la.length ca] 36)).alloc (.cells #[.int .i64 rb, .int .i64 cols, .slice Ab lb.length cb] 36)) = w0 at *
            refine (mcheck_calls ra cols Aa ca la w0 (Kd.C_below HCa.out HB0.out)).mono ?_
            rw [HZa.out]
            rintro e w1 ⟨rfl, hb⟩
            have HB1 := Aside0.mk (below_step HB0.out hb)
            have HX1 : Aside0 (w1.heap[w.heap.size]? = some (.cells #[.int .i64 ra, .int .i64 cols, .slice Aa la.length ca] 36 (0, 0))) := ⟨(hb.block _ (blk_lt HX0.out)).trans HX0.out⟩
            have HY1 : Aside0 (w1.heap[w.heap.size + 1]? = some (.cells #[.int .i64 rb, .int .i64 cols, .slice Ab lb.length cb] 36 (0, 0))) := ⟨(hb.block _ (blk_lt HY0.out)).trans HY0.out⟩
            clear hb
            obtain ⟨ha0, ha1, ha2⟩ := mat_cells HX1.out
            obtain ⟨hb0, hb1, hb2⟩ := mat_cells HY1.out
            go_wp2_with (fail)
            clear ha0 ha1 ha2 hb0 hb1 hb2
            refine (awake07_calls w1 (HL.out.below HB1.out)).mono ?_
            rintro e wz ⟨rfl, hb⟩
            have HBz := Aside0.mk (below_step HB1.out hb)
            clear hb
            go_wp2_with (fail)
            go_ret
            exact ⟨rfl, HBz.out⟩
theorem rows_n (ra cols : Int) (Aa : Option Addr) (na ca : Nat) (la : List Int) (rb colsb : Int) (Ab : Option Addr) (nb cb : Nat) (lb : List Int) (Av : Option Addr) (nv cv : Nat) (v : List Int) (w : World)
    (hCa : Kd.C (Kd.int .i64) w Aa na la) (hca : na ≤ ca) (hCb : Kd.C (Kd.int .i64) w Ab nb lb) (hcb : nb ≤ cb) (hV : Kd.C (Kd.int .i64) w Av nv v) (hcv : nv ≤ cv) (hL : LaidAt w 0 stepsA) :
    Calls Tryd.prog 8 #[.agg #[.int .i64 ra, .int .i64 cols, .slice Aa na ca], .agg #[.int .i64 rb, .int .i64 colsb, .slice Ab nb cb], .slice Av nv cv] w fun e w' => e = .returned (.bool true) ∧ Below w.heap.size w w' := by
  obtain rfl := hCa.1
  obtain rfl := hCb.1
  obtain rfl := hV.1
  exact rows_calls ra cols Aa ca la rb colsb Ab cb lb Av cv v w hCa hca hCb hcb hV hcv hL
end Go.Proofs.YtfameghednapkaaDoor.Ten
