/- TensorChecks: the law's walk. -/
import Derived.Test.YtfameghednapkaaDoorTenRowB
import Derived.Test.YtfameghednapkaaDoorBunT3
namespace Go.Proofs.YtfameghednapkaaDoor.Ten
open Go.RowKit Go.Proofs.YtfameghednapkaaDoorW.PrintWords Go.Proofs.YtfameghednapkaaDoorW.PrintLast Go.Proofs.YtfameghednapkaaDoorW.PrintMore Go.Proofs.YtfameghednapkaaDoor.K Go.Proofs.YtfameghednapkaaDoor.Fixed Go.Proofs.YtfameghednapkaaDoor.PTensorDots
set_option linter.unusedVariables false
set_option linter.unusedSimpArgs false
theorem ris_calls (x : Int) (w : World) :
    Calls Tryd.prog 39 #[.int .i64 x] w fun e w' => e = .returned (.bool (inR x)) ∧ Drawn0 w w' :=
  cupelref06_Is.calls x _ w (ris_f x)
set_option maxHeartbeats 4000000 in
set_option maxRecDepth 100000 in
theorem rcheck_calls (A : Option Addr) (c : Nat) (l : List Int) (w : World) (hC : Kd.C (Kd.int .i64) w A l.length l) :
    Calls Tryd.prog 17 #[.slice A l.length c] w fun e w' => e = .returned (.int .i64 (checkV l)) ∧ Below w.heap.size w w' := by
  have HC := Aside0.mk hC
  have hm := hC.2.1
  clear hC
  by_cases h0 : l.length = 0
  · have HV := Aside0.mk (checkV_size (l := l) (.inl h0))
    have hD : decide ((l.length : Int) < 1) = true := by simp; omega
    clear h0
    go_enter Tryd.func17, Tryd.ntmps17
    go_wp2
    go_ret
    exact ⟨congrArg (fun x => Ending.returned (Value.int .i64 x)) HV.out.symm, Below.refl _ _⟩
  · have hD : decide ((l.length : Int) < 1) = false := by simp; omega
    by_cases h1 : 512 < l.length
    · have HV := Aside0.mk (checkV_size (l := l) (.inr h1))
      have hD1 : decide (512 < (l.length : Int)) = true := by simp; omega
      clear h0 h1
      go_enter Tryd.func17, Tryd.ntmps17
      go_wp2
      go_ret
      exact ⟨congrArg (fun x => Ending.returned (Value.int .i64 x)) HV.out.symm, Below.refl _ _⟩
    · have hD1 : decide (512 < (l.length : Int)) = false := by simp; omega
      have HN : Aside0 (¬ (l.length = 0 ∨ 512 < l.length)) := ⟨by omega⟩
      clear h0 h1
      go_enter Tryd.func17, Tryd.ntmps17
      go_wp2_with (fail)
      go_loopw [3] (fun i wr => ∃ k : Nat, k ≤ l.length ∧ i = .int .i64 (k : Int) ∧ Aside0 ((l.take k).all inR = true ∧ Below w.heap.size w wr)) (fun i _ => l.length - (intOf i).toNat)
      case atStart => exact ⟨0, Nat.zero_le _, rfl, ⟨by simp, Below.refl _ _⟩⟩
      case round =>
        obtain ⟨k, hk, rfl, HR⟩ := hrel
        by_cases hlt : k < l.length
        · obtain ⟨ad, rfl, hc⟩ := int_at' HC.out HR.out.2 k hlt
          have HS : Aside0 ((l.take (k + 1)).all inR = inR (l.getD k 0)) := ⟨by rw [List.take_succ_eq_append_getElem hlt, List.all_append, HR.out.1, List.getD_eq_getElem?_getD, List.getElem?_eq_getElem hlt]; simp⟩
          have HX : Aside0 (inR (l.getD k 0) = false → l.all inR = false) := ⟨fun h => by
            rw [← List.take_append_drop (k + 1) l, List.all_append, HS.out, h, Bool.false_and]⟩
          generalize l.getD k 0 = x at *
          go_wp2_with (fail)
          refine (ris_calls x wr).mono ?_
          rintro e w1 ⟨rfl, hd⟩
          have HB := Aside0.mk (below_step HR.out.2 hd.below)
          clear hd hc
          cases hp : inR x with
          | true =>
            have HF : Aside0 ((l.take (k + 1)).all inR = true) := ⟨by rw [HS.out, hp]⟩
            clear hp
            go_wp2
            go_roundw
            case rel => exact ⟨k + 1, by omega, by go_num, ⟨HF.out, HB.out⟩⟩
            case measure => simp [intOf]; omega
          | false =>
            have HF : Aside0 (checkV l = 10) := ⟨checkV_bad HN.out (HX.out hp)⟩
            clear hp
            go_wp2
            go_ret
            exact ⟨by rw [HF.out]; rfl, HB.out⟩
        · obtain rfl : k = l.length := by omega
          have HF : Aside0 (checkV l = 0) := ⟨checkV_ok HN.out (by have := HR.out.1; rwa [List.take_of_length_le (Nat.le_refl _)] at this)⟩
          go_wp2
          go_ret
          exact ⟨by rw [HF.out]; rfl, HR.out.2⟩
theorem mat_cells {W : World} {g : Nat} {x y z : Value} (h : W.heap[g]? = some (.cells #[x, y, z] 36 (0, 0))) : W.cell? ⟨g, 0, none⟩ = some x ∧ W.cell? ⟨g, 1, none⟩ = some y ∧ W.cell? ⟨g, 2, none⟩ = some z :=
  ⟨blk_cell h 0, blk_cell h 1, blk_cell h 2⟩
set_option maxHeartbeats 8000000 in
set_option maxRecDepth 100000 in
theorem checks_calls (rows cols i : Int) (A : Option Addr) (c : Nat) (l : List Int) (A' : Option Addr) (c' : Nat) (v : List Int) (w : World) (hC : Kd.C (Kd.int .i64) w A l.length l) (hc : l.length ≤ c) (hV : Kd.C (Kd.int .i64) w A' v.length v) (hL : LaidAt w 0 stepsA) :
    Calls Tryd.prog 6 #[.agg #[.int .i64 rows, .int .i64 cols, .slice A l.length c], .int .i64 i, .slice A' v.length c'] w fun e w' => e = .returned (.bool true) ∧ Below w.heap.size w w' := by
  have HL := Aside0.mk hL
  have HC := Aside0.mk hC
  have HV := Aside0.mk hV
  have HCc := Aside0.mk hc
  have HB0 : Aside0 (Below w.heap.size w (w.alloc (.cells #[.int .i64 rows, .int .i64 cols, .slice A l.length c] 36))) := ⟨bel_alloc (Below.refl _ _) _⟩
  have HR0 : Aside0 ((w.alloc (.cells #[.int .i64 rows, .int .i64 cols, .slice A l.length c] 36)).heap[w.heap.size]? = some (.cells #[.int .i64 rows, .int .i64 cols, .slice A l.length c] 36 (0, 0))) := ⟨heap_alloc_new _ _⟩
  clear hC hV hL hc
  by_cases h1 : 600 < l.length
  · have d1 : decide (600 < (l.length : Int)) = true := by simp; omega
    clear h1
    go_enter Tryd.func6, Tryd.ntmps6
    go_wp2_with (fail)
    generalize (w.alloc (.cells #[.int .i64 rows, .int .i64 cols, .slice A l.length c] 36)) = w0 at *
    refine (awake07_calls w0 (HL.out.below HB0.out)).mono ?_
    rintro e wz ⟨rfl, hb⟩
    have HBz := Aside0.mk (below_step HB0.out hb)
    clear hb
    go_wp2_with (fail)
    go_ret
    exact ⟨rfl, HBz.out⟩
  · have d1 : decide (600 < (l.length : Int)) = false := by simp; omega
    clear h1
    by_cases h2 : 600 < v.length
    · have d2 : decide (600 < (v.length : Int)) = true := by simp; omega
      clear h2
      go_enter Tryd.func6, Tryd.ntmps6
      go_wp2_with (fail)
      generalize (w.alloc (.cells #[.int .i64 rows, .int .i64 cols, .slice A l.length c] 36)) = w0 at *
      refine (awake07_calls w0 (HL.out.below HB0.out)).mono ?_
      rintro e wz ⟨rfl, hb⟩
      have HBz := Aside0.mk (below_step HB0.out hb)
      clear hb
      go_wp2_with (fail)
      go_ret
      exact ⟨rfl, HBz.out⟩
    · have d2 : decide (600 < (v.length : Int)) = false := by simp; omega
      clear h2
      by_cases hz : mV rows cols l = 0
      · have HZ := Aside0.mk hz
        by_cases hi : i < 0 ∨ rows ≤ i
        · have HI := Aside0.mk hi
          by_cases h3 : i < 0
          · have d3 : decide (i < 0) = true := by simpa using h3
            clear hi hz h3
            go_enter Tryd.func6, Tryd.ntmps6
            go_wp2_with (fail)
            generalize (w.alloc (.cells #[.int .i64 rows, .int .i64 cols, .slice A l.length c] 36)) = w0 at *
            refine (rmatrix_calls rows cols A c l w0 (Kd.C_below HC.out HB0.out)).mono ?_
            rintro e w1 ⟨rfl, hb⟩
            have HB1 := Aside0.mk (below_step HB0.out hb)
            have HR1 : Aside0 (w1.heap[w.heap.size]? = some (.cells #[.int .i64 rows, .int .i64 cols, .slice A l.length c] 36 (0, 0))) := ⟨(hb.block _ (blk_lt HR0.out)).trans HR0.out⟩
            obtain ⟨hc0, hc1, hc2⟩ := mat_cells HR1.out
            clear hb
            rw [HZ.out]
            go_wp2_with (fail)
            clear hc0 hc1 hc2
            refine (Row_range_calls rows cols i A c l w1 (Kd.C_below HC.out HB1.out) HZ.out HI.out).mono ?_
            rintro e w2 ⟨rfl, hb⟩
            have HB2 := Aside0.mk (below_step HB1.out hb)
            have HR2 : Aside0 (w2.heap[w.heap.size]? = some (.cells #[.int .i64 rows, .int .i64 cols, .slice A l.length c] 36 (0, 0))) := ⟨(hb.block _ (blk_lt HR1.out)).trans HR1.out⟩
            obtain ⟨hc0, hc1, hc2⟩ := mat_cells HR2.out
            clear hb
            go_wp2_with (fail)
            clear hc0 hc1 hc2
            refine (mcheck_calls rows cols A c l w2 (Kd.C_below HC.out HB2.out)).mono ?_
            rw [HZ.out]
            rintro e w3 ⟨rfl, hb⟩
            have HB3 := Aside0.mk (below_step HB2.out hb)
            have HR3 : Aside0 (w3.heap[w.heap.size]? = some (.cells #[.int .i64 rows, .int .i64 cols, .slice A l.length c] 36 (0, 0))) := ⟨(hb.block _ (blk_lt HR2.out)).trans HR2.out⟩
            obtain ⟨hc0, hc1, hc2⟩ := mat_cells HR3.out
            clear hb
            go_wp2_with (fail)
            clear hc0 hc1 hc2
            refine (tcheck_calls A' c' v w3 (Kd.C_below HV.out HB3.out)).mono ?_
            rintro e w4 ⟨rfl, hb⟩
            have HB4 := Aside0.mk (below_step HB3.out hb)
            have HR4 : Aside0 (w4.heap[w.heap.size]? = some (.cells #[.int .i64 rows, .int .i64 cols, .slice A l.length c] 36 (0, 0))) := ⟨(hb.block _ (blk_lt HR3.out)).trans HR3.out⟩
            obtain ⟨hc0, hc1, hc2⟩ := mat_cells HR4.out
            clear hb
            go_wp2_with (fail)
            clear hc0 hc1 hc2
            refine (rcheck_calls A' c' v w4 (Kd.C_below HV.out HB4.out)).mono ?_
            rintro e w5 ⟨rfl, hb⟩
            have HB5 := Aside0.mk (below_step HB4.out hb)
            have HR5 : Aside0 (w5.heap[w.heap.size]? = some (.cells #[.int .i64 rows, .int .i64 cols, .slice A l.length c] 36 (0, 0))) := ⟨(hb.block _ (blk_lt HR4.out)).trans HR4.out⟩
            obtain ⟨hc0, hc1, hc2⟩ := mat_cells HR5.out
            clear hb
            go_wp2_with (fail)
            refine (awake07_calls w5 (HL.out.below HB5.out)).mono ?_
            rintro e wz ⟨rfl, hb⟩
            have HBz := Aside0.mk (below_step HB5.out hb)
            clear hb
            go_wp2_with (fail)
            go_ret
            exact ⟨rfl, HBz.out⟩
          · have d3 : decide (i < 0) = false := by simpa using h3
            have d4 : decide (rows ≤ i) = true := by simp; omega
            clear hi hz h3
            go_enter Tryd.func6, Tryd.ntmps6
            go_wp2_with (fail)
            generalize (w.alloc (.cells #[.int .i64 rows, .int .i64 cols, .slice A l.length c] 36)) = w0 at *
            refine (rmatrix_calls rows cols A c l w0 (Kd.C_below HC.out HB0.out)).mono ?_
            rintro e w1 ⟨rfl, hb⟩
            have HB1 := Aside0.mk (below_step HB0.out hb)
            have HR1 : Aside0 (w1.heap[w.heap.size]? = some (.cells #[.int .i64 rows, .int .i64 cols, .slice A l.length c] 36 (0, 0))) := ⟨(hb.block _ (blk_lt HR0.out)).trans HR0.out⟩
            obtain ⟨hc0, hc1, hc2⟩ := mat_cells HR1.out
            clear hb
            rw [HZ.out]
            go_wp2_with (fail)
            clear hc0 hc1 hc2
            refine (Row_range_calls rows cols i A c l w1 (Kd.C_below HC.out HB1.out) HZ.out HI.out).mono ?_
            rintro e w2 ⟨rfl, hb⟩
            have HB2 := Aside0.mk (below_step HB1.out hb)
            have HR2 : Aside0 (w2.heap[w.heap.size]? = some (.cells #[.int .i64 rows, .int .i64 cols, .slice A l.length c] 36 (0, 0))) := ⟨(hb.block _ (blk_lt HR1.out)).trans HR1.out⟩
            obtain ⟨hc0, hc1, hc2⟩ := mat_cells HR2.out
            clear hb
            go_wp2_with (fail)
            clear hc0 hc1 hc2
            refine (mcheck_calls rows cols A c l w2 (Kd.C_below HC.out HB2.out)).mono ?_
            rw [HZ.out]
            rintro e w3 ⟨rfl, hb⟩
            have HB3 := Aside0.mk (below_step HB2.out hb)
            have HR3 : Aside0 (w3.heap[w.heap.size]? = some (.cells #[.int .i64 rows, .int .i64 cols, .slice A l.length c] 36 (0, 0))) := ⟨(hb.block _ (blk_lt HR2.out)).trans HR2.out⟩
            obtain ⟨hc0, hc1, hc2⟩ := mat_cells HR3.out
            clear hb
            go_wp2_with (fail)
            clear hc0 hc1 hc2
            refine (tcheck_calls A' c' v w3 (Kd.C_below HV.out HB3.out)).mono ?_
            rintro e w4 ⟨rfl, hb⟩
            have HB4 := Aside0.mk (below_step HB3.out hb)
            have HR4 : Aside0 (w4.heap[w.heap.size]? = some (.cells #[.int .i64 rows, .int .i64 cols, .slice A l.length c] 36 (0, 0))) := ⟨(hb.block _ (blk_lt HR3.out)).trans HR3.out⟩
            obtain ⟨hc0, hc1, hc2⟩ := mat_cells HR4.out
            clear hb
            go_wp2_with (fail)
            clear hc0 hc1 hc2
            refine (rcheck_calls A' c' v w4 (Kd.C_below HV.out HB4.out)).mono ?_
            rintro e w5 ⟨rfl, hb⟩
            have HB5 := Aside0.mk (below_step HB4.out hb)
            have HR5 : Aside0 (w5.heap[w.heap.size]? = some (.cells #[.int .i64 rows, .int .i64 cols, .slice A l.length c] 36 (0, 0))) := ⟨(hb.block _ (blk_lt HR4.out)).trans HR4.out⟩
            obtain ⟨hc0, hc1, hc2⟩ := mat_cells HR5.out
            clear hb
            go_wp2_with (fail)
            refine (awake07_calls w5 (HL.out.below HB5.out)).mono ?_
            rintro e wz ⟨rfl, hb⟩
            have HBz := Aside0.mk (below_step HB5.out hb)
            clear hb
            go_wp2_with (fail)
            go_ret
            exact ⟨rfl, HBz.out⟩
        · have HI0 : Aside0 (0 ≤ i) := ⟨by omega⟩
          have HI1 : Aside0 (i < rows) := ⟨by omega⟩
          have d3 : decide (i < 0) = false := by simp; omega
          have d4 : decide (rows ≤ i) = false := by simp; omega
          obtain ⟨m1, m2, m3, m4, m5, _⟩ := m_ok hz
          obtain ⟨e1, e2, e3⟩ := row_in m1 m2 m3 m4 HI0.out HI1.out
          obtain ⟨p, hp⟩ : ∃ p, p = i * cols := ⟨_, rfl⟩
          obtain ⟨q, hq⟩ : ∃ q, q = i * cols + cols := ⟨_, rfl⟩
          have hwp : IntKind.i64.wrap (i * cols) = p := by rw [hp, IntKind.wrap_i64]; omega
          have hwq : IntKind.i64.wrap (p + cols) = q := by rw [hp, hq, IntKind.wrap_i64]; omega
          obtain ⟨A6, hsl, hC6, hle6⟩ := mid_int (k := .i64) (P := Tryd.prog) 22 3 Tryd.underlying22 info_ten A c l p q p.toNat cols.toNat (by omega) (by omega) (by omega) HCc.out
          have hR : (l.drop p.toNat).take cols.toNat = rowL cols l i := by rw [hp]; rfl
          rw [hR] at hC6 hle6 hsl
          have HC6 : Aside0 (∀ w : World, Kd.C (Kd.int .i64) w A l.length l → Kd.C (Kd.int .i64) w A6 (rowL cols l i).length (rowL cols l i)) := ⟨hC6⟩
          clear hC6 hle6 hR m1 m2 m3 m4 m5 e1 e2 e3 hp hq hi hz
          go_enter Tryd.func6, Tryd.ntmps6
          go_wp2_with (fail)
          generalize (w.alloc (.cells #[.int .i64 rows, .int .i64 cols, .slice A l.length c] 36)) = w0 at *
          refine (rmatrix_calls rows cols A c l w0 (Kd.C_below HC.out HB0.out)).mono ?_
          rintro e w1 ⟨rfl, hb⟩
          have HB1 := Aside0.mk (below_step HB0.out hb)
          have HR1 : Aside0 (w1.heap[w.heap.size]? = some (.cells #[.int .i64 rows, .int .i64 cols, .slice A l.length c] 36 (0, 0))) := ⟨(hb.block _ (blk_lt HR0.out)).trans HR0.out⟩
          obtain ⟨hc0, hc1, hc2⟩ := mat_cells HR1.out
          clear hb
          rw [HZ.out]
          go_wp2_with (fail)
          clear hc0 hc1 hc2
          refine (Row_ok_calls rows cols i A c l w1 (Kd.C_below HC.out HB1.out) HCc.out HZ.out HI0.out HI1.out).mono ?_
          rintro e w2 ⟨vr, rfl, hrr, hb⟩
          obtain ⟨A2, c2, rfl⟩ := own_slice (own_int hrr)
          have HB2 := Aside0.mk (below_step HB1.out hb)
          have HR2 : Aside0 (w2.heap[w.heap.size]? = some (.cells #[.int .i64 rows, .int .i64 cols, .slice A l.length c] 36 (0, 0))) := ⟨(hb.block _ (blk_lt HR1.out)).trans HR1.out⟩
          have HRow2 : Aside0 (Kd.C (Kd.int .i64) w2 A2 (rowL cols l i).length (rowL cols l i)) := ⟨(Kd.R_reads' hrr).2.2⟩
          obtain ⟨hc0, hc1, hc2⟩ := mat_cells HR2.out
          clear hb hrr
          go_wp2_with (fail)
          clear hc0 hc1 hc2
          refine (mcheck_calls rows cols A c l w2 (Kd.C_below HC.out HB2.out)).mono ?_
          rw [HZ.out]
          rintro e w3 ⟨rfl, hb⟩
          have HB3 := Aside0.mk (below_step HB2.out hb)
          have HRow3 : Aside0 (Kd.C (Kd.int .i64) w3 A2 (rowL cols l i).length (rowL cols l i)) := ⟨Kd.C_below HRow2.out hb⟩
          have HR3 : Aside0 (w3.heap[w.heap.size]? = some (.cells #[.int .i64 rows, .int .i64 cols, .slice A l.length c] 36 (0, 0))) := ⟨(hb.block _ (blk_lt HR2.out)).trans HR2.out⟩
          obtain ⟨hc0, hc1, hc2⟩ := mat_cells HR3.out
          clear hb
          go_wp2_with (fail)
          clear hc0 hc1 hc2
          refine (tcheck_calls A' c' v w3 (Kd.C_below HV.out HB3.out)).mono ?_
          rintro e w4 ⟨rfl, hb⟩
          have HB4 := Aside0.mk (below_step HB3.out hb)
          have HRow4 : Aside0 (Kd.C (Kd.int .i64) w4 A2 (rowL cols l i).length (rowL cols l i)) := ⟨Kd.C_below HRow3.out hb⟩
          have HR4 : Aside0 (w4.heap[w.heap.size]? = some (.cells #[.int .i64 rows, .int .i64 cols, .slice A l.length c] 36 (0, 0))) := ⟨(hb.block _ (blk_lt HR3.out)).trans HR3.out⟩
          obtain ⟨hc0, hc1, hc2⟩ := mat_cells HR4.out
          clear hb
          go_wp2_with (fail)
          clear hc0 hc1 hc2
          refine (rcheck_calls A' c' v w4 (Kd.C_below HV.out HB4.out)).mono ?_
          rintro e w5 ⟨rfl, hb⟩
          have HB5 := Aside0.mk (below_step HB4.out hb)
          have HRow5 : Aside0 (Kd.C (Kd.int .i64) w5 A2 (rowL cols l i).length (rowL cols l i)) := ⟨Kd.C_below HRow4.out hb⟩
          have HR5 : Aside0 (w5.heap[w.heap.size]? = some (.cells #[.int .i64 rows, .int .i64 cols, .slice A l.length c] 36 (0, 0))) := ⟨(hb.block _ (blk_lt HR4.out)).trans HR4.out⟩
          obtain ⟨hc0, hc1, hc2⟩ := mat_cells HR5.out
          clear hb
          go_wp2_with (fail)
          refine (Law.ints_n A2 _ c2 (rowL cols l i) A6 _ _ (rowL cols l i) w5 HRow5.out (HC6.out w5 (Kd.C_below HC.out HB5.out)) true (by simp)).mono ?_
          rintro e w6 ⟨rfl, hd⟩
          have HB6 := Aside0.mk (below_step HB5.out hd.below)
          clear hd
          go_wp2_with (fail)
          refine (awake07_calls w6 (HL.out.below HB6.out)).mono ?_
          rintro e wz ⟨rfl, hb⟩
          have HBz := Aside0.mk (below_step HB6.out hb)
          clear hb
          go_wp2_with (fail)
          go_ret
          exact ⟨rfl, HBz.out⟩
      · have HNz := Aside0.mk hz
        obtain ⟨z, hzz⟩ : ∃ z, mV rows cols l = z := ⟨_, rfl⟩
        have HZ := Aside0.mk hzz
        have hzd : (z != 0) = true := by rw [← hzz]; simpa using hz
        clear hz hzz
        go_enter Tryd.func6, Tryd.ntmps6
        go_wp2_with (fail)
        generalize (w.alloc (.cells #[.int .i64 rows, .int .i64 cols, .slice A l.length c] 36)) = w0 at *
        refine (rmatrix_calls rows cols A c l w0 (Kd.C_below HC.out HB0.out)).mono ?_
        rintro e w1 ⟨rfl, hb⟩
        have HB1 := Aside0.mk (below_step HB0.out hb)
        have HR1 : Aside0 (w1.heap[w.heap.size]? = some (.cells #[.int .i64 rows, .int .i64 cols, .slice A l.length c] 36 (0, 0))) := ⟨(hb.block _ (blk_lt HR0.out)).trans HR0.out⟩
        obtain ⟨hc0, hc1, hc2⟩ := mat_cells HR1.out
        clear hb
        rw [HZ.out]
        go_wp2_with (fail)
        clear hc0 hc1 hc2
        refine (Row_bad_calls rows cols i A c l w1 (Kd.C_below HC.out HB1.out) HNz.out).mono ?_
        rw [HZ.out]
        rintro e w2 ⟨rfl, hb⟩
        have HB2 := Aside0.mk (below_step HB1.out hb)
        have HR2 : Aside0 (w2.heap[w.heap.size]? = some (.cells #[.int .i64 rows, .int .i64 cols, .slice A l.length c] 36 (0, 0))) := ⟨(hb.block _ (blk_lt HR1.out)).trans HR1.out⟩
        obtain ⟨hc0, hc1, hc2⟩ := mat_cells HR2.out
        clear hb
        go_wp2_with (fail)
        clear hc0 hc1 hc2
        refine (mcheck_calls rows cols A c l w2 (Kd.C_below HC.out HB2.out)).mono ?_
        rw [HZ.out]
        rintro e w3 ⟨rfl, hb⟩
        have HB3 := Aside0.mk (below_step HB2.out hb)
        have HR3 : Aside0 (w3.heap[w.heap.size]? = some (.cells #[.int .i64 rows, .int .i64 cols, .slice A l.length c] 36 (0, 0))) := ⟨(hb.block _ (blk_lt HR2.out)).trans HR2.out⟩
        obtain ⟨hc0, hc1, hc2⟩ := mat_cells HR3.out
        clear hb
        go_wp2_with (fail)
        clear hc0 hc1 hc2
        refine (tcheck_calls A' c' v w3 (Kd.C_below HV.out HB3.out)).mono ?_
        rintro e w4 ⟨rfl, hb⟩
        have HB4 := Aside0.mk (below_step HB3.out hb)
        have HR4 : Aside0 (w4.heap[w.heap.size]? = some (.cells #[.int .i64 rows, .int .i64 cols, .slice A l.length c] 36 (0, 0))) := ⟨(hb.block _ (blk_lt HR3.out)).trans HR3.out⟩
        obtain ⟨hc0, hc1, hc2⟩ := mat_cells HR4.out
        clear hb
        go_wp2_with (fail)
        clear hc0 hc1 hc2
        refine (rcheck_calls A' c' v w4 (Kd.C_below HV.out HB4.out)).mono ?_
        rintro e w5 ⟨rfl, hb⟩
        have HB5 := Aside0.mk (below_step HB4.out hb)
        have HR5 : Aside0 (w5.heap[w.heap.size]? = some (.cells #[.int .i64 rows, .int .i64 cols, .slice A l.length c] 36 (0, 0))) := ⟨(hb.block _ (blk_lt HR4.out)).trans HR4.out⟩
        obtain ⟨hc0, hc1, hc2⟩ := mat_cells HR5.out
        clear hb
        go_wp2_with (fail)
        refine (awake07_calls w5 (HL.out.below HB5.out)).mono ?_
        rintro e wz ⟨rfl, hb⟩
        have HBz := Aside0.mk (below_step HB5.out hb)
        clear hb
        go_wp2_with (fail)
        go_ret
        exact ⟨rfl, HBz.out⟩
theorem checks_n (rows cols i : Int) (A : Option Addr) (n c : Nat) (l : List Int) (A' : Option Addr) (n' c' : Nat) (v : List Int) (w : World) (hC : Kd.C (Kd.int .i64) w A n l) (hc : n ≤ c) (hV : Kd.C (Kd.int .i64) w A' n' v) (hL : LaidAt w 0 stepsA) :
    Calls Tryd.prog 6 #[.agg #[.int .i64 rows, .int .i64 cols, .slice A n c], .int .i64 i, .slice A' n' c'] w fun e w' => e = .returned (.bool true) ∧ Below w.heap.size w w' := by
  obtain rfl := hC.1
  obtain rfl := hV.1
  exact checks_calls rows cols i A c l A' c' v w hC hc hV hL
end Go.Proofs.YtfameghednapkaaDoor.Ten
