/- bpe's law: which tokens bytes are, or which byte is none's. -/
import Derived.Test.YtbgiccbegcepcaaBpeFew
import Derived.Test.YtbgiccbegcepcaaBpePlain
import Derived.Test.YtbgiccbegcepcaaBpeREnc
namespace Go.Proofs.Ytbgiccbegcepcaa.Bpe
open Go.RowKit Go.Proofs.YtbgiccbegcepcaaW.PrintWords Go.Proofs.YtbgiccbegcepcaaW.PrintLast Go.Proofs.YtbgiccbegcepcaaW.PrintMore Go.Proofs.Ytbgiccbegcepcaa.K Go.Proofs.Ytbgiccbegcepcaa.Law
set_option linter.unusedVariables false
set_option linter.unusedSimpArgs false
section
variable (A : Option Addr) (c : Nat) (al : List Int) (A2 : Option Addr) (c2 : Nat) (prs : List Pr) (A3 : Option Addr) (c3 : Nat) (bs : List Int) (w : World)
set_option maxHeartbeats 2000000 in
set_option maxRecDepth 100000 in
theorem encodes_few (hm : al.length ≤ 9223372036854775807) (hm2 : prs.length ≤ 9223372036854775807) (hm3 : bs.length ≤ 9223372036854775807) (hf : fewB al.length prs.length = false) :
    Calls Try.prog 3 #[.agg #[.slice A al.length c, .slice A2 prs.length c2], .slice A3 bs.length c3] w fun e w' => e = .returned (.bool true) ∧ Below w.heap.size w w' := by
  have HB : Aside0 (Below w.heap.size w (w.alloc (.cells #[.slice A al.length c, .slice A2 prs.length c2] 25))) := ⟨bel_alloc (Below.refl _ _) _⟩
  have HF := Aside0.mk (few_calls A al.length c A2 prs.length c2 (w.alloc (.cells #[.slice A al.length c, .slice A2 prs.length c2] 25)) hm hm2 false hf)
  clear hf
  go_enter Try.func3, Try.ntmps3
  go_wp2_with (fail)
  refine HF.out.mono ?_
  rintro e w1 ⟨rfl, hb⟩
  have HB1 := Aside0.mk (below_step HB.out hb)
  clear hb
  go_wp2_with (fail)
  refine (awake_calls _).mono ?_
  rintro e w2 ⟨rfl, hb⟩
  have HB2 := Aside0.mk (below_step HB1.out hb)
  clear hb
  go_wp2
  go_ret
  exact ⟨rfl, HB2.out⟩
set_option maxHeartbeats 2000000 in
set_option maxRecDepth 100000 in
theorem encodes_mid (hm : al.length ≤ 9223372036854775807) (hm2 : prs.length ≤ 9223372036854775807) (hm3 : bs.length ≤ 9223372036854775807) (h1 : 60 < bs.length) (h2 : bs.length ≤ 4096) (hf : fewB al.length prs.length = true) :
    Calls Try.prog 3 #[.agg #[.slice A al.length c, .slice A2 prs.length c2], .slice A3 bs.length c3] w fun e w' => e = .returned (.bool true) ∧ Below w.heap.size w w' := by
  have HB : Aside0 (Below w.heap.size w (w.alloc (.cells #[.slice A al.length c, .slice A2 prs.length c2] 25))) := ⟨bel_alloc (Below.refl _ _) _⟩
  have HF := Aside0.mk (few_calls A al.length c A2 prs.length c2 (w.alloc (.cells #[.slice A al.length c, .slice A2 prs.length c2] 25)) hm hm2 true hf)
  have hd1 : decide (60 < (bs.length : Int)) = true := by simp; omega
  have hd2 : decide ((bs.length : Int) ≤ 4096) = true := by simp; omega
  clear h1 h2
  clear hf
  go_enter Try.func3, Try.ntmps3
  go_wp2_with (fail)
  refine HF.out.mono ?_
  rintro e w1 ⟨rfl, hb⟩
  have HB1 := Aside0.mk (below_step HB.out hb)
  clear hb
  go_wp2_with (fail)
  refine (awake_calls _).mono ?_
  rintro e w2 ⟨rfl, hb⟩
  have HB2 := Aside0.mk (below_step HB1.out hb)
  clear hb
  go_wp2
  go_ret
  exact ⟨rfl, HB2.out⟩
set_option maxHeartbeats 2000000 in
set_option maxRecDepth 100000 in
theorem encodes_far (hm : al.length ≤ 9223372036854775807) (hm2 : prs.length ≤ 9223372036854775807) (hm3 : bs.length ≤ 9223372036854775807) (h1 : 5000 < bs.length) (hf : fewB al.length prs.length = true) :
    Calls Try.prog 3 #[.agg #[.slice A al.length c, .slice A2 prs.length c2], .slice A3 bs.length c3] w fun e w' => e = .returned (.bool true) ∧ Below w.heap.size w w' := by
  have HB : Aside0 (Below w.heap.size w (w.alloc (.cells #[.slice A al.length c, .slice A2 prs.length c2] 25))) := ⟨bel_alloc (Below.refl _ _) _⟩
  have HF := Aside0.mk (few_calls A al.length c A2 prs.length c2 (w.alloc (.cells #[.slice A al.length c, .slice A2 prs.length c2] 25)) hm hm2 true hf)
  have hd1 : decide (60 < (bs.length : Int)) = true := by simp; omega
  have hd2 : decide ((bs.length : Int) ≤ 4096) = false := by simp; omega
  have hd3 : decide (5000 < (bs.length : Int)) = true := by simp; omega
  clear h1
  clear hf
  go_enter Try.func3, Try.ntmps3
  go_wp2_with (fail)
  refine HF.out.mono ?_
  rintro e w1 ⟨rfl, hb⟩
  have HB1 := Aside0.mk (below_step HB.out hb)
  clear hb
  go_wp2_with (fail)
  refine (awake_calls _).mono ?_
  rintro e w2 ⟨rfl, hb⟩
  have HB2 := Aside0.mk (below_step HB1.out hb)
  clear hb
  go_wp2
  go_ret
  exact ⟨rfl, HB2.out⟩
set_option maxHeartbeats 16000000 in
set_option maxRecDepth 100000 in
theorem encodes_near (hC : Kd.C (Kd.int .u8) w A al.length al) (hC2 : Kd.C kP w A2 prs.length prs) (hC3 : Kd.C (Kd.int .u8) w A3 bs.length bs) (hby3 : ∀ x ∈ bs, 0 ≤ x ∧ x < 256) (hb60 : bs.length ≤ 60) (hby : ∀ x ∈ al, 0 ≤ x ∧ x < 256) (hf : fewB al.length prs.length = true) :
    Calls Try.prog 3 #[.agg #[.slice A al.length c, .slice A2 prs.length c2], .slice A3 bs.length c3] w fun e w' => e = .returned (.bool true) ∧ Below w.heap.size w w' := by
  have HB : Aside0 (Below w.heap.size w (w.alloc (.cells #[.slice A al.length c, .slice A2 prs.length c2] 25))) := ⟨bel_alloc (Below.refl _ _) _⟩
  obtain ⟨hal, hpr⟩ := fewB_true hf
  have HF := Aside0.mk (few_calls A al.length c A2 prs.length c2 (w.alloc (.cells #[.slice A al.length c, .slice A2 prs.length c2] 25)) (by omega) (by omega) true hf)
  have HC := Aside0.mk hC
  have HC2 := Aside0.mk hC2
  have HBy := Aside0.mk hby
  have HC3 := Aside0.mk hC3
  have HBy3 := Aside0.mk hby3
  have HNl : Aside0 (¬ 4096 < bs.length) := ⟨by omega⟩
  have hd1 : decide (60 < (bs.length : Int)) = false := by simp; omega
  have hd3 : decide (5000 < (bs.length : Int)) = false := by simp; omega
  clear hC3 hby3
  have HBx : Aside0 ((w.alloc (.cells #[.slice A al.length c, .slice A2 prs.length c2] 25)).heap[w.heap.size]? = some (.cells #[.slice A al.length c, .slice A2 prs.length c2] 25 (0, 0))) := ⟨heap_alloc_new _ _⟩
  clear hC hC2 hby hf
  go_enter Try.func3, Try.ntmps3
  go_wp2_with (fail)
  refine HF.out.mono ?_
  rintro e w1 ⟨rfl, hb1⟩
  have HB1 := Aside0.mk (below_step HB.out hb1)
  have HBx1 : Aside0 (w1.heap[w.heap.size]? = _) := ⟨(hb1.block _ (blk_lt HBx.out)).trans HBx.out⟩
  have hx0 : w1.cell? ⟨w.heap.size, 0, none⟩ = some (.slice A al.length c) := blk_cell HBx1.out 0
  have hx1 : w1.cell? ⟨w.heap.size, 1, none⟩ = some (.slice A2 prs.length c2) := blk_cell HBx1.out 1
  clear hb1 HF
  go_wp2_with (fail)
  refine (new_calls A c al A2 c2 prs w1 (Kd.C_below HC.out HB1.out) (Kd.C_below HC2.out HB1.out) HBy.out (by omega) (by omega)).mono ?_
  rintro e w2 ⟨hno, hb2, hok⟩
  have HB2 := Aside0.mk (below_step HB1.out hb2)
  have HBx2 : Aside0 (w2.heap[w.heap.size]? = _) := ⟨(hb2.block _ (blk_lt HBx1.out)).trans HBx1.out⟩
  clear hx0 hx1
  have hx0 : w2.cell? ⟨w.heap.size, 0, none⟩ = some (.slice A al.length c) := blk_cell HBx2.out 0
  have hx1 : w2.cell? ⟨w.heap.size, 1, none⟩ = some (.slice A2 prs.length c2) := blk_cell HBx2.out 1
  have HPl := Aside0.mk (plain_calls A c al A2 c2 prs w2 (Kd.C_below HC.out HB2.out) (Kd.C_below HC2.out HB2.out) HBy.out (by omega) (by omega))
  by_cases hE : newE al prs = 0
  · obtain ⟨g, vt, vo, b, rfl, hH⟩ := hok hE
    have HE := Aside0.mk hE
    have HH := Aside0.mk hH
    clear hno hb2 hok hE hH
    go_wp2_with (fail)
    refine HPl.out.mono ?_
    rintro e w3 ⟨hb3, _, hok⟩
    obtain ⟨vs, vp, rfl, hRs, hRp⟩ := hok HE.out
    obtain ⟨As, cs, rfl⟩ := Kd.R_slice hRs
    obtain ⟨Ap, cp, rfl⟩ := Kd.R_slice hRp
    have HB3 := Aside0.mk (below_step HB2.out hb3)
    have HH3 := Aside0.mk (HH.out.below hb3)
    have HSr := Aside0.mk (Kd.R_reads' hRs).2.2
    have HPr := Aside0.mk (Kd.R_reads' hRp).2.2
    clear hok hb3 hRs hRp HPl HH hx0 hx1
    have HB4 : Aside0 (Below w3.heap.size w3 (w3.alloc (.cells #[.slice As (newT al prs).length cs, .slice Ap prs.length cp, .int .i64 (al.length : Int)] 35))) := ⟨bel_alloc (Below.refl _ _) _⟩
    have hcx : (w3.alloc (.cells #[.slice As (newT al prs).length cs, .slice Ap prs.length cp, .int .i64 (al.length : Int)] 35)).heap[w3.heap.size]? = some (.cells #[.slice As (newT al prs).length cs, .slice Ap prs.length cp, .int .i64 (al.length : Int)] 35 (0, 0)) := heap_alloc_new _ _
    have HCx := Aside0.mk hcx
    clear hcx
    go_wp2_with (fail)
    generalize w3.alloc (.cells #[.slice As (newT al prs).length cs, .slice Ap prs.length cp, .int .i64 (al.length : Int)] 35) = w4 at *
    obtain ⟨gx, hgx⟩ : ∃ gx, gx = w3.heap.size := ⟨_, rfl⟩
    rw [← hgx] at HCx ⊢
    clear hgx
    have HB5 := Aside0.mk (below_step HB3.out HB4.out)
    refine (enc_calls A3 c3 bs (Kd.C_below HC3.out HB5.out) HBy3.out (HH3.out.below HB4.out) rfl (by have := (newE_ok HE.out).2.1; omega) (by omega)).mono ?_
    rintro e w5 ⟨hb5, hlong, hbad, hgood⟩
    have HB6 := Aside0.mk (below_step HB5.out hb5)
    have hcx5 : w5.heap[gx]? = some (.cells #[.slice As (newT al prs).length cs, .slice Ap prs.length cp, .int .i64 (al.length : Int)] 35 (0, 0)) := (hb5.block _ (blk_lt HCx.out)).trans HCx.out
    have c0 : w5.cell? ⟨gx, 0, none⟩ = some (.slice As (newT al prs).length cs) := blk_cell hcx5 0
    have c1 : w5.cell? ⟨gx, 1, none⟩ = some (.slice Ap prs.length cp) := blk_cell hcx5 1
    have c2' : w5.cell? ⟨gx, 2, none⟩ = some (.int .i64 (al.length : Int)) := blk_cell hcx5 2
    have HRe := Aside0.mk (renc_calls As cs Ap cp prs al A3 c3 bs w5 (Kd.C_below (Kd.C_below HSr.out HB4.out) hb5) (Kd.C_below (Kd.C_below HPr.out HB4.out) hb5) (Kd.C_below HC3.out HB6.out) HBy.out HBy3.out HE.out (by omega))
    clear hcx5
    clear hlong
    cases hB : badAt al bs with
    | some i =>
      have HBa := Aside0.mk hB
      obtain rfl := hbad HNl.out i hB
      clear hbad hgood hb5 hB
      go_wp2_with (fail)
      refine HRe.out.mono ?_
      rintro e w6 ⟨hb6, _, hbad, _⟩
      obtain rfl := hbad HNl.out i HBa.out
      have HB7 := Aside0.mk (below_step HB6.out hb6)
      clear hbad hb6 HRe c0 c1 c2'
      have hnil : Kd.C (Kd.int .i64) w6 none ([] : List Int).length [] := ⟨rfl, by decide, fun h => absurd h (by decide)⟩
      have HX := Aside0.mk (ints_calls none 0 [] none 0 [] w6 hnil hnil true (by decide))
      clear hnil
      go_wp2_with (fail)
      refine HX.out.mono ?_
      rintro e w7 ⟨rfl, ⟨nd, rfl⟩⟩
      have HB8 : Aside0 (Below w.heap.size w (w6.drewN nd)) := ⟨pw_below_drewN HB7.out nd⟩
      go_wp2_with (fail)
      refine (awake_calls _).mono ?_
      rintro e w' ⟨rfl, hb⟩
      have HBz := Aside0.mk (below_step HB8.out hb)
      clear hb
      go_wp2
      go_ret
      exact ⟨rfl, HBz.out⟩
    | none =>
      have HBa := Aside0.mk hB
      obtain ⟨v1, rfl, hR1⟩ := hgood HNl.out hB
      have HR1 := Aside0.mk hR1
      clear hbad hgood hB hR1 hb5
      go_wp2_with (fail)
      refine HRe.out.mono ?_
      rintro e w6 ⟨hb6, _, _, hgood⟩
      obtain ⟨v2, rfl, hR2⟩ := hgood HNl.out HBa.out
      have HB7 := Aside0.mk (below_step HB6.out hb6)
      have HR1b := Aside0.mk (Kd.R_below HR1.out hb6)
      have HR2 := Aside0.mk hR2
      clear hgood hb6 hR2 HRe c0 c1 c2'
      generalize encL al.length prs (toksL al bs) = l1 at *
      obtain ⟨Ar1, cr1, rfl⟩ := Kd.R_slice HR1b.out
      obtain ⟨Ar2, cr2, rfl⟩ := Kd.R_slice HR2.out
      have HX := Aside0.mk (ints_calls Ar1 cr1 l1 Ar2 cr2 l1 w6 (Kd.R_reads' HR1b.out).2.2 (Kd.R_reads' HR2.out).2.2 true (by simp))
      go_wp2_with (fail)
      refine HX.out.mono ?_
      rintro e w7 ⟨rfl, ⟨nd, rfl⟩⟩
      have HB8 : Aside0 (Below w.heap.size w (w6.drewN nd)) := ⟨pw_below_drewN HB7.out nd⟩
      go_wp2_with (fail)
      refine (awake_calls _).mono ?_
      rintro e w' ⟨rfl, hb⟩
      have HBz := Aside0.mk (below_step HB8.out hb)
      clear hb
      go_wp2
      go_ret
      exact ⟨rfl, HBz.out⟩
  · have HE := Aside0.mk hE
    have hW2 := hno hE
    subst hW2
    have hEd : (newE al prs != 0) = true := by simpa using hE
    have HPl2 : Aside0 (Calls Try.prog 12 #[.agg #[.slice A al.length c, .slice A2 prs.length c2]] w2 fun e w3 => e = .returned (.tuple #[.agg #[.slice none 0 0, .slice none 0 0, .int .i64 0], .int .i64 (newE al prs)]) ∧ Below w2.heap.size w2 w3) := ⟨HPl.out.mono fun e w3 h => ⟨h.2.1 HE.out, h.1⟩⟩
    clear hno hb2 hok hE HPl
    generalize newE al prs = z at *
    go_wp2_with (fail)
    refine HPl2.out.mono ?_
    rintro e w3 ⟨rfl, hb3⟩
    have HB3 := Aside0.mk (below_step HB2.out hb3)
    have HB4 : Aside0 (Below w.heap.size w (w3.alloc (.cells #[.slice none 0 0, .slice none 0 0, .int .i64 0] 35))) := ⟨bel_alloc HB3.out _⟩
    clear hb3 hx0 hx1
    go_wp2_with (fail)
    refine (awake_calls _).mono ?_
    rintro e w7 ⟨rfl, hb⟩
    have HB7 := Aside0.mk (below_step HB4.out hb)
    clear hb
    go_wp2
    go_ret
    exact ⟨rfl, HB7.out⟩
set_option maxHeartbeats 16000000 in
set_option maxRecDepth 100000 in
theorem encodes_long (hC : Kd.C (Kd.int .u8) w A al.length al) (hC2 : Kd.C kP w A2 prs.length prs) (hC3 : Kd.C (Kd.int .u8) w A3 bs.length bs) (hby3 : ∀ x ∈ bs, 0 ≤ x ∧ x < 256) (hb1 : 4096 < bs.length) (hb2 : bs.length ≤ 5000) (hby : ∀ x ∈ al, 0 ≤ x ∧ x < 256) (hf : fewB al.length prs.length = true) :
    Calls Try.prog 3 #[.agg #[.slice A al.length c, .slice A2 prs.length c2], .slice A3 bs.length c3] w fun e w' => e = .returned (.bool true) ∧ Below w.heap.size w w' := by
  have HB : Aside0 (Below w.heap.size w (w.alloc (.cells #[.slice A al.length c, .slice A2 prs.length c2] 25))) := ⟨bel_alloc (Below.refl _ _) _⟩
  obtain ⟨hal, hpr⟩ := fewB_true hf
  have HF := Aside0.mk (few_calls A al.length c A2 prs.length c2 (w.alloc (.cells #[.slice A al.length c, .slice A2 prs.length c2] 25)) (by omega) (by omega) true hf)
  have HC := Aside0.mk hC
  have HC2 := Aside0.mk hC2
  have HBy := Aside0.mk hby
  have HC3 := Aside0.mk hC3
  have HBy3 := Aside0.mk hby3
  have HNl : Aside0 (4096 < bs.length) := ⟨hb1⟩
  have hd1 : decide (60 < (bs.length : Int)) = true := by simp; omega
  have hd2 : decide ((bs.length : Int) ≤ 4096) = false := by simp; omega
  have hd3 : decide (5000 < (bs.length : Int)) = false := by simp; omega
  clear hC3 hby3 hb1
  have HBx : Aside0 ((w.alloc (.cells #[.slice A al.length c, .slice A2 prs.length c2] 25)).heap[w.heap.size]? = some (.cells #[.slice A al.length c, .slice A2 prs.length c2] 25 (0, 0))) := ⟨heap_alloc_new _ _⟩
  clear hC hC2 hby hf
  go_enter Try.func3, Try.ntmps3
  go_wp2_with (fail)
  refine HF.out.mono ?_
  rintro e w1 ⟨rfl, hb1⟩
  have HB1 := Aside0.mk (below_step HB.out hb1)
  have HBx1 : Aside0 (w1.heap[w.heap.size]? = _) := ⟨(hb1.block _ (blk_lt HBx.out)).trans HBx.out⟩
  have hx0 : w1.cell? ⟨w.heap.size, 0, none⟩ = some (.slice A al.length c) := blk_cell HBx1.out 0
  have hx1 : w1.cell? ⟨w.heap.size, 1, none⟩ = some (.slice A2 prs.length c2) := blk_cell HBx1.out 1
  clear hb1 HF
  go_wp2_with (fail)
  refine (new_calls A c al A2 c2 prs w1 (Kd.C_below HC.out HB1.out) (Kd.C_below HC2.out HB1.out) HBy.out (by omega) (by omega)).mono ?_
  rintro e w2 ⟨hno, hb2, hok⟩
  have HB2 := Aside0.mk (below_step HB1.out hb2)
  have HBx2 : Aside0 (w2.heap[w.heap.size]? = _) := ⟨(hb2.block _ (blk_lt HBx1.out)).trans HBx1.out⟩
  clear hx0 hx1
  have hx0 : w2.cell? ⟨w.heap.size, 0, none⟩ = some (.slice A al.length c) := blk_cell HBx2.out 0
  have hx1 : w2.cell? ⟨w.heap.size, 1, none⟩ = some (.slice A2 prs.length c2) := blk_cell HBx2.out 1
  have HPl := Aside0.mk (plain_calls A c al A2 c2 prs w2 (Kd.C_below HC.out HB2.out) (Kd.C_below HC2.out HB2.out) HBy.out (by omega) (by omega))
  by_cases hE : newE al prs = 0
  · obtain ⟨g, vt, vo, b, rfl, hH⟩ := hok hE
    have HE := Aside0.mk hE
    have HH := Aside0.mk hH
    clear hno hb2 hok hE hH
    go_wp2_with (fail)
    refine HPl.out.mono ?_
    rintro e w3 ⟨hb3, _, hok⟩
    obtain ⟨vs, vp, rfl, hRs, hRp⟩ := hok HE.out
    obtain ⟨As, cs, rfl⟩ := Kd.R_slice hRs
    obtain ⟨Ap, cp, rfl⟩ := Kd.R_slice hRp
    have HB3 := Aside0.mk (below_step HB2.out hb3)
    have HH3 := Aside0.mk (HH.out.below hb3)
    have HSr := Aside0.mk (Kd.R_reads' hRs).2.2
    have HPr := Aside0.mk (Kd.R_reads' hRp).2.2
    clear hok hb3 hRs hRp HPl HH hx0 hx1
    have HB4 : Aside0 (Below w3.heap.size w3 (w3.alloc (.cells #[.slice As (newT al prs).length cs, .slice Ap prs.length cp, .int .i64 (al.length : Int)] 35))) := ⟨bel_alloc (Below.refl _ _) _⟩
    have hcx : (w3.alloc (.cells #[.slice As (newT al prs).length cs, .slice Ap prs.length cp, .int .i64 (al.length : Int)] 35)).heap[w3.heap.size]? = some (.cells #[.slice As (newT al prs).length cs, .slice Ap prs.length cp, .int .i64 (al.length : Int)] 35 (0, 0)) := heap_alloc_new _ _
    have HCx := Aside0.mk hcx
    clear hcx
    go_wp2_with (fail)
    generalize w3.alloc (.cells #[.slice As (newT al prs).length cs, .slice Ap prs.length cp, .int .i64 (al.length : Int)] 35) = w4 at *
    obtain ⟨gx, hgx⟩ : ∃ gx, gx = w3.heap.size := ⟨_, rfl⟩
    rw [← hgx] at HCx ⊢
    clear hgx
    have HB5 := Aside0.mk (below_step HB3.out HB4.out)
    refine (enc_calls A3 c3 bs (Kd.C_below HC3.out HB5.out) HBy3.out (HH3.out.below HB4.out) rfl (by have := (newE_ok HE.out).2.1; omega) (by omega)).mono ?_
    rintro e w5 ⟨hb5, hlong, hbad, hgood⟩
    have HB6 := Aside0.mk (below_step HB5.out hb5)
    have hcx5 : w5.heap[gx]? = some (.cells #[.slice As (newT al prs).length cs, .slice Ap prs.length cp, .int .i64 (al.length : Int)] 35 (0, 0)) := (hb5.block _ (blk_lt HCx.out)).trans HCx.out
    have c0 : w5.cell? ⟨gx, 0, none⟩ = some (.slice As (newT al prs).length cs) := blk_cell hcx5 0
    have c1 : w5.cell? ⟨gx, 1, none⟩ = some (.slice Ap prs.length cp) := blk_cell hcx5 1
    have c2' : w5.cell? ⟨gx, 2, none⟩ = some (.int .i64 (al.length : Int)) := blk_cell hcx5 2
    have HRe := Aside0.mk (renc_calls As cs Ap cp prs al A3 c3 bs w5 (Kd.C_below (Kd.C_below HSr.out HB4.out) hb5) (Kd.C_below (Kd.C_below HPr.out HB4.out) hb5) (Kd.C_below HC3.out HB6.out) HBy.out HBy3.out HE.out (by omega))
    clear hcx5
    · obtain rfl := hlong HNl.out
      clear hbad hgood hb5 hlong
      go_wp2_with (fail)
      refine HRe.out.mono ?_
      rintro e w6 ⟨hb6, hlong, _, _⟩
      obtain rfl := hlong HNl.out
      have HB7 := Aside0.mk (below_step HB6.out hb6)
      clear hlong hb6 HRe c0 c1 c2'
      have hnil : Kd.C (Kd.int .i64) w6 none ([] : List Int).length [] := ⟨rfl, by decide, fun h => absurd h (by decide)⟩
      have HX := Aside0.mk (ints_calls none 0 [] none 0 [] w6 hnil hnil true (by decide))
      clear hnil
      go_wp2_with (fail)
      refine HX.out.mono ?_
      rintro e w7 ⟨rfl, ⟨nd, rfl⟩⟩
      have HB8 : Aside0 (Below w.heap.size w (w6.drewN nd)) := ⟨pw_below_drewN HB7.out nd⟩
      go_wp2_with (fail)
      refine (awake_calls _).mono ?_
      rintro e w' ⟨rfl, hb⟩
      have HBz := Aside0.mk (below_step HB8.out hb)
      clear hb
      go_wp2
      go_ret
      exact ⟨rfl, HBz.out⟩
  · have HE := Aside0.mk hE
    have hW2 := hno hE
    subst hW2
    have hEd : (newE al prs != 0) = true := by simpa using hE
    have HPl2 : Aside0 (Calls Try.prog 12 #[.agg #[.slice A al.length c, .slice A2 prs.length c2]] w2 fun e w3 => e = .returned (.tuple #[.agg #[.slice none 0 0, .slice none 0 0, .int .i64 0], .int .i64 (newE al prs)]) ∧ Below w2.heap.size w2 w3) := ⟨HPl.out.mono fun e w3 h => ⟨h.2.1 HE.out, h.1⟩⟩
    clear hno hb2 hok hE HPl
    generalize newE al prs = z at *
    go_wp2_with (fail)
    refine HPl2.out.mono ?_
    rintro e w3 ⟨rfl, hb3⟩
    have HB3 := Aside0.mk (below_step HB2.out hb3)
    have HB4 : Aside0 (Below w.heap.size w (w3.alloc (.cells #[.slice none 0 0, .slice none 0 0, .int .i64 0] 35))) := ⟨bel_alloc HB3.out _⟩
    clear hb3 hx0 hx1
    go_wp2_with (fail)
    refine (awake_calls _).mono ?_
    rintro e w7 ⟨rfl, hb⟩
    have HB7 := Aside0.mk (below_step HB4.out hb)
    clear hb
    go_wp2
    go_ret
    exact ⟨rfl, HB7.out⟩
theorem encodes_n (n n2 n3 : Nat) (hC : Kd.C (Kd.int .u8) w A n al) (hC2 : Kd.C kP w A2 n2 prs) (hC3 : Kd.C (Kd.int .u8) w A3 n3 bs) (hby : ∀ x ∈ al, 0 ≤ x ∧ x < 256) (hby3 : ∀ x ∈ bs, 0 ≤ x ∧ x < 256) :
    Calls Try.prog 3 #[.agg #[.slice A n c, .slice A2 n2 c2], .slice A3 n3 c3] w fun e w' => e = .returned (.bool true) ∧ Below w.heap.size w w' := by
  obtain rfl := hC.1
  obtain rfl := hC2.1
  obtain rfl := hC3.1
  cases hf : fewB al.length prs.length with
  | false => exact encodes_few A c al A2 c2 prs A3 c3 bs w hC.2.1 hC2.2.1 hC3.2.1 hf
  | true =>
    by_cases h1 : bs.length ≤ 60
    · exact encodes_near A c al A2 c2 prs A3 c3 bs w hC hC2 hC3 hby3 h1 hby hf
    · by_cases h2 : bs.length ≤ 4096
      · exact encodes_mid A c al A2 c2 prs A3 c3 bs w hC.2.1 hC2.2.1 hC3.2.1 (by omega) h2 hf
      · by_cases h3 : bs.length ≤ 5000
        · exact encodes_long A c al A2 c2 prs A3 c3 bs w hC hC2 hC3 hby3 (by omega) h3 hby hf
        · exact encodes_far A c al A2 c2 prs A3 c3 bs w hC.2.1 hC2.2.1 hC3.2.1 (by omega) hf
end
end Go.Proofs.Ytbgiccbegcepcaa.Bpe

