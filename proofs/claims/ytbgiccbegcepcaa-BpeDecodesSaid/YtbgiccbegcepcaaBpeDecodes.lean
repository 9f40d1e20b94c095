/- bpe's law: which bytes tokens are, or that one is none. -/
import Derived.Test.YtbgiccbegcepcaaBpeFew
import Derived.Test.YtbgiccbegcepcaaBpePlain
import Derived.Test.YtbgiccbegcepcaaBpeREnc
namespace Go.Proofs.Ytbgiccbegcepcaa.Bpe
open Go.RowKit Go.Proofs.YtbgiccbegcepcaaW.PrintWords Go.Proofs.YtbgiccbegcepcaaW.PrintLast Go.Proofs.YtbgiccbegcepcaaW.PrintMore Go.Proofs.Ytbgiccbegcepcaa.K Go.Proofs.Ytbgiccbegcepcaa.Law
set_option linter.unusedVariables false
set_option linter.unusedSimpArgs false
section
variable (A : Option Addr) (c : Nat) (al : List Int) (A2 : Option Addr) (c2 : Nat) (prs : List Pr) (A3 : Option Addr) (c3 : Nat) (l : List Int) (w : World)
set_option maxHeartbeats 2000000 in
set_option maxRecDepth 100000 in
theorem decodes_few (hm : al.length ≤ 9223372036854775807) (hm2 : prs.length ≤ 9223372036854775807) (hm3 : l.length ≤ 9223372036854775807) (hf : fewB al.length prs.length = false) :
    Calls Try.prog 5 #[.agg #[.slice A al.length c, .slice A2 prs.length c2], .slice A3 l.length c3] w fun e w' => e = .returned (.bool true) ∧ Below w.heap.size w w' := by
  have HB : Aside0 (Below w.heap.size w (w.alloc (.cells #[.slice A al.length c, .slice A2 prs.length c2] 25))) := ⟨bel_alloc (Below.refl _ _) _⟩
  have HF := Aside0.mk (few_calls A al.length c A2 prs.length c2 (w.alloc (.cells #[.slice A al.length c, .slice A2 prs.length c2] 25)) hm hm2 false hf)
  clear hf
  go_enter Try.func5, Try.ntmps5
  go_wp2_with (fail)
  refine HF.out.mono ?_
  rintro e w1 ⟨rfl, hb⟩
  have HB1 := Aside0.mk (below_step HB.out hb)
  clear hb
  go_wp2_with (fail)
  refine (awake_calls _).mono ?_
  rintro e w2 ⟨rfl, hb⟩
  have HB2 := Aside0.mk (below_step HB1.out hb)
  clear hb
  go_wp2
  go_ret
  exact ⟨rfl, HB2.out⟩
set_option maxHeartbeats 2000000 in
set_option maxRecDepth 100000 in
theorem decodes_far (hm : al.length ≤ 9223372036854775807) (hm2 : prs.length ≤ 9223372036854775807) (hm3 : l.length ≤ 9223372036854775807) (h1 : 60 < l.length) (hf : fewB al.length prs.length = true) :
    Calls Try.prog 5 #[.agg #[.slice A al.length c, .slice A2 prs.length c2], .slice A3 l.length c3] w fun e w' => e = .returned (.bool true) ∧ Below w.heap.size w w' := by
  have HB : Aside0 (Below w.heap.size w (w.alloc (.cells #[.slice A al.length c, .slice A2 prs.length c2] 25))) := ⟨bel_alloc (Below.refl _ _) _⟩
  have HF := Aside0.mk (few_calls A al.length c A2 prs.length c2 (w.alloc (.cells #[.slice A al.length c, .slice A2 prs.length c2] 25)) hm hm2 true hf)
  have hd1 : decide (60 < (l.length : Int)) = true := by simp; omega
  clear h1
  clear hf
  go_enter Try.func5, Try.ntmps5
  go_wp2_with (fail)
  refine HF.out.mono ?_
  rintro e w1 ⟨rfl, hb⟩
  have HB1 := Aside0.mk (below_step HB.out hb)
  clear hb
  go_wp2_with (fail)
  refine (awake_calls _).mono ?_
  rintro e w2 ⟨rfl, hb⟩
  have HB2 := Aside0.mk (below_step HB1.out hb)
  clear hb
  go_wp2
  go_ret
  exact ⟨rfl, HB2.out⟩
set_option maxHeartbeats 16000000 in
set_option maxRecDepth 100000 in
theorem decodes_near (hC : Kd.C (Kd.int .u8) w A al.length al) (hC2 : Kd.C kP w A2 prs.length prs) (hC3 : Kd.C (Kd.int .i64) w A3 l.length l) (hl60 : l.length ≤ 60) (hby : ∀ x ∈ al, 0 ≤ x ∧ x < 256) (hf : fewB al.length prs.length = true) :
    Calls Try.prog 5 #[.agg #[.slice A al.length c, .slice A2 prs.length c2], .slice A3 l.length c3] w fun e w' => e = .returned (.bool true) ∧ Below w.heap.size w w' := by
  have HB : Aside0 (Below w.heap.size w (w.alloc (.cells #[.slice A al.length c, .slice A2 prs.length c2] 25))) := ⟨bel_alloc (Below.refl _ _) _⟩
  obtain ⟨hal, hpr⟩ := fewB_true hf
  have HF := Aside0.mk (few_calls A al.length c A2 prs.length c2 (w.alloc (.cells #[.slice A al.length c, .slice A2 prs.length c2] 25)) (by omega) (by omega) true hf)
  have HC := Aside0.mk hC
  have HC2 := Aside0.mk hC2
  have HBy := Aside0.mk hby
  have HC3 := Aside0.mk hC3
  have hd60 : decide (60 < (l.length : Int)) = false := by simp; omega
  clear hC3
  have HBx : Aside0 ((w.alloc (.cells #[.slice A al.length c, .slice A2 prs.length c2] 25)).heap[w.heap.size]? = some (.cells #[.slice A al.length c, .slice A2 prs.length c2] 25 (0, 0))) := ⟨heap_alloc_new _ _⟩
  clear hC hC2 hby hf
  go_enter Try.func5, Try.ntmps5
  go_wp2_with (fail)
  refine HF.out.mono ?_
  rintro e w1 ⟨rfl, hb1⟩
  have HB1 := Aside0.mk (below_step HB.out hb1)
  have HBx1 : Aside0 (w1.heap[w.heap.size]? = _) := ⟨(hb1.block _ (blk_lt HBx.out)).trans HBx.out⟩
  have hx0 : w1.cell? ⟨w.heap.size, 0, none⟩ = some (.slice A al.length c) := blk_cell HBx1.out 0
  have hx1 : w1.cell? ⟨w.heap.size, 1, none⟩ = some (.slice A2 prs.length c2) := blk_cell HBx1.out 1
  clear hb1 HF
  go_wp2_with (fail)
  refine (new_calls A c al A2 c2 prs w1 (Kd.C_below HC.out HB1.out) (Kd.C_below HC2.out HB1.out) HBy.out (by omega) (by omega)).mono ?_
  rintro e w2 ⟨hno, hb2, hok⟩
  have HB2 := Aside0.mk (below_step HB1.out hb2)
  have HBx2 : Aside0 (w2.heap[w.heap.size]? = _) := ⟨(hb2.block _ (blk_lt HBx1.out)).trans HBx1.out⟩
  clear hx0 hx1
  have hx0 : w2.cell? ⟨w.heap.size, 0, none⟩ = some (.slice A al.length c) := blk_cell HBx2.out 0
  have hx1 : w2.cell? ⟨w.heap.size, 1, none⟩ = some (.slice A2 prs.length c2) := blk_cell HBx2.out 1
  have HPl := Aside0.mk (plain_calls A c al A2 c2 prs w2 (Kd.C_below HC.out HB2.out) (Kd.C_below HC2.out HB2.out) HBy.out (by omega) (by omega))
  by_cases hE : newE al prs = 0
  · obtain ⟨g, vt, vo, b, rfl, hH⟩ := hok hE
    have HE := Aside0.mk hE
    have HH := Aside0.mk hH
    clear hno hb2 hok hE hH
    go_wp2_with (fail)
    refine HPl.out.mono ?_
    rintro e w3 ⟨hb3, _, hok⟩
    obtain ⟨vs, vp, rfl, hRs, hRp⟩ := hok HE.out
    obtain ⟨As, cs, rfl⟩ := Kd.R_slice hRs
    obtain ⟨Ap, cp, rfl⟩ := Kd.R_slice hRp
    have HB3 := Aside0.mk (below_step HB2.out hb3)
    have HH3 := Aside0.mk (HH.out.below hb3)
    have HSr := Aside0.mk (Kd.R_reads' hRs).2.2
    have HPr := Aside0.mk (Kd.R_reads' hRp).2.2
    clear hok hb3 hRs hRp HPl HH hx0 hx1
    have HB4 : Aside0 (Below w3.heap.size w3 (w3.alloc (.cells #[.slice As (newT al prs).length cs, .slice Ap prs.length cp, .int .i64 (al.length : Int)] 35))) := ⟨bel_alloc (Below.refl _ _) _⟩
    have hcx : (w3.alloc (.cells #[.slice As (newT al prs).length cs, .slice Ap prs.length cp, .int .i64 (al.length : Int)] 35)).heap[w3.heap.size]? = some (.cells #[.slice As (newT al prs).length cs, .slice Ap prs.length cp, .int .i64 (al.length : Int)] 35 (0, 0)) := heap_alloc_new _ _
    have HCx := Aside0.mk hcx
    clear hcx
    go_wp2_with (fail)
    generalize w3.alloc (.cells #[.slice As (newT al prs).length cs, .slice Ap prs.length cp, .int .i64 (al.length : Int)] 35) = w4 at *
    obtain ⟨gx, hgx⟩ : ∃ gx, gx = w3.heap.size := ⟨_, rfl⟩
    rw [← hgx] at HCx ⊢
    clear hgx
    have HB5 := Aside0.mk (below_step HB3.out HB4.out)
    have HTn := Aside0.mk (newT_length HE.out)
    have H16 := Aside0.mk (newT_16 HE.out)
    have HS4 : Aside0 (Kd.C kS w4 As (newT al prs).length (newT al prs)) := ⟨Kd.C_below HSr.out HB4.out⟩
    have hTd : (newT al prs).length ≤ 1000 := by have := HTn.out; omega
    have HH4 := Aside0.mk (HH3.out.below HB4.out)
    clear HH3 HSr HE HTn HPr
    generalize newT al prs = T at *
    refine (decode_calls A3 c3 l (Kd.C_below HC3.out HB5.out) HH4.out H16.out (by omega) hTd).mono ?_
    rintro e w5 ⟨hno, hb5, hok⟩
    have HB6 := Aside0.mk (below_step HB5.out hb5)
    have HS5 : Aside0 (Kd.C kS w5 As T.length T) := ⟨Kd.C_below HS4.out hb5⟩
    have HCx5 : Aside0 (w5.heap[gx]? = some (.cells #[.slice As T.length cs, .slice Ap prs.length cp, .int .i64 (al.length : Int)] 35 (0, 0))) := ⟨(hb5.block _ (blk_lt HCx.out)).trans HCx.out⟩
    clear HCx hb5 HS4 HH4 HB1 HB2 HBx HBx1 HBx2 HC HC2 HBy
    cases hO : okL T.length l with
    | false =>
      obtain rfl := hno hO
      have HO := Aside0.mk hO
      clear hno hok hO
      go_wp2_with (fail)
      go_loopw [11, 12] (fun o i wr => ∃ k : Nat, k ≤ l.length ∧ i = .int .i64 (k : Int) ∧ o = .string (strOfNums (decL T (l.take k))) ∧ Aside0 (okL T.length (l.take k) = true ∧ Below w5.heap.size w5 wr)) (fun _ i _ => l.length - (intOf i).toNat)
      case atStart => exact ⟨0, Nat.zero_le _, rfl, rfl, ⟨rfl, Below.refl _ _⟩⟩
      case round =>
        obtain ⟨k, hk, rfl, rfl, HI⟩ := hrel
        have HBw := Aside0.mk (below_step HB6.out HI.out.2)
        have hbxr : wr.heap[gx]? = some (.cells #[.slice As T.length cs, .slice Ap prs.length cp, .int .i64 (al.length : Int)] 35 (0, 0)) := (HI.out.2.block _ (blk_lt HCx5.out)).trans HCx5.out
        have hg0 : wr.cell? ⟨gx, 0, none⟩ = some (.slice As T.length cs) := blk_cell hbxr 0
        clear hbxr
        by_cases hlt : k < l.length
        · obtain ⟨ad, rfl, hcell⟩ := int_at' HC3.out HBw.out k hlt
          have HX := Aside0.mk (decL_step T l k hlt)
          have HTk : Aside0 (l.take (k + 1) = l.take k ++ [l.getD k 0]) := ⟨by
            rw [List.take_succ_eq_append_getElem hlt, List.getD_eq_getElem?_getD, List.getElem?_eq_getElem hlt]; rfl⟩
          have HLk : Aside0 ((decL T (l.take k)).length ≤ 1000) := ⟨by
            have h1 := decL_le T H16.out (l.take k)
            rw [List.length_take] at h1
            omega⟩
          have HNo : Aside0 (isTok T.length (l.getD k 0) = false → okL T.length l = false) := ⟨okL_of _ _ _ hlt⟩
          obtain ⟨x, hx⟩ : ∃ x, x = l.getD k 0 := ⟨_, rfl⟩
          rw [← hx] at hcell HX HTk HNo
          clear hx
          cases hq : isTok T.length x with
          | false =>
            by_cases hneg : x < 0
            · have hd1 : decide (x < 0) = true := by simp; omega
              clear hneg hq
              go_wp2_with (fail)
              go_quiet (fail)
              have HBw2 : Aside0 (Below w.heap.size w (wr.drewN nq)) := ⟨pw_below_drewN HBw.out nq⟩
              go_wp2_with (fail)
              refine (awake_calls _).mono ?_
              rintro e w' ⟨rfl, hb⟩
              have HBz := Aside0.mk (below_step HBw2.out hb)
              clear hb
              go_wp2
              go_ret
              exact ⟨rfl, HBz.out⟩
            · have hd1 : decide (x < 0) = false := by simp; omega
              have hge : T.length ≤ x.toNat := by simp [isTok] at hq; omega
              have hd2 : decide ((T.length : Int) ≤ x) = true := by simp; omega
              clear hge
              clear hneg hq
              go_wp2_with (fail)
              go_quiet (fail)
              have HBw2 : Aside0 (Below w.heap.size w (wr.drewN nq)) := ⟨pw_below_drewN HBw.out nq⟩
              go_wp2_with (fail)
              refine (awake_calls _).mono ?_
              rintro e w' ⟨rfl, hb⟩
              have HBz := Aside0.mk (below_step HBw2.out hb)
              clear hb
              go_wp2
              go_ret
              exact ⟨rfl, HBz.out⟩
          | true =>
            have HOk : Aside0 (okL T.length (l.take (k + 1)) = true) := ⟨by rw [HTk.out, okL, List.all_append, ← okL, HI.out.1]; simp [hq]⟩
            obtain ⟨m, rfl⟩ : ∃ m : Nat, x = m := ⟨x.toNat, by simp [isTok] at hq; omega⟩
            have hml : m < T.length := by simp [isTok] at hq; omega
            have hmT : (m : Int) < (T.length : Int) := by omega
            have hd1 : decide ((m : Int) < 0) = false := by simp
            have hd2 : decide ((T.length : Int) ≤ (m : Int)) = false := by simp; omega
            have hmI : (0 : Int) ≤ (m : Int) := Int.natCast_nonneg _
            clear hq
            obtain ⟨adt, rfl, hst⟩ := str_at (Kd.C_below HS5.out HI.out.2) m hml
            have HM16 : Aside0 ((T.getD m []).length ≤ 16) := ⟨by
              rw [List.getD_eq_getElem?_getD, List.getElem?_eq_getElem hml]
              exact H16.out _ (List.getElem_mem hml)⟩
            rw [show ((m : Int)).toNat = m from Int.toNat_natCast m] at HX
            generalize decL T (l.take k) = es at *
            generalize T.getD m [] = tm at *
            have hz1 : ((strOfNums es).size : Int) ≤ 8388608 := by rw [strOfNums_size]; have := HLk.out; omega
            have hz2 : ((strOfNums tm).size : Int) ≤ 8388608 := by rw [strOfNums_size]; have := HM16.out; omega
            have hap := str_append es tm
            go_wp2_with (fail)
            go_quiet (fail)
            have hcell2 : (wr.drewN nq).cell? (ad.add k) = some (.int .i64 (m : Int)) := hcell
            have hg02 : (wr.drewN nq).cell? ⟨gx, 0, none⟩ = some (.slice (some adt) T.length cs) := hg0
            have hst2 : (wr.drewN nq).cell? (adt.add m) = some (.string (strOfNums tm)) := hst
            have HBq : Aside0 (Below w5.heap.size w5 (wr.drewN nq)) := ⟨pw_below_drewN HI.out.2 nq⟩
            clear hcell hg0 hst
            generalize wr.drewN nq = wq at *
            go_wp2_with (fail)
            go_quiet (fail)
            go_wp2_with (fail)
            go_roundw
            case rel => exact ⟨k + 1, by omega, by go_num, by rw [HX.out], ⟨HOk.out, pw_below_drewN HBq.out nq⟩⟩
            case measure => simp [intOf]; omega
        · obtain rfl : k = l.length := by omega
          have h := HI.out.1
          rw [List.take_length, HO.out] at h
          exact absurd h (by decide)
    | true =>
      obtain ⟨bv, rfl, hR⟩ := hok hO
      obtain ⟨Ab, cb, rfl⟩ := Kd.R_slice hR
      have HR := Aside0.mk (Kd.R_reads' hR).2.2
      clear hR
      have HO := Aside0.mk hO
      clear hno hok hO
      go_wp2_with (fail)
      go_loopw [11, 12] (fun o i wr => ∃ k : Nat, k ≤ l.length ∧ i = .int .i64 (k : Int) ∧ o = .string (strOfNums (decL T (l.take k))) ∧ Aside0 (okL T.length (l.take k) = true ∧ Below w5.heap.size w5 wr)) (fun _ i _ => l.length - (intOf i).toNat)
      case atStart => exact ⟨0, Nat.zero_le _, rfl, rfl, ⟨rfl, Below.refl _ _⟩⟩
      case round =>
        obtain ⟨k, hk, rfl, rfl, HI⟩ := hrel
        have HBw := Aside0.mk (below_step HB6.out HI.out.2)
        have hbxr : wr.heap[gx]? = some (.cells #[.slice As T.length cs, .slice Ap prs.length cp, .int .i64 (al.length : Int)] 35 (0, 0)) := (HI.out.2.block _ (blk_lt HCx5.out)).trans HCx5.out
        have hg0 : wr.cell? ⟨gx, 0, none⟩ = some (.slice As T.length cs) := blk_cell hbxr 0
        clear hbxr
        by_cases hlt : k < l.length
        · obtain ⟨ad, rfl, hcell⟩ := int_at' HC3.out HBw.out k hlt
          have HX := Aside0.mk (decL_step T l k hlt)
          have HTk : Aside0 (l.take (k + 1) = l.take k ++ [l.getD k 0]) := ⟨by
            rw [List.take_succ_eq_append_getElem hlt, List.getD_eq_getElem?_getD, List.getElem?_eq_getElem hlt]; rfl⟩
          have HLk : Aside0 ((decL T (l.take k)).length ≤ 1000) := ⟨by
            have h1 := decL_le T H16.out (l.take k)
            rw [List.length_take] at h1
            omega⟩
          have HNo : Aside0 (isTok T.length (l.getD k 0) = false → okL T.length l = false) := ⟨okL_of _ _ _ hlt⟩
          obtain ⟨x, hx⟩ : ∃ x, x = l.getD k 0 := ⟨_, rfl⟩
          rw [← hx] at hcell HX HTk HNo
          clear hx
          cases hq : isTok T.length x with
          | false =>
            exact absurd (HNo.out hq) (by rw [HO.out]; decide)
          | true =>
            have HOk : Aside0 (okL T.length (l.take (k + 1)) = true) := ⟨by rw [HTk.out, okL, List.all_append, ← okL, HI.out.1]; simp [hq]⟩
            obtain ⟨m, rfl⟩ : ∃ m : Nat, x = m := ⟨x.toNat, by simp [isTok] at hq; omega⟩
            have hml : m < T.length := by simp [isTok] at hq; omega
            have hmT : (m : Int) < (T.length : Int) := by omega
            have hd1 : decide ((m : Int) < 0) = false := by simp
            have hd2 : decide ((T.length : Int) ≤ (m : Int)) = false := by simp; omega
            have hmI : (0 : Int) ≤ (m : Int) := Int.natCast_nonneg _
            clear hq
            obtain ⟨adt, rfl, hst⟩ := str_at (Kd.C_below HS5.out HI.out.2) m hml
            have HM16 : Aside0 ((T.getD m []).length ≤ 16) := ⟨by
              rw [List.getD_eq_getElem?_getD, List.getElem?_eq_getElem hml]
              exact H16.out _ (List.getElem_mem hml)⟩
            rw [show ((m : Int)).toNat = m from Int.toNat_natCast m] at HX
            generalize decL T (l.take k) = es at *
            generalize T.getD m [] = tm at *
            have hz1 : ((strOfNums es).size : Int) ≤ 8388608 := by rw [strOfNums_size]; have := HLk.out; omega
            have hz2 : ((strOfNums tm).size : Int) ≤ 8388608 := by rw [strOfNums_size]; have := HM16.out; omega
            have hap := str_append es tm
            go_wp2_with (fail)
            go_quiet (fail)
            have hcell2 : (wr.drewN nq).cell? (ad.add k) = some (.int .i64 (m : Int)) := hcell
            have hg02 : (wr.drewN nq).cell? ⟨gx, 0, none⟩ = some (.slice (some adt) T.length cs) := hg0
            have hst2 : (wr.drewN nq).cell? (adt.add m) = some (.string (strOfNums tm)) := hst
            have HBq : Aside0 (Below w5.heap.size w5 (wr.drewN nq)) := ⟨pw_below_drewN HI.out.2 nq⟩
            clear hcell hg0 hst
            generalize wr.drewN nq = wq at *
            go_wp2_with (fail)
            go_quiet (fail)
            go_wp2_with (fail)
            go_roundw
            case rel => exact ⟨k + 1, by omega, by go_num, by rw [HX.out], ⟨HOk.out, pw_below_drewN HBq.out nq⟩⟩
            case measure => simp [intOf]; omega
        · obtain rfl : k = l.length := by omega
          rw [List.take_length] at *
          have hcv := Kd.C_string (P := Try.prog) (A := Ab) (c := cb) Try.underlying22 Try.underlying5 Try.underlying9 (Kd.C_below HR.out HI.out.2)
          generalize decL T l = es at *
          go_wp2_with (fail)
          refine (awake_calls _).mono ?_
          rintro e w' ⟨rfl, hb⟩
          have HBz := Aside0.mk (below_step HBw.out hb)
          clear hb
          go_wp2
          go_ret
          exact ⟨rfl, HBz.out⟩
  · have HE := Aside0.mk hE
    have hW2 := hno hE
    subst hW2
    have hEd : (newE al prs != 0) = true := by simpa using hE
    have HPl2 : Aside0 (Calls Try.prog 12 #[.agg #[.slice A al.length c, .slice A2 prs.length c2]] w2 fun e w3 => e = .returned (.tuple #[.agg #[.slice none 0 0, .slice none 0 0, .int .i64 0], .int .i64 (newE al prs)]) ∧ Below w2.heap.size w2 w3) := ⟨HPl.out.mono fun e w3 h => ⟨h.2.1 HE.out, h.1⟩⟩
    clear hno hb2 hok hE HPl
    generalize newE al prs = z at *
    go_wp2_with (fail)
    refine HPl2.out.mono ?_
    rintro e w3 ⟨rfl, hb3⟩
    have HB3 := Aside0.mk (below_step HB2.out hb3)
    have HB4 : Aside0 (Below w.heap.size w (w3.alloc (.cells #[.slice none 0 0, .slice none 0 0, .int .i64 0] 35))) := ⟨bel_alloc HB3.out _⟩
    clear hb3 hx0 hx1
    go_wp2_with (fail)
    refine (awake_calls _).mono ?_
    rintro e w7 ⟨rfl, hb⟩
    have HB7 := Aside0.mk (below_step HB4.out hb)
    clear hb
    go_wp2
    go_ret
    exact ⟨rfl, HB7.out⟩
theorem decodes_n (n n2 n3 : Nat) (hC : Kd.C (Kd.int .u8) w A n al) (hC2 : Kd.C kP w A2 n2 prs) (hC3 : Kd.C (Kd.int .i64) w A3 n3 l) (hby : ∀ x ∈ al, 0 ≤ x ∧ x < 256) :
    Calls Try.prog 5 #[.agg #[.slice A n c, .slice A2 n2 c2], .slice A3 n3 c3] w fun e w' => e = .returned (.bool true) ∧ Below w.heap.size w w' := by
  obtain rfl := hC.1
  obtain rfl := hC2.1
  obtain rfl := hC3.1
  cases hf : fewB al.length prs.length with
  | false => exact decodes_few A c al A2 c2 prs A3 c3 l w hC.2.1 hC2.2.1 hC3.2.1 hf
  | true =>
    by_cases h1 : l.length ≤ 60
    · exact decodes_near A c al A2 c2 prs A3 c3 l w hC hC2 hC3 h1 hby hf
    · exact decodes_far A c al A2 c2 prs A3 c3 l w hC.2.1 hC2.2.1 hC3.2.1 (by omega) hf
end
end Go.Proofs.Ytbgiccbegcepcaa.Bpe

