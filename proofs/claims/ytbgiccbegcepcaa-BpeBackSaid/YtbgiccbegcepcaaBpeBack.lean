/- bpe's law: Decode of Encode is the bytes, no two neighbours are a pair, and without pairs each byte is a token. -/
import Derived.Test.YtbgiccbegcepcaaBpeFew
import Derived.Test.YtbgiccbegcepcaaBpeNb
import Derived.Test.YtbgiccbegcepcaaLawBytes
namespace Go.Proofs.Ytbgiccbegcepcaa.Bpe
open Go.RowKit Go.Proofs.YtbgiccbegcepcaaW.PrintWords Go.Proofs.YtbgiccbegcepcaaW.PrintLast Go.Proofs.YtbgiccbegcepcaaW.PrintMore Go.Proofs.Ytbgiccbegcepcaa.K Go.Proofs.Ytbgiccbegcepcaa.Law
set_option linter.unusedVariables false
set_option linter.unusedSimpArgs false
section
variable (A : Option Addr) (c : Nat) (al : List Int) (A2 : Option Addr) (c2 : Nat) (prs : List Pr) (A3 : Option Addr) (c3 : Nat) (bs : List Int) (w : World)
set_option maxHeartbeats 2000000 in
set_option maxRecDepth 100000 in
theorem back_out (hm : al.length ≤ 9223372036854775807) (hm2 : prs.length ≤ 9223372036854775807) (hm3 : bs.length ≤ 9223372036854775807) (h : fewB al.length prs.length = false ∨ 60 < bs.length) :
    Calls Try.prog 6 #[.agg #[.slice A al.length c, .slice A2 prs.length c2], .slice A3 bs.length c3] w fun e w' => e = .returned (.bool true) ∧ Below w.heap.size w w' := by
  have HB : Aside0 (Below w.heap.size w (w.alloc (.cells #[.slice A al.length c, .slice A2 prs.length c2] 25))) := ⟨bel_alloc (Below.refl _ _) _⟩
  cases hf : fewB al.length prs.length with
  | false =>
    have HF := Aside0.mk (few_calls A al.length c A2 prs.length c2 (w.alloc (.cells #[.slice A al.length c, .slice A2 prs.length c2] 25)) hm hm2 false hf)
    clear h hf
    go_enter Try.func6, Try.ntmps6
    go_wp2_with (fail)
    refine HF.out.mono ?_
    rintro e w1 ⟨rfl, hb⟩
    have HB1 := Aside0.mk (below_step HB.out hb)
    clear hb
    go_wp2_with (fail)
    refine (awake_calls _).mono ?_
    rintro e w2 ⟨rfl, hb⟩
    have HB2 := Aside0.mk (below_step HB1.out hb)
    clear hb
    go_wp2
    go_ret
    exact ⟨rfl, HB2.out⟩
  | true =>
    have HF := Aside0.mk (few_calls A al.length c A2 prs.length c2 (w.alloc (.cells #[.slice A al.length c, .slice A2 prs.length c2] 25)) hm hm2 true hf)
    have h2 := h.resolve_left (by rw [hf]; simp)
    have hd2 : decide (60 < (bs.length : Int)) = true := by simp; omega
    clear h hf h2
    go_enter Try.func6, Try.ntmps6
    go_wp2_with (fail)
    refine HF.out.mono ?_
    rintro e w1 ⟨rfl, hb⟩
    have HB1 := Aside0.mk (below_step HB.out hb)
    clear hb
    go_wp2_with (fail)
    refine (awake_calls _).mono ?_
    rintro e w2 ⟨rfl, hb⟩
    have HB2 := Aside0.mk (below_step HB1.out hb)
    clear hb
    go_wp2
    go_ret
    exact ⟨rfl, HB2.out⟩
set_option maxHeartbeats 8000000 in
set_option maxRecDepth 100000 in
theorem back_in (hC : Kd.C (Kd.int .u8) w A al.length al) (hC2 : Kd.C kP w A2 prs.length prs) (hC3 : Kd.C (Kd.int .u8) w A3 bs.length bs) (hby : ∀ x ∈ al, 0 ≤ x ∧ x < 256) (hby3 : ∀ x ∈ bs, 0 ≤ x ∧ x < 256) (hf : fewB al.length prs.length = true) (hb : bs.length ≤ 60) :
    Calls Try.prog 6 #[.agg #[.slice A al.length c, .slice A2 prs.length c2], .slice A3 bs.length c3] w fun e w' => e = .returned (.bool true) ∧ Below w.heap.size w w' := by
  have HB : Aside0 (Below w.heap.size w (w.alloc (.cells #[.slice A al.length c, .slice A2 prs.length c2] 25))) := ⟨bel_alloc (Below.refl _ _) _⟩
  obtain ⟨hal, hpr⟩ := fewB_true hf
  have hd2 : decide (60 < (bs.length : Int)) = false := by simp; omega
  have HF := Aside0.mk (few_calls A al.length c A2 prs.length c2 (w.alloc (.cells #[.slice A al.length c, .slice A2 prs.length c2] 25)) (by omega) (by omega) true hf)
  have HC := Aside0.mk hC
  have HC2 := Aside0.mk hC2
  have HC3 := Aside0.mk hC3
  have HBy := Aside0.mk hby
  have HBy3 := Aside0.mk hby3
  have HNl : Aside0 (¬ 4096 < bs.length) := ⟨by omega⟩
  have HBx : Aside0 ((w.alloc (.cells #[.slice A al.length c, .slice A2 prs.length c2] 25)).heap[w.heap.size]? = some (.cells #[.slice A al.length c, .slice A2 prs.length c2] 25 (0, 0))) := ⟨heap_alloc_new _ _⟩
  clear hC hC2 hC3 hby hby3 hf
  go_enter Try.func6, Try.ntmps6
  go_wp2_with (fail)
  refine HF.out.mono ?_
  rintro e w1 ⟨rfl, hb1⟩
  have HB1 := Aside0.mk (below_step HB.out hb1)
  have HBx1 : Aside0 (w1.heap[w.heap.size]? = _) := ⟨(hb1.block _ (blk_lt HBx.out)).trans HBx.out⟩
  have hx0 : w1.cell? ⟨w.heap.size, 0, none⟩ = some (.slice A al.length c) := blk_cell HBx1.out 0
  have hx1 : w1.cell? ⟨w.heap.size, 1, none⟩ = some (.slice A2 prs.length c2) := blk_cell HBx1.out 1
  clear hb1 HF
  go_wp2_with (fail)
  refine (new_calls A c al A2 c2 prs w1 (Kd.C_below HC.out HB1.out) (Kd.C_below HC2.out HB1.out) HBy.out (by omega) (by omega)).mono ?_
  rintro e w2 ⟨hno, hb2, hok⟩
  have HB2 := Aside0.mk (below_step HB1.out hb2)
  have HBx2 : Aside0 (w2.heap[w.heap.size]? = _) := ⟨(hb2.block _ (blk_lt HBx1.out)).trans HBx1.out⟩
  clear hx0 hx1
  by_cases hE : newE al prs = 0
  · obtain ⟨g, vt, vo, b, rfl, hH⟩ := hok hE
    have HE := Aside0.mk hE
    have HH := Aside0.mk hH
    clear hno hb2 hok hE hH
    have HEn := Aside0.mk (enc_calls A3 c3 bs (Kd.C_below HC3.out HB2.out) HBy3.out HH.out rfl (by have := (newE_ok HE.out).2.1; omega) (by omega))
    go_wp2_with (fail)
    refine HEn.out.mono ?_
    rintro e w3 ⟨hb3, _, hbad, hgood⟩
    have HB3 := Aside0.mk (below_step HB2.out hb3)
    have HBx3 : Aside0 (w3.heap[w.heap.size]? = _) := ⟨(hb3.block _ (blk_lt HBx2.out)).trans HBx2.out⟩
    have HH3 := Aside0.mk (HH.out.below hb3)
    clear HEn HH
    cases hB : badAt al bs with
    | some i =>
      obtain rfl := hbad HNl.out i hB
      clear hbad hgood hb3 hB
      go_wp2_with (fail)
      refine (awake_calls _).mono ?_
      rintro e w6 ⟨rfl, hb⟩
      have HB7 := Aside0.mk (below_step HB3.out hb)
      clear hb
      go_wp2
      go_ret
      exact ⟨rfl, HB7.out⟩
    | none =>
      have HBa := Aside0.mk hB
      obtain ⟨v1, rfl, hR1⟩ := hgood HNl.out hB
      obtain ⟨hOk, hDec, hLe, hNo⟩ := back al prs bs HE.out hB
      have HFr : Aside0 (∀ p ∈ prs, nb p (encL al.length prs (toksL al bs)) = false) := ⟨fun p hp => enc_free _ _ _ p hp⟩
      have HOk := Aside0.mk hOk
      have HDec := Aside0.mk hDec
      have HNo := Aside0.mk hNo
      have hl1 : (encL al.length prs (toksL al bs)).length ≤ 60 := by omega
      have hld : decide (((encL al.length prs (toksL al bs)).length : Int) ≤ (bs.length : Int)) = true := by simp; omega
      obtain ⟨Ar1, cr1, rfl⟩ := Kd.R_slice hR1
      have HR1 := Aside0.mk (Kd.R_reads' hR1).2.2
      clear hbad hgood hb3 hB hR1 hOk hDec hNo
      generalize encL al.length prs (toksL al bs) = l1 at *
      have HDc := Aside0.mk (decode_calls Ar1 cr1 l1 HR1.out HH3.out (newT_16 HE.out) (by omega) (by have := newT_length HE.out; omega))
      go_wp2_with (fail)
      refine HDc.out.mono ?_
      rintro e w4 ⟨_, hb4, hdok⟩
      obtain ⟨vd, rfl, hRd⟩ := hdok HOk.out
      rw [HDec.out] at hRd
      obtain ⟨Ad, cd, rfl⟩ := Kd.R_slice hRd
      have HRd := Aside0.mk (Kd.R_reads' hRd).2.2
      have HB4 := Aside0.mk (below_step HB3.out hb4)
      have HBx4 : Aside0 (w4.heap[w.heap.size]? = _) := ⟨(hb4.block _ (blk_lt HBx3.out)).trans HBx3.out⟩
      have HR4 := Aside0.mk (Kd.C_below HR1.out hb4)
      clear hdok hb4 hRd HDc HR1 HB3 HBx3 HB2 HBx2 HB1 HBx1
      go_wp2_with (fail)
      go_loopw [12] (fun i wr => ∃ k : Nat, k ≤ prs.length ∧ i = .int .i64 (k : Int) ∧ Aside0 (Below w4.heap.size w4 wr)) (fun i _ => prs.length - (intOf i).toNat)
      case atStart => exact ⟨0, Nat.zero_le _, rfl, ⟨Below.refl _ _⟩⟩
      case round =>
        obtain ⟨k, hk, rfl, HBr⟩ := hrel
        have HBxr : Aside0 (wr.heap[w.heap.size]? = _) := ⟨(HBr.out.block _ (blk_lt HBx4.out)).trans HBx4.out⟩
        have hx0 : wr.cell? ⟨w.heap.size, 0, none⟩ = some (.slice A al.length c) := blk_cell HBxr.out 0
        have hx1 : wr.cell? ⟨w.heap.size, 1, none⟩ = some (.slice A2 prs.length c2) := blk_cell HBxr.out 1
        by_cases hlt : k < prs.length
        · obtain ⟨adp, rfl, hp1, hp2⟩ := pair_at (Kd.C_below HC2.out (below_step HB4.out HBr.out)) k hlt
          have HP : Aside0 (nb (prs.getD k (0, 0)) l1 = false) := ⟨HFr.out _ (by rw [List.getD_eq_getElem?_getD, List.getElem?_eq_getElem hlt]; exact List.getElem_mem hlt)⟩
          have hltI : (k : Int) < (prs.length : Int) := by omega
          have hk0 : (0 : Int) ≤ (k : Int) := Int.natCast_nonneg _
          obtain ⟨p, hp⟩ : ∃ p, p = prs.getD k (0, 0) := ⟨_, rfl⟩
          rw [← hp] at hp1 hp2 HP
          clear hp
          obtain ⟨x, y⟩ := p
          have HNb := Aside0.mk (nb_calls Ar1 cr1 l1 x y wr.drew (Kd.C_below HR4.out (below_drew HBr.out)) (by omega) false HP.out)
          have HB5 : Aside0 (Below w4.heap.size w4 wr.drew) := ⟨below_drew HBr.out⟩
          go_wp2_with (fail)
          go_still_tail 14, (by kernel_rfl)
          change wpList _ _ _ _ _ wr.drew
          clear hx0 hx1 hp1 hp2
          generalize wr.drew = wd at *
          go_wp2_with (fail)
          refine HNb.out.mono ?_
          rintro e w5 ⟨rfl, hb5⟩
          have HB6 := Aside0.mk (below_step HB5.out hb5)
          clear hb5
          go_wp2
          go_roundw
          case rel => exact ⟨k + 1, by omega, by go_num, ⟨HB6.out⟩⟩
          case measure => simp [intOf]; omega
        · obtain rfl : k = prs.length := by omega
          have HB5 := Aside0.mk (below_step HB4.out HBr.out)
          have HNw : Aside0 (Calls Try.prog 11 #[.slice A al.length c, .slice none 0 0] wr fun e w' => ∃ g2 vt2 vo2 b2, e = .returned (.tuple #[.pointer (some ⟨g2, 0, none⟩), .int .i64 0]) ∧ CodAt w' wr.heap.size g2 vt2 vo2 b2 (newT al []) (ofL al) al.length [] [] ∧ Below wr.heap.size wr w') := ⟨by
            refine (new_calls A c al none 0 [] wr (Kd.C_below HC.out HB5.out) ⟨rfl, by decide, fun h => absurd h (by decide)⟩ HBy.out (by omega) (by decide)).mono fun e w' h => ?_
            obtain ⟨g2, vt2, vo2, b2, he, hH⟩ := h.2.2 (newE_none HE.out)
            exact ⟨g2, vt2, vo2, b2, he, hH, h.2.1⟩⟩
          go_wp2_with (fail)
          refine HNw.out.mono ?_
          rintro e w5 ⟨g2, vt2, vo2, b2, rfl, hH2, hb5⟩
          have HB6 := Aside0.mk (below_step HB5.out hb5)
          have HR5 := Aside0.mk (Kd.C_below (Kd.C_below HR4.out HBr.out) hb5)
          have HRd5 := Aside0.mk (Kd.C_below (Kd.C_below HRd.out HBr.out) hb5)
          have HEn2 := Aside0.mk (enc_calls (ps := []) A3 c3 bs (Kd.C_below HC3.out HB6.out) HBy3.out hH2 rfl (by simp; omega) (by omega))
          clear hH2 hb5 HNw hx0 hx1
          go_wp2_with (fail)
          refine HEn2.out.mono ?_
          rintro e w6 ⟨hb6, _, _, hgood⟩
          obtain ⟨v2, rfl, hR2⟩ := hgood HNl.out HBa.out
          rw [HNo.out] at hR2
          have HL2 : Aside0 ((toksL al bs).length = bs.length) := ⟨by simp [toksL]⟩
          obtain ⟨Ar2, cr2, rfl⟩ := Kd.R_slice hR2
          rw [HL2.out]
          have HB7 := Aside0.mk (below_step HB6.out hb6)
          have HRd6 := Aside0.mk (Kd.C_below HRd5.out hb6)
          clear hgood hb6 hR2 HEn2
          have HX := Aside0.mk (bytes_calls Ad cd bs A3 c3 bs w6 HRd6.out (Kd.C_below HC3.out HB7.out) true (by simp))
          go_wp2_with (fail)
          refine HX.out.mono ?_
          rintro e w7 ⟨rfl, ⟨nd, rfl⟩⟩
          have HB8 : Aside0 (Below w.heap.size w (w6.drewN nd)) := ⟨pw_below_drewN HB7.out nd⟩
          go_wp2_with (fail)
          refine (awake_calls _).mono ?_
          rintro e w8 ⟨rfl, hb⟩
          have HB9 := Aside0.mk (below_step HB8.out hb)
          clear hb
          go_wp2
          go_ret
          exact ⟨rfl, HB9.out⟩
  · have HE := Aside0.mk hE
    have hW2 := hno hE
    subst hW2
    have hEd : (newE al prs != 0) = true := by simpa using hE
    clear hno hb2 hok hE
    generalize newE al prs = z at *
    go_wp2_with (fail)
    refine (awake_calls _).mono ?_
    rintro e w6 ⟨rfl, hb⟩
    have HB7 := Aside0.mk (below_step HB2.out hb)
    clear hb
    go_wp2
    go_ret
    exact ⟨rfl, HB7.out⟩
theorem back_n (n n2 n3 : Nat) (hC : Kd.C (Kd.int .u8) w A n al) (hC2 : Kd.C kP w A2 n2 prs) (hC3 : Kd.C (Kd.int .u8) w A3 n3 bs) (hby : ∀ x ∈ al, 0 ≤ x ∧ x < 256) (hby3 : ∀ x ∈ bs, 0 ≤ x ∧ x < 256) :
    Calls Try.prog 6 #[.agg #[.slice A n c, .slice A2 n2 c2], .slice A3 n3 c3] w fun e w' => e = .returned (.bool true) ∧ Below w.heap.size w w' := by
  obtain rfl := hC.1
  obtain rfl := hC2.1
  obtain rfl := hC3.1
  by_cases h : fewB al.length prs.length = false ∨ 60 < bs.length
  · exact back_out A c al A2 c2 prs A3 c3 bs w hC.2.1 hC2.2.1 hC3.2.1 h
  · have hf : fewB al.length prs.length = true := by
      cases hh : fewB al.length prs.length with
      | true => rfl
      | false => exact absurd (.inl hh) h
    exact back_in A c al A2 c2 prs A3 c3 bs w hC hC2 hC3 hby hby3 hf (by omega)
end
end Go.Proofs.Ytbgiccbegcepcaa.Bpe
