/- bpe's law: one more pair merges its neighbours. -/
import Derived.Test.YtbgiccbegcepcaaBpeFew
namespace Go.Proofs.Ytbgiccbegcepcaa.Bpe
open Go.RowKit Go.Proofs.YtbgiccbegcepcaaW.PrintWords Go.Proofs.YtbgiccbegcepcaaW.PrintLast Go.Proofs.YtbgiccbegcepcaaW.PrintMore Go.Proofs.Ytbgiccbegcepcaa.K Go.Proofs.Ytbgiccbegcepcaa.Law
set_option linter.unusedVariables false
set_option linter.unusedSimpArgs false
section
variable (A : Option Addr) (c : Nat) (al : List Int) (A2 : Option Addr) (c2 : Nat) (prs : List Pr) (A3 : Option Addr) (c3 : Nat) (bs : List Int) (w : World)
set_option maxHeartbeats 2000000 in
set_option maxRecDepth 100000 in
theorem last_out (hm : al.length ≤ 9223372036854775807) (hm2 : prs.length ≤ 9223372036854775807) (hm3 : bs.length ≤ 9223372036854775807) (h : fewB al.length prs.length = false ∨ prs.length = 0 ∨ 60 < bs.length) :
    Calls Try.prog 4 #[.agg #[.slice A al.length c, .slice A2 prs.length c2], .slice A3 bs.length c3] w fun e w' => e = .returned (.bool true) ∧ Below w.heap.size w w' := by
  have HB : Aside0 (Below w.heap.size w (w.alloc (.cells #[.slice A al.length c, .slice A2 prs.length c2] 25))) := ⟨bel_alloc (Below.refl _ _) _⟩
  have hw1 : IntKind.i64.wrap ((prs.length : Int) - 1) = (prs.length : Int) - 1 := IntWalk.i64_in _ (by omega)
  cases hf : fewB al.length prs.length with
  | false =>
    have HF := Aside0.mk (few_calls A al.length c A2 prs.length c2 (w.alloc (.cells #[.slice A al.length c, .slice A2 prs.length c2] 25)) hm hm2 false hf)
    clear h hf
    go_enter Try.func4, Try.ntmps4
    go_wp2_with (fail)
    refine HF.out.mono ?_
    rintro e w1 ⟨rfl, hb⟩
    have HB1 := Aside0.mk (below_step HB.out hb)
    clear hb
    go_wp2_with (fail)
    refine (awake_calls _).mono ?_
    rintro e w2 ⟨rfl, hb⟩
    have HB2 := Aside0.mk (below_step HB1.out hb)
    clear hb
    go_wp2
    go_ret
    exact ⟨rfl, HB2.out⟩
  | true =>
    have HF := Aside0.mk (few_calls A al.length c A2 prs.length c2 (w.alloc (.cells #[.slice A al.length c, .slice A2 prs.length c2] 25)) hm hm2 true hf)
    have h1 := h.resolve_left (by rw [hf]; simp)
    by_cases h0 : prs.length = 0
    · have hd : decide ((prs.length : Int) - 1 < 0) = true := by simp; omega
      clear h hf h1 h0
      go_enter Try.func4, Try.ntmps4
      go_wp2_with (fail)
      refine HF.out.mono ?_
      rintro e w1 ⟨rfl, hb⟩
      have HB1 := Aside0.mk (below_step HB.out hb)
      clear hb
      go_wp2_with (fail)
      refine (awake_calls _).mono ?_
      rintro e w2 ⟨rfl, hb⟩
      have HB2 := Aside0.mk (below_step HB1.out hb)
      clear hb
      go_wp2
      go_ret
      exact ⟨rfl, HB2.out⟩
    · have h2 := h1.resolve_left h0
      have hd : decide ((prs.length : Int) - 1 < 0) = false := by simp; omega
      have hd2 : decide (60 < (bs.length : Int)) = true := by simp; omega
      clear h hf h1 h0 h2
      go_enter Try.func4, Try.ntmps4
      go_wp2_with (fail)
      refine HF.out.mono ?_
      rintro e w1 ⟨rfl, hb⟩
      have HB1 := Aside0.mk (below_step HB.out hb)
      clear hb
      go_wp2_with (fail)
      refine (awake_calls _).mono ?_
      rintro e w2 ⟨rfl, hb⟩
      have HB2 := Aside0.mk (below_step HB1.out hb)
      clear hb
      go_wp2
      go_ret
      exact ⟨rfl, HB2.out⟩
set_option maxHeartbeats 8000000 in
set_option maxRecDepth 100000 in
theorem last_in (m : Nat) (hC : Kd.C (Kd.int .u8) w A al.length al) (hC2 : Kd.C kP w A2 prs.length prs) (hC3 : Kd.C (Kd.int .u8) w A3 bs.length bs) (hby : ∀ x ∈ al, 0 ≤ x ∧ x < 256) (hby3 : ∀ x ∈ bs, 0 ≤ x ∧ x < 256) (hc2 : prs.length ≤ c2) (hf : fewB al.length prs.length = true) (hm : prs.length = m + 1) (hb : bs.length ≤ 60) :
    Calls Try.prog 4 #[.agg #[.slice A al.length c, .slice A2 prs.length c2], .slice A3 bs.length c3] w fun e w' => e = .returned (.bool true) ∧ Below w.heap.size w w' := by
  have HB : Aside0 (Below w.heap.size w (w.alloc (.cells #[.slice A al.length c, .slice A2 prs.length c2] 25))) := ⟨bel_alloc (Below.refl _ _) _⟩
  obtain ⟨hal, hpr⟩ := fewB_true hf
  have hw1 : IntKind.i64.wrap ((prs.length : Int) - 1) = (m : Int) := by rw [IntWalk.i64_in _ (by omega)]; omega
  have hmI : (0 : Int) ≤ (m : Int) := Int.natCast_nonneg _
  have hd : decide ((m : Int) < 0) = false := by simp
  have hd2 : decide (60 < (bs.length : Int)) = false := by simp; omega
  have hml : m < prs.length := by omega
  have hmlI : (m : Int) < (prs.length : Int) := by omega
  have HM := Aside0.mk hm
  have hcut : ∀ W : World, (Instr.slice 23 (.slice A2 prs.length c2) none (some (.int .i64 (m : Int))) none).run Try.prog W = .ok (.slice A2 m c2) W := fun W => run_upto 23 44 Try.underlying23 info_pr A2 prs.length c2 m (by omega) hc2 W
  have HF := Aside0.mk (few_calls A al.length c A2 prs.length c2 (w.alloc (.cells #[.slice A al.length c, .slice A2 prs.length c2] 25)) (by omega) (by omega) true hf)
  have HC := Aside0.mk hC
  have HC2 := Aside0.mk hC2
  have HC3 := Aside0.mk hC3
  have HBy := Aside0.mk hby
  have HBy3 := Aside0.mk hby3
  have hbx : (w.alloc (.cells #[.slice A al.length c, .slice A2 prs.length c2] 25)).heap[w.heap.size]? = some (.cells #[.slice A al.length c, .slice A2 prs.length c2] 25 (0, 0)) := heap_alloc_new _ _
  have HBx := Aside0.mk hbx
  have HQ : Aside0 (prs = prs.take m ++ [prs.getD m (0, 0)]) := ⟨by
    have := List.take_of_length_le (Nat.le_of_eq hm)
    conv => lhs; rw [← this]
    rw [List.take_succ_eq_append_getElem hml, List.getD_eq_getElem?_getD, List.getElem?_eq_getElem hml]; rfl⟩
  clear hC hC2 hC3 hby hby3 hf hm hbx hc2
  go_enter Try.func4, Try.ntmps4
  go_wp2_with (fail)
  refine HF.out.mono ?_
  rintro e w1 ⟨rfl, hb1⟩
  have HB1 := Aside0.mk (below_step HB.out hb1)
  have HBx1 : Aside0 (w1.heap[w.heap.size]? = _) := ⟨(hb1.block _ (blk_lt HBx.out)).trans HBx.out⟩
  have hx0 : w1.cell? ⟨w.heap.size, 0, none⟩ = some (.slice A al.length c) := blk_cell HBx1.out 0
  have hx1 : w1.cell? ⟨w.heap.size, 1, none⟩ = some (.slice A2 prs.length c2) := blk_cell HBx1.out 1
  clear hb1 HF
  go_wp2_with (fail)
  refine (new_calls A c al A2 c2 prs w1 (Kd.C_below HC.out HB1.out) (Kd.C_below HC2.out HB1.out) HBy.out (by omega) (by omega)).mono ?_
  rintro e w2 ⟨hno, hb2, hok⟩
  have HB2 := Aside0.mk (below_step HB1.out hb2)
  have HBx2 : Aside0 (w2.heap[w.heap.size]? = _) := ⟨(hb2.block _ (blk_lt HBx1.out)).trans HBx1.out⟩
  have h20 : w2.drew.cell? ⟨w.heap.size, 0, none⟩ = some (.slice A al.length c) := blk_cell HBx2.out 0
  have h21 : w2.drew.cell? ⟨w.heap.size, 1, none⟩ = some (.slice A2 prs.length c2) := blk_cell HBx2.out 1
  have HBd : Aside0 (Below w.heap.size w w2.drew) := ⟨below_drew HB2.out⟩
  have HTp : Aside0 (Kd.C kP w2.drew A2 (prs.take m).length (prs.take m)) := ⟨Kd.C_below (take_pairs m (by omega) HC2.out) HBd.out⟩
  have HTl : Aside0 ((prs.take m).length = m) := ⟨by rw [List.length_take]; omega⟩
  have HNw : Aside0 (Calls Try.prog 11 #[.slice A al.length c, .slice A2 m c2] w2.drew (NewEnd w2.drew al (prs.take m))) := ⟨by
    have h := new_calls A c al A2 c2 (prs.take m) w2.drew (Kd.C_below HC.out HBd.out) HTp.out HBy.out (by omega) (by rw [HTl.out]; omega)
    rw [HTl.out] at h
    exact h⟩
  clear hx0 hx1
  by_cases hE : newE al prs = 0
  · obtain ⟨g, vt, vo, b, rfl, hH⟩ := hok hE
    have HE := Aside0.mk hE
    have HH := Aside0.mk hH
    have HE2 : Aside0 (newE al (prs.take m) = 0) := ⟨newE_pre (l2 := [prs.getD m (0, 0)]) (by rw [← HQ.out]; exact HE.out)⟩
    have HNw : Aside0 (Calls Try.prog 11 #[.slice A al.length c, .slice A2 m c2] w2.drew fun e w3 => ∃ g2 vt2 vo2 b2, e = .returned (.tuple #[.pointer (some ⟨g2, 0, none⟩), .int .i64 0]) ∧ CodAt w3 w2.drew.heap.size g2 vt2 vo2 b2 (newT al (prs.take m)) (ofL al) al.length (prs.take m) (prs.take m) ∧ Below w2.drew.heap.size w2.drew w3) :=
      ⟨HNw.out.mono fun e w3 h => by
        obtain ⟨g2, vt2, vo2, b2, he, hH⟩ := h.2.2 HE2.out
        exact ⟨g2, vt2, vo2, b2, he, hH, h.2.1⟩⟩
    clear hno hb2 hok hE hH
    go_upto_region 5 with (fail)
    refine start_ (n := 12) (S := fun w' => w'.cell? ⟨w.heap.size, 0, none⟩ = some (.slice A al.length c) ∧ w'.cell? ⟨w.heap.size, 1, none⟩ = some (.slice A2 prs.length c2)) (ds := []) #[false, false, false, false, false, false, false, false, false, false, false, false] (by kernel_rfl) rfl rfl ⟨h20, h21⟩ (fun hHeld => ?_)
    refine pure_ (i := 0) (N := some 45) (v := ?_) (a' := ?_) #[true, false, false, false, false, false, false, false, false, false, false, false] rfl rfl (by kernel_rfl) (fun _ _ _ h => h) (Or.inl ⟨by rfl, ?_⟩) ?_ ?_
    rotate_left
    · intro w'
      go_simp
      with_reducible rfl
    rotate_left
    · simp only [Act.put, List.setIfInBounds_toArray, List.set_cons_zero, List.set_cons_succ]
      rfl
    refine pure_ (i := 2) (N := some 47) (v := ?_) (a' := ?_) #[true, false, true, false, false, false, false, false, false, false, false, false] rfl rfl (by kernel_rfl) (fun _ _ _ h => h) (Or.inl ⟨by rfl, ?_⟩) ?_ ?_
    rotate_left
    · intro w'
      go_simp
      with_reducible rfl
    rotate_left
    · simp only [Act.put, List.setIfInBounds_toArray, List.set_cons_zero, List.set_cons_succ]
      rfl
    refine pure_ (i := 4) (N := some 49) (v := ?_) (a' := ?_) #[true, false, true, false, true, false, false, false, false, false, false, false] rfl rfl (by kernel_rfl) (fun _ _ _ h => h) (Or.inl ⟨by rfl, ?_⟩) ?_ ?_
    rotate_left
    · intro w'
      go_simp
      with_reducible rfl
    rotate_left
    · simp only [Act.put, List.setIfInBounds_toArray, List.set_cons_zero, List.set_cons_succ]
      rfl
    refine take_ (i := 1) (N := some 46) (v := ?_) (a' := ?_) #[true, true, true, false, true, false, false, false, false, false, false, false] rfl rfl (by kernel_rfl) (fun _ _ _ h => h) (Or.inl ⟨by rfl, ?_⟩) hHeld ?_ ?_
    rotate_left
    · rintro w' ⟨s0, s1⟩
      go_simp
      with_reducible rfl
    rotate_left
    · simp only [Act.put, List.setIfInBounds_toArray, List.set_cons_zero, List.set_cons_succ]
      rfl
    refine take_ (i := 3) (N := some 48) (v := ?_) (a' := ?_) #[true, true, true, true, true, false, false, false, false, false, false, false] rfl rfl (by kernel_rfl) (fun _ _ _ h => h) (Or.inl ⟨by rfl, ?_⟩) hHeld ?_ ?_
    rotate_left
    · rintro w' ⟨s0, s1⟩
      go_simp
      with_reducible rfl
    rotate_left
    · simp only [Act.put, List.setIfInBounds_toArray, List.set_cons_zero, List.set_cons_succ]
      rfl
    refine pure_ (i := 5) (N := some 50) (v := ?_) (a' := ?_) #[true, true, true, true, true, true, false, false, false, false, false, false] rfl rfl (by kernel_rfl) (fun _ _ _ h => h) (Or.inl ⟨by rfl, ?_⟩) ?_ ?_
    rotate_left
    · intro w'
      go_simp
      with_reducible rfl
    rotate_left
    · simp only [Act.put, List.setIfInBounds_toArray, List.set_cons_zero, List.set_cons_succ]
      rfl
    refine one_ (i := 6) (N := some 51) #[true, true, true, true, true, true, true, false, false, false, false, false] rfl rfl (by kernel_rfl) (by decide) (fun K hK => ?_)
    refine goes_ Try.func11 (by kernel_rfl) rfl #[.slice A al.length c, .slice A2 m c2] (by rfl) rfl rfl (by simp only [List.map_toArray, List.map_cons, List.map_nil]; rfl) ?_
    with_reducible refine (HNw.out).mono ?_
    rintro e w3 ⟨g2, vt2, vo2, b2, rfl, hH2, hb3⟩
    refine ⟨_, rfl, ?_⟩
    have HH2 := Aside0.mk hH2
    have HB3 := Aside0.mk hb3
    clear hH2
    refine hK.out _ _ ⟨cell_keep hb3 h20, cell_keep hb3 h21⟩ (fun hHeld => ?_)
    clear hK K
    refine norm_ (a' := ?_) ?_ ?_
    rotate_left
    · show Act.put _ (some 51) _ = _
      simp only [Act.put, List.setIfInBounds_toArray, List.set_cons_zero, List.set_cons_succ]
      rfl
    refine pure_ (i := 7) (N := some 44) (v := ?_) (a' := ?_) #[true, true, true, true, true, true, true, true, false, false, false, false] rfl rfl (by kernel_rfl) (fun _ _ _ h => h) (Or.inl ⟨by rfl, ?_⟩) ?_ ?_
    rotate_left
    · intro w'
      go_simp
      with_reducible rfl
    rotate_left
    · simp only [Act.put, List.setIfInBounds_toArray, List.set_cons_zero, List.set_cons_succ]
      rfl
    refine pure_ (i := 8) (N := some 52) (v := ?_) (a' := ?_) #[true, true, true, true, true, true, true, true, true, false, false, false] rfl rfl (by kernel_rfl) (fun _ _ _ h => h) (Or.inl ⟨by rfl, ?_⟩) ?_ ?_
    rotate_left
    · intro w'
      go_simp
      with_reducible rfl
    rotate_left
    · simp only [Act.put, List.setIfInBounds_toArray, List.set_cons_zero, List.set_cons_succ]
      rfl
    refine pure_ (i := 9) (N := some 53) (v := ?_) (a' := ?_) #[true, true, true, true, true, true, true, true, true, true, false, false] rfl rfl (by kernel_rfl) (fun _ _ _ h => h) (Or.inl ⟨by rfl, ?_⟩) ?_ ?_
    rotate_left
    · intro w'
      go_simp
      with_reducible rfl
    rotate_left
    · simp only [Act.put, List.setIfInBounds_toArray, List.set_cons_zero, List.set_cons_succ]
      rfl
    refine pure_ (i := 10) (N := some 8) (v := ?_) (a' := ?_) #[true, true, true, true, true, true, true, true, true, true, true, false] rfl rfl (by kernel_rfl) (fun _ _ _ h => h) (Or.inl ⟨by rfl, ?_⟩) ?_ ?_
    rotate_left
    · intro w'
      go_simp
      with_reducible rfl
    rotate_left
    · simp only [Act.put, List.setIfInBounds_toArray, List.set_cons_zero, List.set_cons_succ]
      rfl
    refine pure_ (i := 11) (N := some 9) (v := ?_) (a' := ?_) #[true, true, true, true, true, true, true, true, true, true, true, true] rfl rfl (by kernel_rfl) (fun _ _ _ h => h) (Or.inl ⟨by rfl, ?_⟩) ?_ ?_
    rotate_left
    · intro w'
      go_simp
      with_reducible rfl
    rotate_left
    · simp only [Act.put, List.setIfInBounds_toArray, List.set_cons_zero, List.set_cons_succ]
      rfl
    refine done_ (by kernel_rfl) ?_
    clear hHeld h20 h21 hcut
    have HB4 : Aside0 (Below w.heap.size w w3) := ⟨below_step HBd.out HB3.out⟩
    have HBx3 : Aside0 (w3.heap[w.heap.size]? = _) := ⟨(HB3.out.block _ (blk_lt HBx2.out)).trans HBx2.out⟩
    have HHc : Aside0 (CodAt w3 w1.heap.size g vt vo b (newT al prs) (ofL al) al.length prs prs) := ⟨HH.out.below (below_step (w := w2) (W := w2.drew) (below_drew (Below.refl _ _)) HB3.out)⟩
    clear HH HNw HBd HB2 HB1 HBx1 HBx2 HTp
    have HEn := Aside0.mk (enc_calls A3 c3 bs (Kd.C_below HC3.out HB4.out) HBy3.out HHc.out rfl (by have := (newE_ok HE.out).2.1; omega) (by omega))
    go_wp2_with (fail)
    refine HEn.out.mono ?_
    rintro e w4 ⟨hb4, _, hbad, hgood⟩
    have HB5 := Aside0.mk (below_step HB4.out hb4)
    have HBx4 : Aside0 (w4.heap[w.heap.size]? = _) := ⟨(hb4.block _ (blk_lt HBx3.out)).trans HBx3.out⟩
    have HHc4 := Aside0.mk (HHc.out.below hb4)
    have HEn2 := Aside0.mk (enc_calls A3 c3 bs (Kd.C_below HC3.out HB5.out) HBy3.out (HH2.out.below (Below.trans (Below.refl _ _) hb4)) rfl (by have := (newE_ok HE2.out).2.1; omega) (by omega))
    have HNl : Aside0 (¬ 4096 < bs.length) := ⟨by omega⟩
    clear HEn
    cases hB : badAt al bs with
    | some i =>
      have HBa := Aside0.mk hB
      obtain rfl := hbad HNl.out i hB
      clear hbad hgood hb4 hB
      go_wp2_with (fail)
      refine HEn2.out.mono ?_
      rintro e w5 ⟨hb5, _, hbad, _⟩
      obtain rfl := hbad HNl.out i HBa.out
      have HB6 := Aside0.mk (below_step HB5.out hb5)
      clear hbad hb5
      go_wp2_with (fail)
      refine (awake_calls _).mono ?_
      rintro e w6 ⟨rfl, hb⟩
      have HB7 := Aside0.mk (below_step HB6.out hb)
      clear hb
      go_wp2
      go_ret
      exact ⟨rfl, HB7.out⟩
    | none =>
      have HBa := Aside0.mk hB
      obtain ⟨v1, rfl, hR1⟩ := hgood HNl.out hB
      have HR1 := Aside0.mk hR1
      clear hbad hgood hb4 hB hR1
      go_wp2_with (fail)
      refine HEn2.out.mono ?_
      rintro e w5 ⟨hb5, _, _, hgood⟩
      obtain ⟨v2, rfl, hR2⟩ := hgood HNl.out HBa.out
      have HB6 := Aside0.mk (below_step HB5.out hb5)
      have HR2 := Aside0.mk hR2
      have HR1b := Aside0.mk (Kd.R_below HR1.out hb5)
      have HHc5 := Aside0.mk (HHc4.out.below hb5)
      have HBx5 : Aside0 (w5.heap[w.heap.size]? = _) := ⟨(hb5.block _ (blk_lt HBx4.out)).trans HBx4.out⟩
      have hx1 : w5.cell? ⟨w.heap.size, 1, none⟩ = some (.slice A2 prs.length c2) := blk_cell HBx5.out 1
      clear hgood hb5 hR2 HEn2 HHc4 HHc HR1 HBx3 HBx4
      have HLs : Aside0 (encL al.length prs (toksL al bs) = mergeL (prs.getD m (0, 0)) ((newT al prs).length - 1) (encL al.length (prs.take m) (toksL al bs))) := ⟨by
        have h := last al (prs.take m) (prs.getD m (0, 0)) (toksL al bs) (by rw [← HQ.out]; exact HE.out)
        rw [← HQ.out] at h
        exact h⟩
      have HTn := Aside0.mk (newT_length HE.out)
      have HLl : Aside0 ((encL al.length (prs.take m) (toksL al bs)).length ≤ 60) := ⟨by
        have := enc_len al.length (prs.take m) (toksL al bs)
        rw [show (toksL al bs).length = bs.length by simp [toksL]] at this
        omega⟩
      generalize encL al.length prs (toksL al bs) = l1 at *
      generalize encL al.length (prs.take m) (toksL al bs) = l2 at *
      obtain ⟨Ar1, cr1, rfl⟩ := Kd.R_slice HR1b.out
      obtain ⟨Ar2, cr2, rfl⟩ := Kd.R_slice HR2.out
      obtain ⟨adp, rfl, hp1, hp2⟩ := pair_at (Kd.C_below HC2.out HB6.out) m hml
      obtain ⟨p, hp⟩ : ∃ p, p = prs.getD m (0, 0) := ⟨_, rfl⟩
      rw [← hp] at hp1 hp2 HLs
      clear hp HQ
      obtain ⟨x, y⟩ := p
      have HB7 : Aside0 (Below w5.heap.size w5 (w5.alloc (.cells #[.int .i64 x, .int .i64 y] 44))) := ⟨bel_alloc (Below.refl _ _) _⟩
      have hpb : (w5.alloc (.cells #[.int .i64 x, .int .i64 y] 44)).heap[w5.heap.size]? = some (.cells #[.int .i64 x, .int .i64 y] 44 (0, 0)) := heap_alloc_new _ _
      have HPb := Aside0.mk hpb
      clear hpb
      go_wp2_with (fail)
      clear hp1 hp2 hx1
      generalize w5.alloc (.cells #[.int .i64 x, .int .i64 y] 44) = w6 at *
      obtain ⟨gp, hgp⟩ : ∃ gp, gp = w5.heap.size := ⟨_, rfl⟩
      rw [← hgp] at HPb ⊢
      have HGp := Aside0.mk hgp
      clear hgp
      have HC1 := Aside0.mk (Kd.C_below (Kd.R_reads' HR1b.out).2.2 HB7.out)
      have HCl2 := Aside0.mk (Kd.C_below (Kd.R_reads' HR2.out).2.2 HB7.out)
      have HHc6 := Aside0.mk (HHc5.out.below HB7.out)
      have HB8 := Aside0.mk (below_step HB6.out HB7.out)
      clear HR1b HR2 HHc5 HB7 HB6 HB5
      have hl2 : l2.length ≤ 60 := HLl.out
      go_loopw [17, 18] (fun o i wr => ∃ k : Nat, k ≤ l2.length ∧ i = .int .i64 (k : Int) ∧ Aside0 (∃ es, mergeL (x, y) ((newT al prs).length - 1) l2 = es ++ mergeL (x, y) ((newT al prs).length - 1) (l2.drop k) ∧ wr.ownsRow w6.heap.size 3 1 o es.length (nums .i64 es) ∧ es.length ≤ k ∧ Below w6.heap.size w6 wr)) (fun _ i _ => l2.length - (intOf i).toNat)
      case atStart => exact ⟨0, Nat.zero_le _, rfl, ⟨⟨[], rfl, own_nil _ _ _ _, Nat.zero_le _, Below.refl _ _⟩⟩⟩
      case round =>
        obtain ⟨k, hk, rfl, HO0⟩ := hrel
        obtain ⟨es, heq, ho, hel, hbw⟩ := HO0.out
        clear HO0
        have HEq := Aside0.mk heq
        have HO := Aside0.mk ho
        have HEl := Aside0.mk hel
        have HBw := Aside0.mk hbw
        obtain ⟨Ae, ce, rfl⟩ := own_slice ho
        have hcp0 : wr.cell? ⟨gp, 0, none⟩ = some (.int .i64 x) := blk_cell ((hbw.block _ (blk_lt HPb.out)).trans HPb.out) 0
        have hcp1 : wr.cell? ⟨gp, 1, none⟩ = some (.int .i64 y) := blk_cell ((hbw.block _ (blk_lt HPb.out)).trans HPb.out) 1
        clear heq ho hel hbw
        obtain ⟨mm, hmm⟩ : ∃ mm : Nat, mm = k + 1 := ⟨_, rfl⟩
        have hmmI : (k : Int) + 1 = (mm : Int) := by omega
        have HMk := Aside0.mk hmm
        by_cases hlt : k < l2.length
        · have HHit := Aside0.mk (merge_hit (x, y) ((newT al prs).length - 1) l2 k)
          have HMs := Aside0.mk (merge_miss (x, y) ((newT al prs).length - 1) l2 k hlt)
          obtain ⟨ad, rfl, hc0⟩ := int_at' HCl2.out HBw.out k hlt
          by_cases hlt2 : mm < l2.length
          · obtain ⟨ad', e, hc1⟩ := int_at' HCl2.out HBw.out mm hlt2
            cases e
            rw [← hmm] at HHit HMs
            clear hmm
            have hw2 : IntKind.i64.wrap ((k : Int) + 1) = (mm : Int) := by rw [IntWalk.i64_in _ (by omega)]; omega
            have hltd : decide ((mm : Int) < (l2.length : Int)) = true := by simp; omega
            generalize l2.getD k 0 = u at *
            generalize l2.getD mm 0 = v at *
            by_cases hu : u = x
            · have hud : (u == x) = true := by simpa using hu
              by_cases hv : v = y
              · have hvd : (v == y) = true := by simpa using hv
                have HE1 : Aside0 (mergeL (x, y) ((newT al prs).length - 1) (l2.drop k) = (((newT al prs).length : Int) - 1) :: mergeL (x, y) ((newT al prs).length - 1) (l2.drop (k + 2))) := ⟨HHit.out hlt2 hu hv⟩
                obtain ⟨m2, hm2⟩ : ∃ m2 : Nat, m2 = k + 2 := ⟨_, rfl⟩
                have hm2I : (k : Int) + 2 = (m2 : Int) := by omega
                have HM2 := Aside0.mk hm2
                clear hu hv hm2
                go_wp2
                go_quiet (fail)
                have HO : Aside0 ((wr.drewN nq).ownsRow w6.heap.size 3 1 (.slice Ae es.length ce) es.length (nums .i64 es)) := ⟨pw_own_drewN HO.out nq⟩
                have HBw : Aside0 (Below w6.heap.size w6 (wr.drewN nq)) := ⟨pw_below_drewN HBw.out nq⟩
                generalize wr.drewN nq = wq at *
                have HMy := Aside0.mk (many_calls (HHc6.out.below HBw.out))
                have hTb : (newT al prs).length ≤ 1000 := by have := HTn.out; omega
                go_wp2_with (fail)
                refine HMy.out.mono ?_
                rintro e w' ⟨rfl, rfl⟩
                go_wp2_with (at_builtin; refine print_append_num (w0 := w6) w6.heap.size rfl (.tmp 140) (.tmp 144) 38 3 .i64 8 rfl Try.underlying38 info_int (by decide) _ es _ rfl rfl HO.out HBw.out HBw.out.size ?_ ?_; rotate_left; intro v1 w2 hown hbw hgr hat; have HA := Aside0.mk (And.intro hown hbw); clear hown hbw hgr hat)
                · go_roundw
                  case rel => exact ⟨m2, by have := HM2.out; have := HMk.out; omega, rfl, ⟨⟨es ++ [((newT al prs).length : Int) - 1], by rw [HEq.out, HE1.out, HM2.out, List.append_assoc]; rfl, HA.out.1, by have := HEl.out; have := HM2.out; rw [List.length_append]; simp; omega, HA.out.2⟩⟩⟩
                  case measure => have := HM2.out; simp [intOf]; omega
                · have := HEl.out
                  omega
              · have hvd : (v == y) = false := by simpa using hv
                have HE1 : Aside0 (mergeL (x, y) ((newT al prs).length - 1) (l2.drop k) = u :: mergeL (x, y) ((newT al prs).length - 1) (l2.drop mm)) := ⟨HMs.out (fun h => hv h.2.2)⟩
                clear hu hv
                go_wp2
                go_quiet (fail)
                have HO : Aside0 ((wr.drewN nq).ownsRow w6.heap.size 3 1 (.slice Ae es.length ce) es.length (nums .i64 es)) := ⟨pw_own_drewN HO.out nq⟩
                have HBw : Aside0 (Below w6.heap.size w6 (wr.drewN nq)) := ⟨pw_below_drewN HBw.out nq⟩
                have hcq : (wr.drewN nq).cell? (ad.add k) = some (.int .i64 u) := hc0
                generalize wr.drewN nq = wq at *
                go_wp2_with (at_builtin; refine print_append_num (w0 := w6) w6.heap.size rfl (.tmp 148) (.tmp 153) 38 3 .i64 8 rfl Try.underlying38 info_int (by decide) _ es _ rfl rfl HO.out HBw.out HBw.out.size ?_ ?_; rotate_left; intro v1 w2 hown hbw hgr hat; have HA := Aside0.mk (And.intro hown hbw); clear hown hbw hgr hat)
                · go_roundw
                  case rel => exact ⟨mm, by have := HMk.out; omega, rfl, ⟨⟨es ++ [u], by rw [HEq.out, HE1.out, List.append_assoc]; rfl, HA.out.1, by have := HEl.out; have := HMk.out; rw [List.length_append]; simp; omega, HA.out.2⟩⟩⟩
                  case measure => have := HMk.out; simp [intOf]; omega
                · have := HEl.out
                  omega
            · have hud : (u == x) = false := by simpa using hu
              have HE1 : Aside0 (mergeL (x, y) ((newT al prs).length - 1) (l2.drop k) = u :: mergeL (x, y) ((newT al prs).length - 1) (l2.drop mm)) := ⟨HMs.out (fun h => hu h.2.1)⟩
              clear hu
              go_wp2
              go_quiet (fail)
              have HO : Aside0 ((wr.drewN nq).ownsRow w6.heap.size 3 1 (.slice Ae es.length ce) es.length (nums .i64 es)) := ⟨pw_own_drewN HO.out nq⟩
              have HBw : Aside0 (Below w6.heap.size w6 (wr.drewN nq)) := ⟨pw_below_drewN HBw.out nq⟩
              have hcq : (wr.drewN nq).cell? (ad.add k) = some (.int .i64 u) := hc0
              generalize wr.drewN nq = wq at *
              go_wp2_with (at_builtin; refine print_append_num (w0 := w6) w6.heap.size rfl (.tmp 148) (.tmp 153) 38 3 .i64 8 rfl Try.underlying38 info_int (by decide) _ es _ rfl rfl HO.out HBw.out HBw.out.size ?_ ?_; rotate_left; intro v1 w2 hown hbw hgr hat; have HA := Aside0.mk (And.intro hown hbw); clear hown hbw hgr hat)
              · go_roundw
                case rel => exact ⟨mm, by have := HMk.out; omega, rfl, ⟨⟨es ++ [u], by rw [HEq.out, HE1.out, List.append_assoc]; rfl, HA.out.1, by have := HEl.out; have := HMk.out; rw [List.length_append]; simp; omega, HA.out.2⟩⟩⟩
                case measure => have := HMk.out; simp [intOf]; omega
              · have := HEl.out
                omega
          · rw [← hmm] at HMs
            clear hmm
            have hw2 : IntKind.i64.wrap ((k : Int) + 1) = (mm : Int) := by rw [IntWalk.i64_in _ (by omega)]; omega
            have hltd : decide ((mm : Int) < (l2.length : Int)) = false := by simp; omega
            generalize l2.getD k 0 = u at *
            have HE1 : Aside0 (mergeL (x, y) ((newT al prs).length - 1) (l2.drop k) = u :: mergeL (x, y) ((newT al prs).length - 1) (l2.drop mm)) := ⟨HMs.out (fun h => hlt2 h.1)⟩
            clear hmmI
            go_wp2
            go_quiet (fail)
            have HO : Aside0 ((wr.drewN nq).ownsRow w6.heap.size 3 1 (.slice Ae es.length ce) es.length (nums .i64 es)) := ⟨pw_own_drewN HO.out nq⟩
            have HBw : Aside0 (Below w6.heap.size w6 (wr.drewN nq)) := ⟨pw_below_drewN HBw.out nq⟩
            have hcq : (wr.drewN nq).cell? (ad.add k) = some (.int .i64 u) := hc0
            generalize wr.drewN nq = wq at *
            go_wp2_with (at_builtin; refine print_append_num (w0 := w6) w6.heap.size rfl (.tmp 148) (.tmp 153) 38 3 .i64 8 rfl Try.underlying38 info_int (by decide) _ es _ rfl rfl HO.out HBw.out HBw.out.size ?_ ?_; rotate_left; intro v1 w2 hown hbw hgr hat; have HA := Aside0.mk (And.intro hown hbw); clear hown hbw hgr hat)
            · go_roundw
              case rel => exact ⟨mm, by have := HMk.out; omega, rfl, ⟨⟨es ++ [u], by rw [HEq.out, HE1.out, List.append_assoc]; rfl, HA.out.1, by have := HEl.out; have := HMk.out; rw [List.length_append]; simp; omega, HA.out.2⟩⟩⟩
              case measure => have := HMk.out; simp [intOf]; omega
            · have := HEl.out
              omega
        · obtain rfl : k = l2.length := by omega
          clear hmm hmmI
          have HFin : Aside0 (l1 = es) := ⟨by rw [HLs.out, HEq.out, List.drop_eq_nil_of_le (Nat.le_refl _)]; simp [mergeL]⟩
          have HX := Aside0.mk (ints_calls Ar1 cr1 l1 Ae ce es wr (Kd.C_below HC1.out HBw.out) (Kd.R_reads' (R_int HO.out)).2.2 true (by simp [HFin.out]))
          go_wp2_with (fail)
          refine HX.out.mono ?_
          rintro e w7 ⟨rfl, ⟨nd, rfl⟩⟩
          have HB9 : Aside0 (Below w.heap.size w (wr.drewN nd)) := ⟨pw_below_drewN (below_step HB8.out HBw.out) nd⟩
          go_wp2_with (fail)
          refine (awake_calls _).mono ?_
          rintro e w8 ⟨rfl, hb⟩
          have HB10 := Aside0.mk (below_step HB9.out hb)
          clear hb
          go_wp2
          go_ret
          exact ⟨rfl, HB10.out⟩
  · have HE := Aside0.mk hE
    have HW2 := Aside0.mk (hno hE)
    obtain rfl := HW2.out
    have HNw : Aside0 (Calls Try.prog 11 #[.slice A al.length c, .slice A2 m c2] w2.drew fun e w3 => ∃ p3 z3, e = .returned (.tuple #[p3, .int .i64 z3]) ∧ Below w2.drew.heap.size w2.drew w3) :=
      ⟨HNw.out.mono fun e w3 h => by
        by_cases h0 : newE al (prs.take m) = 0
        · obtain ⟨g2, vt2, vo2, b2, he, hH⟩ := h.2.2 h0
          exact ⟨_, _, he, h.2.1⟩
        · exact ⟨_, _, h.1 h0, h.2.1⟩⟩
    clear hno hb2 hok HW2
    have hEd : (newE al prs != 0) = true := by simpa using hE
    have hEd2 : (newE al prs == 0) = false := by simpa using hE
    clear hE
    generalize newE al prs = z at *
    go_upto_region 5 with (fail)
    refine start_ (n := 12) (S := fun w' => w'.cell? ⟨w.heap.size, 0, none⟩ = some (.slice A al.length c) ∧ w'.cell? ⟨w.heap.size, 1, none⟩ = some (.slice A2 prs.length c2)) (ds := []) #[false, false, false, false, false, false, false, false, false, false, false, false] (by kernel_rfl) rfl rfl ⟨h20, h21⟩ (fun hHeld => ?_)
    refine pure_ (i := 0) (N := some 45) (v := ?_) (a' := ?_) #[true, false, false, false, false, false, false, false, false, false, false, false] rfl rfl (by kernel_rfl) (fun _ _ _ h => h) (Or.inl ⟨by rfl, ?_⟩) ?_ ?_
    rotate_left
    · intro w'
      go_simp
      with_reducible rfl
    rotate_left
    · simp only [Act.put, List.setIfInBounds_toArray, List.set_cons_zero, List.set_cons_succ]
      rfl
    refine pure_ (i := 2) (N := some 47) (v := ?_) (a' := ?_) #[true, false, true, false, false, false, false, false, false, false, false, false] rfl rfl (by kernel_rfl) (fun _ _ _ h => h) (Or.inl ⟨by rfl, ?_⟩) ?_ ?_
    rotate_left
    · intro w'
      go_simp
      with_reducible rfl
    rotate_left
    · simp only [Act.put, List.setIfInBounds_toArray, List.set_cons_zero, List.set_cons_succ]
      rfl
    refine pure_ (i := 4) (N := some 49) (v := ?_) (a' := ?_) #[true, false, true, false, true, false, false, false, false, false, false, false] rfl rfl (by kernel_rfl) (fun _ _ _ h => h) (Or.inl ⟨by rfl, ?_⟩) ?_ ?_
    rotate_left
    · intro w'
      go_simp
      with_reducible rfl
    rotate_left
    · simp only [Act.put, List.setIfInBounds_toArray, List.set_cons_zero, List.set_cons_succ]
      rfl
    refine take_ (i := 1) (N := some 46) (v := ?_) (a' := ?_) #[true, true, true, false, true, false, false, false, false, false, false, false] rfl rfl (by kernel_rfl) (fun _ _ _ h => h) (Or.inl ⟨by rfl, ?_⟩) hHeld ?_ ?_
    rotate_left
    · rintro w' ⟨s0, s1⟩
      go_simp
      with_reducible rfl
    rotate_left
    · simp only [Act.put, List.setIfInBounds_toArray, List.set_cons_zero, List.set_cons_succ]
      rfl
    refine take_ (i := 3) (N := some 48) (v := ?_) (a' := ?_) #[true, true, true, true, true, false, false, false, false, false, false, false] rfl rfl (by kernel_rfl) (fun _ _ _ h => h) (Or.inl ⟨by rfl, ?_⟩) hHeld ?_ ?_
    rotate_left
    · rintro w' ⟨s0, s1⟩
      go_simp
      with_reducible rfl
    rotate_left
    · simp only [Act.put, List.setIfInBounds_toArray, List.set_cons_zero, List.set_cons_succ]
      rfl
    refine pure_ (i := 5) (N := some 50) (v := ?_) (a' := ?_) #[true, true, true, true, true, true, false, false, false, false, false, false] rfl rfl (by kernel_rfl) (fun _ _ _ h => h) (Or.inl ⟨by rfl, ?_⟩) ?_ ?_
    rotate_left
    · intro w'
      go_simp
      with_reducible rfl
    rotate_left
    · simp only [Act.put, List.setIfInBounds_toArray, List.set_cons_zero, List.set_cons_succ]
      rfl
    refine one_ (i := 6) (N := some 51) #[true, true, true, true, true, true, true, false, false, false, false, false] rfl rfl (by kernel_rfl) (by decide) (fun K hK => ?_)
    refine goes_ Try.func11 (by kernel_rfl) rfl #[.slice A al.length c, .slice A2 m c2] (by rfl) rfl rfl (by simp only [List.map_toArray, List.map_cons, List.map_nil]; rfl) ?_
    with_reducible refine (HNw.out).mono ?_
    rintro e w3 ⟨p3, z3, rfl, hb3⟩
    refine ⟨_, rfl, ?_⟩
    have HB3 := Aside0.mk hb3
    refine hK.out _ _ ⟨cell_keep hb3 h20, cell_keep hb3 h21⟩ (fun hHeld => ?_)
    clear hK K
    refine norm_ (a' := ?_) ?_ ?_
    rotate_left
    · show Act.put _ (some 51) _ = _
      simp only [Act.put, List.setIfInBounds_toArray, List.set_cons_zero, List.set_cons_succ]
      rfl
    refine pure_ (i := 7) (N := some 44) (v := ?_) (a' := ?_) #[true, true, true, true, true, true, true, true, false, false, false, false] rfl rfl (by kernel_rfl) (fun _ _ _ h => h) (Or.inl ⟨by rfl, ?_⟩) ?_ ?_
    rotate_left
    · intro w'
      go_simp
      with_reducible rfl
    rotate_left
    · simp only [Act.put, List.setIfInBounds_toArray, List.set_cons_zero, List.set_cons_succ]
      rfl
    refine pure_ (i := 8) (N := some 52) (v := ?_) (a' := ?_) #[true, true, true, true, true, true, true, true, true, false, false, false] rfl rfl (by kernel_rfl) (fun _ _ _ h => h) (Or.inl ⟨by rfl, ?_⟩) ?_ ?_
    rotate_left
    · intro w'
      go_simp
      with_reducible rfl
    rotate_left
    · simp only [Act.put, List.setIfInBounds_toArray, List.set_cons_zero, List.set_cons_succ]
      rfl
    refine pure_ (i := 9) (N := some 53) (v := ?_) (a' := ?_) #[true, true, true, true, true, true, true, true, true, true, false, false] rfl rfl (by kernel_rfl) (fun _ _ _ h => h) (Or.inl ⟨by rfl, ?_⟩) ?_ ?_
    rotate_left
    · intro w'
      go_simp
      with_reducible rfl
    rotate_left
    · simp only [Act.put, List.setIfInBounds_toArray, List.set_cons_zero, List.set_cons_succ]
      rfl
    refine pure_ (i := 10) (N := some 8) (v := ?_) (a' := ?_) #[true, true, true, true, true, true, true, true, true, true, true, false] rfl rfl (by kernel_rfl) (fun _ _ _ h => h) (Or.inl ⟨by rfl, ?_⟩) ?_ ?_
    rotate_left
    · intro w'
      go_simp
      with_reducible rfl
    rotate_left
    · simp only [Act.put, List.setIfInBounds_toArray, List.set_cons_zero, List.set_cons_succ]
      rfl
    refine pure_ (i := 11) (N := some 9) (v := ?_) (a' := ?_) #[true, true, true, true, true, true, true, true, true, true, true, true] rfl rfl (by kernel_rfl) (fun _ _ _ h => h) (Or.inl ⟨by rfl, ?_⟩) ?_ ?_
    rotate_left
    · intro w'
      go_simp
      with_reducible rfl
    rotate_left
    · simp only [Act.put, List.setIfInBounds_toArray, List.set_cons_zero, List.set_cons_succ]
      rfl
    refine done_ (by kernel_rfl) ?_
    clear hHeld
    go_wp2_with (fail)
    refine (awake_calls _).mono ?_
    rintro e w4 ⟨rfl, hb⟩
    have HB4 := Aside0.mk (below_step (below_step HBd.out HB3.out) hb)
    clear hb
    go_wp2
    go_ret
    exact ⟨rfl, HB4.out⟩
theorem last_law (hC : Kd.C (Kd.int .u8) w A al.length al) (hC2 : Kd.C kP w A2 prs.length prs) (hC3 : Kd.C (Kd.int .u8) w A3 bs.length bs) (hby : ∀ x ∈ al, 0 ≤ x ∧ x < 256) (hby3 : ∀ x ∈ bs, 0 ≤ x ∧ x < 256) (hc2 : prs.length ≤ c2) :
    Calls Try.prog 4 #[.agg #[.slice A al.length c, .slice A2 prs.length c2], .slice A3 bs.length c3] w fun e w' => e = .returned (.bool true) ∧ Below w.heap.size w w' := by
  by_cases h : fewB al.length prs.length = false ∨ prs.length = 0 ∨ 60 < bs.length
  · exact last_out A c al A2 c2 prs A3 c3 bs w hC.2.1 hC2.2.1 hC3.2.1 h
  · have hf : fewB al.length prs.length = true := by
      cases hh : fewB al.length prs.length with
      | true => rfl
      | false => exact absurd (.inl hh) h
    exact last_in A c al A2 c2 prs A3 c3 bs w (prs.length - 1) hC hC2 hC3 hby hby3 hc2 hf (by omega) (by omega)
theorem last_n (n n2 n3 : Nat) (hC : Kd.C (Kd.int .u8) w A n al) (hC2 : Kd.C kP w A2 n2 prs) (hC3 : Kd.C (Kd.int .u8) w A3 n3 bs) (hby : ∀ x ∈ al, 0 ≤ x ∧ x < 256) (hby3 : ∀ x ∈ bs, 0 ≤ x ∧ x < 256) (hc2 : n2 ≤ c2) :
    Calls Try.prog 4 #[.agg #[.slice A n c, .slice A2 n2 c2], .slice A3 n3 c3] w fun e w' => e = .returned (.bool true) ∧ Below w.heap.size w w' := by
  obtain rfl := hC.1
  obtain rfl := hC2.1
  obtain rfl := hC3.1
  exact last_law A c al A2 c2 prs A3 c3 bs w hC hC2 hC3 hby hby3 hc2
end
end Go.Proofs.Ytbgiccbegcepcaa.Bpe

