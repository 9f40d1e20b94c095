/- bpe's law: which alphabets and pairs may be, and which texts tokens have. -/
import Derived.Test.YtbgiccbegcepcaaBpeFew
import Derived.Test.YtbgiccbegcepcaaBpePlain
import Derived.Test.YtbgiccbegcepcaaBpeREnc
namespace Go.Proofs.Ytbgiccbegcepcaa.Bpe
open Go.RowKit Go.Proofs.YtbgiccbegcepcaaW.PrintWords Go.Proofs.YtbgiccbegcepcaaW.PrintLast Go.Proofs.YtbgiccbegcepcaaW.PrintMore Go.Proofs.Ytbgiccbegcepcaa.K Go.Proofs.Ytbgiccbegcepcaa.Law
set_option linter.unusedVariables false
set_option linter.unusedSimpArgs false
section
variable (A : Option Addr) (c : Nat) (al : List Int) (A2 : Option Addr) (c2 : Nat) (prs : List Pr) (tok : Int) (w : World)
set_option maxHeartbeats 2000000 in
set_option maxRecDepth 100000 in
theorem tokens_few (hm : al.length ≤ 9223372036854775807) (hm2 : prs.length ≤ 9223372036854775807)  (hf : fewB al.length prs.length = false) :
    Calls Try.prog 7 #[.agg #[.slice A al.length c, .slice A2 prs.length c2], .int .i64 tok] w fun e w' => e = .returned (.bool true) ∧ Below w.heap.size w w' := by
  have HB : Aside0 (Below w.heap.size w (w.alloc (.cells #[.slice A al.length c, .slice A2 prs.length c2] 25))) := ⟨bel_alloc (Below.refl _ _) _⟩
  have HF := Aside0.mk (few_calls A al.length c A2 prs.length c2 (w.alloc (.cells #[.slice A al.length c, .slice A2 prs.length c2] 25)) hm hm2 false hf)
  clear hf
  go_enter Try.func7, Try.ntmps7
  go_wp2_with (fail)
  refine HF.out.mono ?_
  rintro e w1 ⟨rfl, hb⟩
  have HB1 := Aside0.mk (below_step HB.out hb)
  clear hb
  go_wp2_with (fail)
  refine (awake_calls _).mono ?_
  rintro e w2 ⟨rfl, hb⟩
  have HB2 := Aside0.mk (below_step HB1.out hb)
  clear hb
  go_wp2
  go_ret
  exact ⟨rfl, HB2.out⟩
set_option maxHeartbeats 16000000 in
set_option maxRecDepth 100000 in
theorem tokens_in (hC : Kd.C (Kd.int .u8) w A al.length al) (hC2 : Kd.C kP w A2 prs.length prs)  (hby : ∀ x ∈ al, 0 ≤ x ∧ x < 256) (hf : fewB al.length prs.length = true) :
    Calls Try.prog 7 #[.agg #[.slice A al.length c, .slice A2 prs.length c2], .int .i64 tok] w fun e w' => e = .returned (.bool true) ∧ Below w.heap.size w w' := by
  have HB : Aside0 (Below w.heap.size w (w.alloc (.cells #[.slice A al.length c, .slice A2 prs.length c2] 25))) := ⟨bel_alloc (Below.refl _ _) _⟩
  obtain ⟨hal, hpr⟩ := fewB_true hf
  have HF := Aside0.mk (few_calls A al.length c A2 prs.length c2 (w.alloc (.cells #[.slice A al.length c, .slice A2 prs.length c2] 25)) (by omega) (by omega) true hf)
  have HC := Aside0.mk hC
  have HC2 := Aside0.mk hC2
  have HBy := Aside0.mk hby
  have HBx : Aside0 ((w.alloc (.cells #[.slice A al.length c, .slice A2 prs.length c2] 25)).heap[w.heap.size]? = some (.cells #[.slice A al.length c, .slice A2 prs.length c2] 25 (0, 0))) := ⟨heap_alloc_new _ _⟩
  clear hC hC2 hby hf
  go_enter Try.func7, Try.ntmps7
  go_wp2_with (fail)
  refine HF.out.mono ?_
  rintro e w1 ⟨rfl, hb1⟩
  have HB1 := Aside0.mk (below_step HB.out hb1)
  have HBx1 : Aside0 (w1.heap[w.heap.size]? = _) := ⟨(hb1.block _ (blk_lt HBx.out)).trans HBx.out⟩
  have hx0 : w1.cell? ⟨w.heap.size, 0, none⟩ = some (.slice A al.length c) := blk_cell HBx1.out 0
  have hx1 : w1.cell? ⟨w.heap.size, 1, none⟩ = some (.slice A2 prs.length c2) := blk_cell HBx1.out 1
  clear hb1 HF
  go_wp2_with (fail)
  refine (new_calls A c al A2 c2 prs w1 (Kd.C_below HC.out HB1.out) (Kd.C_below HC2.out HB1.out) HBy.out (by omega) (by omega)).mono ?_
  rintro e w2 ⟨hno, hb2, hok⟩
  have HB2 := Aside0.mk (below_step HB1.out hb2)
  have HBx2 : Aside0 (w2.heap[w.heap.size]? = _) := ⟨(hb2.block _ (blk_lt HBx1.out)).trans HBx1.out⟩
  clear hx0 hx1
  have hx0 : w2.cell? ⟨w.heap.size, 0, none⟩ = some (.slice A al.length c) := blk_cell HBx2.out 0
  have hx1 : w2.cell? ⟨w.heap.size, 1, none⟩ = some (.slice A2 prs.length c2) := blk_cell HBx2.out 1
  have HPl := Aside0.mk (plain_calls A c al A2 c2 prs w2 (Kd.C_below HC.out HB2.out) (Kd.C_below HC2.out HB2.out) HBy.out (by omega) (by omega))
  by_cases hE : newE al prs = 0
  · obtain ⟨g, vt, vo, b, rfl, hH⟩ := hok hE
    have HE := Aside0.mk hE
    have HH := Aside0.mk hH
    clear hno hb2 hok hE hH
    go_wp2_with (fail)
    refine HPl.out.mono ?_
    rintro e w3 ⟨hb3, _, hok⟩
    obtain ⟨vs, vp, rfl, hRs, hRp⟩ := hok HE.out
    obtain ⟨As, cs, rfl⟩ := Kd.R_slice hRs
    obtain ⟨Ap, cp, rfl⟩ := Kd.R_slice hRp
    have HB3 := Aside0.mk (below_step HB2.out hb3)
    have HH3 := Aside0.mk (HH.out.below hb3)
    have HSr := Aside0.mk (Kd.R_reads' hRs).2.2
    have HPr := Aside0.mk (Kd.R_reads' hRp).2.2
    clear hok hb3 hRs hRp HPl HH hx0 hx1
    have HB4 : Aside0 (Below w3.heap.size w3 (w3.alloc (.cells #[.slice As (newT al prs).length cs, .slice Ap prs.length cp, .int .i64 (al.length : Int)] 35))) := ⟨bel_alloc (Below.refl _ _) _⟩
    have hcx : (w3.alloc (.cells #[.slice As (newT al prs).length cs, .slice Ap prs.length cp, .int .i64 (al.length : Int)] 35)).heap[w3.heap.size]? = some (.cells #[.slice As (newT al prs).length cs, .slice Ap prs.length cp, .int .i64 (al.length : Int)] 35 (0, 0)) := heap_alloc_new _ _
    have HCx := Aside0.mk hcx
    clear hcx
    have HTn := Aside0.mk (newT_length HE.out)
    have H16 := Aside0.mk (newT_16 HE.out)
    have HS4 : Aside0 (Kd.C kS (w3.alloc (.cells #[.slice As (newT al prs).length cs, .slice Ap prs.length cp, .int .i64 (al.length : Int)] 35)) As (newT al prs).length (newT al prs)) := ⟨Kd.C_below HSr.out HB4.out⟩
    have hTd : (newT al prs).length ≤ 1000 := by have := HTn.out; omega
    have HH4 := Aside0.mk (HH3.out.below HB4.out)
    have HB5 := Aside0.mk (below_step HB3.out HB4.out)
    clear HH3 HSr HE HTn HPr HB4 HB1 HB2 HBx HBx1 HBx2 HC HC2 HBy
    generalize newT al prs = T at *
    go_wp2_with (fail)
    generalize w3.alloc (.cells #[.slice As T.length cs, .slice Ap prs.length cp, .int .i64 (al.length : Int)] 35) = w4 at *
    obtain ⟨gx, hgx⟩ : ∃ gx, gx = w3.heap.size := ⟨_, rfl⟩
    rw [← hgx] at HCx ⊢
    clear hgx
    have hg0 : w4.cell? ⟨gx, 0, none⟩ = some (.slice As T.length cs) := blk_cell HCx.out 0
    have HHd : Aside0 (CodAt w4.drew w1.heap.size g vt vo b T (ofL al) al.length prs prs) := ⟨HH4.out.below (below_drew (Below.refl _ _))⟩
    have HMy := Aside0.mk (many_calls HHd.out)
    have HBd : Aside0 (Below w.heap.size w w4.drew) := ⟨below_drew HB5.out⟩
    have HSd : Aside0 (Kd.C kS w4.drew As T.length T) := ⟨Kd.C_below HS4.out (below_drew (Below.refl _ _))⟩
    have HCxd : Aside0 (w4.drew.heap[gx]? = some (.cells #[.slice As T.length cs, .slice Ap prs.length cp, .int .i64 (al.length : Int)] 35 (0, 0))) := ⟨HCx.out⟩
    have hg0d : w4.drew.cell? ⟨gx, 0, none⟩ = some (.slice As T.length cs) := hg0
    clear hg0
    go_upto_region 7 with (fail)
    refine start_ (n := 14) (S := fun w' => w'.cell? ⟨gx, 0, none⟩ = some (.slice As T.length cs)) (ds := []) #[false, false, false, false, false, false, false, false, false, false, false, false, false, false] (by kernel_rfl) rfl rfl (hg0d) (fun hHeld => ?_)
    refine pure_ (i := 0) (N := some 44) (v := ?_) (a' := ?_) #[true, false, false, false, false, false, false, false, false, false, false, false, false, false] rfl rfl (by kernel_rfl) (fun _ _ _ h => h) (Or.inl ⟨by rfl, ?_⟩) ?_ ?_
    rotate_left
    · intro w'
      go_simp
      with_reducible rfl
    rotate_left
    · simp only [Act.put, List.setIfInBounds_toArray, List.set_cons_zero, List.set_cons_succ]
      rfl
    refine pure_ (i := 1) (N := some 45) (v := ?_) (a' := ?_) #[true, true, false, false, false, false, false, false, false, false, false, false, false, false] rfl rfl (by kernel_rfl) (fun _ _ _ h => h) (Or.inl ⟨by rfl, ?_⟩) ?_ ?_
    rotate_left
    · intro w'
      go_simp
      with_reducible rfl
    rotate_left
    · simp only [Act.put, List.setIfInBounds_toArray, List.set_cons_zero, List.set_cons_succ]
      rfl
    refine pure_ (i := 2) (N := some 46) (v := ?_) (a' := ?_) #[true, true, true, false, false, false, false, false, false, false, false, false, false, false] rfl rfl (by kernel_rfl) (fun _ _ _ h => h) (Or.inl ⟨by rfl, ?_⟩) ?_ ?_
    rotate_left
    · intro w'
      go_simp
      with_reducible rfl
    rotate_left
    · simp only [Act.put, List.setIfInBounds_toArray, List.set_cons_zero, List.set_cons_succ]
      rfl
    refine pure_ (i := 3) (N := some 47) (v := ?_) (a' := ?_) #[true, true, true, true, false, false, false, false, false, false, false, false, false, false] rfl rfl (by kernel_rfl) (fun _ _ _ h => h) (Or.inl ⟨by rfl, ?_⟩) ?_ ?_
    rotate_left
    · intro w'
      go_simp
      with_reducible rfl
    rotate_left
    · simp only [Act.put, List.setIfInBounds_toArray, List.set_cons_zero, List.set_cons_succ]
      rfl
    refine pure_ (i := 4) (N := some 48) (v := ?_) (a' := ?_) #[true, true, true, true, true, false, false, false, false, false, false, false, false, false] rfl rfl (by kernel_rfl) (fun _ _ _ h => h) (Or.inl ⟨by rfl, ?_⟩) ?_ ?_
    rotate_left
    · intro w'
      go_simp
      with_reducible rfl
    rotate_left
    · simp only [Act.put, List.setIfInBounds_toArray, List.set_cons_zero, List.set_cons_succ]
      rfl
    refine pure_ (i := 5) (N := some 49) (v := ?_) (a' := ?_) #[true, true, true, true, true, true, false, false, false, false, false, false, false, false] rfl rfl (by kernel_rfl) (fun _ _ _ h => h) (Or.inl ⟨by rfl, ?_⟩) ?_ ?_
    rotate_left
    · intro w'
      go_simp
      with_reducible rfl
    rotate_left
    · simp only [Act.put, List.setIfInBounds_toArray, List.set_cons_zero, List.set_cons_succ]
      rfl
    refine pure_ (i := 6) (N := some 50) (v := ?_) (a' := ?_) #[true, true, true, true, true, true, true, false, false, false, false, false, false, false] rfl rfl (by kernel_rfl) (fun _ _ _ h => h) (Or.inl ⟨by rfl, ?_⟩) ?_ ?_
    rotate_left
    · intro w'
      go_simp
      with_reducible rfl
    rotate_left
    · simp only [Act.put, List.setIfInBounds_toArray, List.set_cons_zero, List.set_cons_succ]
      rfl
    refine pure_ (i := 7) (N := some 51) (v := ?_) (a' := ?_) #[true, true, true, true, true, true, true, true, false, false, false, false, false, false] rfl rfl (by kernel_rfl) (fun _ _ _ h => h) (Or.inl ⟨by rfl, ?_⟩) ?_ ?_
    rotate_left
    · intro w'
      go_simp
      with_reducible rfl
    rotate_left
    · simp only [Act.put, List.setIfInBounds_toArray, List.set_cons_zero, List.set_cons_succ]
      rfl
    refine pure_ (i := 9) (N := some 53) (v := ?_) (a' := ?_) #[true, true, true, true, true, true, true, true, false, true, false, false, false, false] rfl rfl (by kernel_rfl) (fun _ _ _ h => h) (Or.inl ⟨by rfl, ?_⟩) ?_ ?_
    rotate_left
    · intro w'
      go_simp
      with_reducible rfl
    rotate_left
    · simp only [Act.put, List.setIfInBounds_toArray, List.set_cons_zero, List.set_cons_succ]
      rfl
    refine take_ (i := 10) (N := some 54) (v := ?_) (a' := ?_) #[true, true, true, true, true, true, true, true, false, true, true, false, false, false] rfl rfl (by kernel_rfl) (fun _ _ _ h => h) (Or.inl ⟨by rfl, ?_⟩) hHeld ?_ ?_
    rotate_left
    · intro w' s0
      go_simp
      with_reducible rfl
    rotate_left
    · simp only [Act.put, List.setIfInBounds_toArray, List.set_cons_zero, List.set_cons_succ]
      rfl
    refine pure_ (i := 11) (N := some 55) (v := ?_) (a' := ?_) #[true, true, true, true, true, true, true, true, false, true, true, true, false, false] rfl rfl (by kernel_rfl) (fun _ _ _ h => h) (Or.inl ⟨by rfl, ?_⟩) ?_ ?_
    rotate_left
    · intro w'
      go_simp
      with_reducible rfl
    rotate_left
    · simp only [Act.put, List.setIfInBounds_toArray, List.set_cons_zero, List.set_cons_succ]
      rfl
    refine one_ (i := 8) (N := some 52) #[true, true, true, true, true, true, true, true, true, true, true, true, false, false] rfl rfl (by kernel_rfl) (by decide) (fun K hK => ?_)
    refine goes_ Try.func16 (by kernel_rfl) rfl #[.pointer (some ⟨g, 0, none⟩)] (by rfl) rfl rfl (by simp only [List.map_toArray, List.map_cons, List.map_nil]; rfl) ?_
    with_reducible refine (HMy.out).mono ?_
    rintro e w6 ⟨rfl, rfl⟩
    refine ⟨_, rfl, ?_⟩
    refine hK.out _ _ (hg0d) (fun hHeld => ?_)
    clear hK K
    refine norm_ (a' := ?_) ?_ ?_
    rotate_left
    · show Act.put _ (some 52) _ = _
      simp only [Act.put, List.setIfInBounds_toArray, List.set_cons_zero, List.set_cons_succ]
      rfl
    refine pure_ (i := 12) (N := some 56) (v := ?_) (a' := ?_) #[true, true, true, true, true, true, true, true, true, true, true, true, true, false] rfl rfl (by kernel_rfl) (fun _ _ _ h => h) (Or.inl ⟨by rfl, ?_⟩) ?_ ?_
    rotate_left
    · intro w'
      go_simp
      with_reducible rfl
    rotate_left
    · simp only [Act.put, List.setIfInBounds_toArray, List.set_cons_zero, List.set_cons_succ]
      rfl
    refine pure_ (i := 13) (N := some 57) (v := ?_) (a' := ?_) #[true, true, true, true, true, true, true, true, true, true, true, true, true, true] rfl rfl (by kernel_rfl) (fun _ _ _ h => h) (Or.inl ⟨by rfl, ?_⟩) ?_ ?_
    rotate_left
    · intro w'
      go_simp
      with_reducible rfl
    rotate_left
    · simp only [Act.put, List.setIfInBounds_toArray, List.set_cons_zero, List.set_cons_succ]
      rfl
    refine done_ (by kernel_rfl) ?_
    clear hHeld hg0d HH4 HB5 HS4 HCx
    generalize w4.drew = w5 at *
    go_wp2_with (fail)
    go_loopw [9] (fun i wr => ∃ k : Nat, k ≤ T.length ∧ i = .int .i64 (k : Int) ∧ Aside0 (Below w5.heap.size w5 wr)) (fun i _ => T.length - (intOf i).toNat)
    case atStart => exact ⟨0, Nat.zero_le _, rfl, ⟨Below.refl _ _⟩⟩
    case round =>
      obtain ⟨k, hk, rfl, HI⟩ := hrel
      have HBw := Aside0.mk (below_step HBd.out HI.out)
      have HCxr : Aside0 (wr.heap[gx]? = some (.cells #[.slice As T.length cs, .slice Ap prs.length cp, .int .i64 (al.length : Int)] 35 (0, 0))) := ⟨(HI.out.block _ (blk_lt HCxd.out)).trans HCxd.out⟩
      have hgr : wr.cell? ⟨gx, 0, none⟩ = some (.slice As T.length cs) := blk_cell HCxr.out 0
      have HHr := Aside0.mk (HHd.out.below HI.out)
      by_cases hlt : k < T.length
      · obtain ⟨adt, rfl, hst0⟩ := str_at HSd.out k hlt
        clear hst0
        have HM16 : Aside0 ((T.getD k []).length ≤ 16) := ⟨by
          rw [List.getD_eq_getElem?_getD, List.getElem?_eq_getElem hlt]
          exact H16.out _ (List.getElem_mem hlt)⟩
        go_wp2_with (fail)
        refine (text_some k HHr.out hlt (by have := HM16.out; omega)).mono ?_
        rintro e w6 ⟨v, rfl, hR, hb⟩
        have HB6 := Aside0.mk (below_step HI.out hb)
        obtain ⟨ad2, hae, hst⟩ := str_at (Kd.C_below HSd.out HB6.out) k hlt
        cases hae
        have hg6 : w6.cell? ⟨gx, 0, none⟩ = some (.slice (some adt) T.length cs) := blk_cell ((hb.block _ (blk_lt HCxr.out)).trans HCxr.out) 0
        obtain ⟨Av, cv, rfl⟩ := Kd.R_slice hR
        have hcv : ∀ nn, (convert 22 9 (.slice Av (T.getD k []).length cv)).run Try.prog (w6.drewN nn) = .ok (.string (strOfNums (T.getD k []))) (w6.drewN nn) := fun nn => Kd.C_string (P := Try.prog) (A := Av) (c := cv) Try.underlying22 Try.underlying5 Try.underlying9 (Kd.C_below (Kd.R_reads' hR).2.2 (pw_below_drewN (Below.refl _ _) nn))
        clear hR hb hgr HHr HCxr
        generalize T.getD k [] = tk at *
        go_wp2_with (fail)
        go_quiet (fail)
        go_wp2_with (fail)
        go_roundw
        case rel => exact ⟨k + 1, by omega, by go_num, ⟨pw_below_drewN HB6.out nq⟩⟩
        case measure => simp [intOf]; omega
      · obtain rfl : k = T.length := by omega
        go_wp2_with (fail)
        cases hq : isTok T.length tok with
        | false =>
          refine (text_none tok HHr.out hq).mono ?_
          rintro e w6 ⟨rfl, rfl⟩
          by_cases hneg : tok < 0
          · have hd1 : decide (0 ≤ tok) = false := by simp; omega
            clear hneg hq
            go_wp2_with (fail)
            refine (awake_calls _).mono ?_
            rintro e w' ⟨rfl, hb⟩
            have HBz := Aside0.mk (below_step HBw.out hb)
            clear hb
            go_wp2
            go_ret
            exact ⟨rfl, HBz.out⟩
          · have hge : T.length ≤ tok.toNat := by simp [isTok] at hq; omega
            have hd1 : decide (0 ≤ tok) = true := by simp; omega
            have hd2 : decide (tok < (T.length : Int)) = false := by simp; omega
            clear hneg hq hge
            go_wp2_with (fail)
            refine (awake_calls _).mono ?_
            rintro e w' ⟨rfl, hb⟩
            have HBz := Aside0.mk (below_step HBw.out hb)
            clear hb
            go_wp2
            go_ret
            exact ⟨rfl, HBz.out⟩
        | true =>
          obtain ⟨m, rfl⟩ : ∃ m : Nat, tok = m := ⟨tok.toNat, by simp [isTok] at hq; omega⟩
          have hml : m < T.length := by simp [isTok] at hq; omega
          have hd1 : decide (0 ≤ (m : Int)) = true := by simp
          have hd2 : decide ((m : Int) < (T.length : Int)) = true := by simp; omega
          have HM16 : Aside0 ((T.getD m []).length ≤ 16) := ⟨by
            rw [List.getD_eq_getElem?_getD, List.getElem?_eq_getElem hml]
            exact H16.out _ (List.getElem_mem hml)⟩
          refine (text_some m HHr.out hml (by have := HM16.out; omega)).mono ?_
          rintro e w6 ⟨v, rfl, hR, hb⟩
          have HB6 := Aside0.mk (below_step HBw.out hb)
          have hg6 : w6.cell? ⟨gx, 0, none⟩ = some (.slice As T.length cs) := blk_cell ((hb.block _ (blk_lt HCxr.out)).trans HCxr.out) 0
          obtain ⟨Av, cv, rfl⟩ := Kd.R_slice hR
          clear hR hb hq hgr HHr HCxr
          generalize T.getD m [] = tk at *
          go_wp2_with (fail)
          refine (awake_calls _).mono ?_
          rintro e w' ⟨rfl, hb⟩
          have HBz := Aside0.mk (below_step HB6.out hb)
          clear hb
          go_wp2
          go_ret
          exact ⟨rfl, HBz.out⟩
  · have HE := Aside0.mk hE
    have hW2 := hno hE
    subst hW2
    have hEd : (newE al prs != 0) = true := by simpa using hE
    have HPl2 : Aside0 (Calls Try.prog 12 #[.agg #[.slice A al.length c, .slice A2 prs.length c2]] w2 fun e w3 => e = .returned (.tuple #[.agg #[.slice none 0 0, .slice none 0 0, .int .i64 0], .int .i64 (newE al prs)]) ∧ Below w2.heap.size w2 w3) := ⟨HPl.out.mono fun e w3 h => ⟨h.2.1 HE.out, h.1⟩⟩
    clear hno hb2 hok hE HPl
    generalize newE al prs = z at *
    go_wp2_with (fail)
    refine HPl2.out.mono ?_
    rintro e w3 ⟨rfl, hb3⟩
    have HB3 := Aside0.mk (below_step HB2.out hb3)
    have HB4 : Aside0 (Below w.heap.size w (w3.alloc (.cells #[.slice none 0 0, .slice none 0 0, .int .i64 0] 35))) := ⟨bel_alloc HB3.out _⟩
    clear hb3 hx0 hx1
    go_wp2_with (fail)
    refine (awake_calls _).mono ?_
    rintro e w7 ⟨rfl, hb⟩
    have HB7 := Aside0.mk (below_step HB4.out hb)
    clear hb
    go_wp2
    go_ret
    exact ⟨rfl, HB7.out⟩
theorem tokens_n (n n2 : Nat) (hC : Kd.C (Kd.int .u8) w A n al) (hC2 : Kd.C kP w A2 n2 prs) (hby : ∀ x ∈ al, 0 ≤ x ∧ x < 256) :
    Calls Try.prog 7 #[.agg #[.slice A n c, .slice A2 n2 c2], .int .i64 tok] w fun e w' => e = .returned (.bool true) ∧ Below w.heap.size w w' := by
  obtain rfl := hC.1
  obtain rfl := hC2.1
  cases hf : fewB al.length prs.length with
  | false => exact tokens_few A c al A2 c2 prs tok w hC.2.1 hC2.2.1 hf
  | true => exact tokens_in A c al A2 c2 prs tok w hC hC2 hby hf
end
end Go.Proofs.Ytbgiccbegcepcaa.Bpe

