/- bpe's reference: New. -/
import Derived.Test.YtbgiccbegcepcaaBpeRef
import Derived.Test.YtbgiccbegcepcaaArrEq
import Derived.StillTailTactics
namespace Go.Proofs.Ytbgiccbegcepcaa.Bpe
open Go.RowKit Go.Proofs.YtbgiccbegcepcaaW.PrintWords Go.Proofs.YtbgiccbegcepcaaW.PrintLast Go.Proofs.YtbgiccbegcepcaaW.PrintMore Go.Proofs.Ytbgiccbegcepcaa.K
set_option linter.unusedVariables false
set_option linter.unusedSimpArgs false
def RNewEnd (w : World) (al : List Int) (prs : List Pr) (e : Ending) (w' : World) : Prop :=
  Below w.heap.size w w' ∧ (newE al prs ≠ 0 → e = .returned (.tuple #[.agg #[.slice none 0 0, .slice none 0 0, .int .i64 0], .int .i64 (newE al prs)])) ∧
  (newE al prs = 0 → ∃ vt vp, e = .returned (.tuple #[.agg #[vt, vp, .int .i64 (al.length : Int)], .int .i64 0]) ∧ kS.R 9 w' w.heap.size (fun _ => True) vt (newT al prs) ∧ kP.R 50 w' w.heap.size (fun _ => True) vp prs)
theorem rnew_bad {w w' : World} {al : List Int} {prs : List Pr} (m : Int) (hm : m ≠ 0) (h : newE al prs = m) (hb : Below w.heap.size w w') : RNewEnd w al prs (.returned (.tuple #[.agg #[.slice none 0 0, .slice none 0 0, .int .i64 0], .int .i64 m])) w' :=
  ⟨hb, fun _ => by rw [h], fun h0 => absurd (h.symm.trans h0) hm⟩
theorem info_rc : (Try.prog.info? 35).map (·.size) = some 3 := by kernel_rfl
theorem und_rc : (match (Try.prog.underlying 35) with | some (.struct _) => true | _ => false) = true := by kernel_rfl
set_option maxHeartbeats 4000000 in
set_option maxRecDepth 100000 in
theorem rnew_size (A : Option Addr) (c : Nat) (al : List Int) (A2 : Option Addr) (c2 : Nat) (prs : List Pr) (w : World) (hm : al.length ≤ 1000000) (hm2 : prs.length ≤ 1000000) (h : al.length = 0 ∨ 512 < al.length + prs.length) :
    Calls Try.prog 23 #[.slice A al.length c, .slice A2 prs.length c2] w (RNewEnd w al prs) := by
  have HE : Aside0 (newE al prs = 13) := ⟨if_pos h⟩
  have HB : Aside0 (Below w.heap.size w (w.alloc (.cells #[.slice none 0 0, .slice none 0 0, .int .i64 0] 35))) := ⟨bel_alloc (Below.refl _ _) _⟩
  by_cases h0 : al.length = 0
  · have hd : decide ((al.length : Int) < 1) = true := by simp; omega
    clear h
    go_enter Try.func23, Try.ntmps23
    go_wp2
    exact bodyPost_ret (results_ct Try.results23 _ _ w.heap.size 35 #[.slice none 0 0, .slice none 0 0, .int .i64 0] (0, 0) _ rfl (heap_alloc_new _ _) Try.underlying35 rfl info_rc) rfl (rnew_bad 13 (by decide) HE.out HB.out)
  · have hd : decide ((al.length : Int) < 1) = false := by simp; omega
    have hd2 : decide (512 < (al.length : Int) + (prs.length : Int)) = true := by simp; omega
    clear h h0
    go_enter Try.func23, Try.ntmps23
    go_wp2
    exact bodyPost_ret (results_ct Try.results23 _ _ w.heap.size 35 #[.slice none 0 0, .slice none 0 0, .int .i64 0] (0, 0) _ rfl (heap_alloc_new _ _) Try.underlying35 rfl info_rc) rfl (rnew_bad 13 (by decide) HE.out HB.out)
/-- What stands while the alphabet is taken: k of its bytes; the result's block. -/
def RSt (w : World) (gc : Nat) (T : List (List Int)) (ps : List Pr) (n : Int) (wr : World) : Prop :=
  (∃ vt vp, RefAt wr w.heap.size gc vt vp T ps n) ∧ wr.heap[w.heap.size]? = some (.cells #[.slice none 0 0, .slice none 0 0, .int .i64 0] 35 (0, 0)) ∧ gc ≠ w.heap.size ∧ Below w.heap.size w wr
theorem RSt.drawn {w wr w1 : World} {gc : Nat} {T : List (List Int)} {ps : List Pr} {n : Int} (h : RSt w gc T ps n wr) (hd : Drawn0 wr w1) : RSt w gc T ps n w1 := by
  obtain ⟨⟨vt, vp, h1⟩, h2, h3, h4⟩ := h
  obtain ⟨m, rfl⟩ := hd
  exact ⟨⟨vt, vp, h1.move (fun _ _ _ => rfl)⟩, h2, h3, pw_below_drewN h4 m⟩
theorem RSt.frees {w wr : World} {gc : Nat} {T : List (List Int)} {ps : List Pr} {n : Int} (h : RSt w gc T ps n wr) : wr.frozen? ⟨w.heap.size, 0, none⟩ = false ∧ wr.frozen? ⟨w.heap.size, 1, none⟩ = false ∧ wr.frozen? ⟨w.heap.size, 2, none⟩ = false ∧
    wr.cell? ⟨w.heap.size, 0, none⟩ = some (.slice none 0 0) ∧ wr.cell? ⟨w.heap.size, 1, none⟩ = some (.slice none 0 0) ∧ wr.cell? ⟨w.heap.size, 2, none⟩ = some (.int .i64 0) :=
  ⟨blk_frozen h.2.1 0, blk_frozen h.2.1 1, blk_frozen h.2.1 2, blk_cell h.2.1 0, blk_cell h.2.1 1, blk_cell h.2.1 2⟩
theorem RSt.below {w wr w1 : World} {gc : Nat} {T : List (List Int)} {ps : List Pr} {n : Int} (h : RSt w gc T ps n wr) (hb : Below wr.heap.size wr w1) : RSt w gc T ps n w1 := by
  obtain ⟨⟨vt, vp, h1⟩, h2, h3, h4⟩ := h
  exact ⟨⟨vt, vp, h1.below hb⟩, (hb.block _ (blk_lt h2)).trans h2, h3, below_step h4 hb⟩
def RLoop (w : World) (gc : Nat) (al : List Int) (prs : List Pr) (k : Nat) (wr : World) : Prop :=
  ∃ T : List (List Int), RSt w gc T (prs.take k) al.length wr ∧ runP prs (singles al) [] = runP (prs.drop k) T (prs.take k) ∧ T.length = al.length + (prs.take k).length ∧ (∀ t ∈ T, t.length ≤ 16)
set_option maxHeartbeats 16000000 in
set_option maxRecDepth 100000 in
theorem rnew_rest (A : Option Addr) (c : Nat) (al : List Int) (A2 : Option Addr) (c2 : Nat) (prs : List Pr) (w : World) (hC : Kd.C (Kd.int .u8) w A al.length al) (hC2 : Kd.C kP w A2 prs.length prs) (hby : ∀ x ∈ al, 0 ≤ x ∧ x < 256) (h0 : ¬ al.length = 0) (h1 : ¬ 512 < al.length + prs.length) :
    Calls Try.prog 23 #[.slice A al.length c, .slice A2 prs.length c2] w (RNewEnd w al prs) := by
  have HE0 : Aside0 (newE al prs = if ¬ al.Nodup then 15 else (runP prs (singles al) []).1) := ⟨if_neg (by omega)⟩
  have hd : decide ((al.length : Int) < 1) = false := by simp; omega
  have hd2 : decide (512 < (al.length : Int) + (prs.length : Int)) = false := by simp; omega
  have HC := Aside0.mk hC
  have HC2 := Aside0.mk hC2
  have HBy := Aside0.mk hby
  have hm1 : al.length ≤ 512 := by omega
  have hm2 : prs.length ≤ 512 := by omega
  have HS : Aside0 (al.length + prs.length ≤ 512) := ⟨by omega⟩
  clear hC hC2 hby h0 h1
  go_enter Try.func23, Try.ntmps23
  go_wp2
  have HR0 : Aside0 (RSt w (w.heap.size + 1) (singles (al.take 0)) [] al.length ((w.alloc (.cells #[.slice none 0 0, .slice none 0 0, .int .i64 0] 35)).alloc (.cells #[.slice none 0 0, .slice none 0 0, .int .i64 (al.length : Int)] 35)) ∧ (al.take 0).Nodup) := ⟨by
    have hn := heap_alloc_new (w.alloc (.cells #[.slice none 0 0, .slice none 0 0, .int .i64 0] 35)) (.cells #[.slice none 0 0, .slice none 0 0, .int .i64 (al.length : Int)] 35)
    rw [World.size_alloc] at hn
    have ho := heap_alloc_new w (.cells #[.slice none 0 0, .slice none 0 0, .int .i64 0] 35)
    refine ⟨⟨⟨_, _, Nat.le_succ _, hn, Kd.R_nil _ _ _ _ _, Kd.R_nil _ _ _ _ _⟩, ?_, by omega, bel_alloc (bel_alloc (Below.refl _ _) _) _⟩, by simp⟩
    exact ((bel_alloc (Below.refl _ (w.alloc (.cells #[.slice none 0 0, .slice none 0 0, .int .i64 0] 35))) _).block _ (blk_lt ho)).trans ho⟩
  generalize (w.alloc (.cells #[.slice none 0 0, .slice none 0 0, .int .i64 0] 35)).alloc (.cells #[.slice none 0 0, .slice none 0 0, .int .i64 (al.length : Int)] 35) = w1 at *
  obtain ⟨gc, hgc⟩ : ∃ gc, gc = w.heap.size + 1 := ⟨_, rfl⟩
  rw [← hgc] at HR0 ⊢
  clear hgc
  go_loopw [7] (fun i wr => ∃ k : Nat, k ≤ al.length ∧ i = .int .i64 (k : Int) ∧ Aside0 (RSt w gc (singles (al.take k)) [] al.length wr ∧ (al.take k).Nodup)) (fun i _ => al.length - (intOf i).toNat)
  case atStart => exact ⟨0, Nat.zero_le _, rfl, HR0⟩
  case round =>
    clear HR0
    obtain ⟨k, hk, rfl, HO⟩ := hrel
    by_cases hlt : k < al.length
    · have HNs := Aside0.mk (nodup_snoc hlt)
      have HSt := Aside0.mk (singles_take al k hlt)
      have HX : Aside0 (al.getD k 0 ∈ al) := ⟨by
        rw [List.getD_eq_getElem?_getD, List.getElem?_eq_getElem hlt]; exact List.getElem_mem hlt⟩
      obtain ⟨m, hm⟩ : ∃ m : Nat, al.getD k 0 = (m : Int) := ⟨(al.getD k 0).toNat, by have := HBy.out _ HX.out; omega⟩
      have HM := Aside0.mk hm
      rw [hm] at HNs HSt
      clear hm
      generalize wr = wo at *
      go_wp2_with (fail)
      go_loopw [8] (fun i wr => ∃ j : Nat, j ≤ k ∧ i = .int .i64 (j : Int) ∧ Aside0 (RSt w gc (singles (al.take k)) [] al.length wr ∧ (m : Int) ∉ al.take j)) (fun i _ => k - (intOf i).toNat)
      case atStart => exact ⟨0, Nat.zero_le _, rfl, ⟨⟨HO.out.1, by simp⟩⟩⟩
      case round =>
        obtain ⟨j, hj, rfl, HI⟩ := hrel
        have HBw := Aside0.mk HI.out.1.2.2.2
        obtain ⟨ad, rfl, hck⟩ := int_at' HC.out HBw.out k hlt
        rw [HM.out] at hck
        by_cases hjk : j < k
        · have hjl : j < al.length := by omega
          obtain ⟨ad', e, hcj⟩ := int_at' HC.out HBw.out j hjl
          cases e
          have HTj : Aside0 (al.take (j + 1) = al.take j ++ [al.getD j 0]) := ⟨by
            rw [List.take_succ_eq_append_getElem hjl, List.getD_eq_getElem?_getD, List.getElem?_eq_getElem hjl]; rfl⟩
          have HJm : Aside0 (al.getD j 0 ∈ al.take k) := ⟨by
            rw [List.getD_eq_getElem?_getD, List.getElem?_eq_getElem hjl]
            exact List.mem_take_iff_getElem.2 ⟨j, by omega, rfl⟩⟩
          obtain ⟨x, hx⟩ : ∃ x, x = al.getD j 0 := ⟨_, rfl⟩
          rw [← hx] at hcj HTj HJm
          clear hx
          have hj0 : (0 : Int) ≤ (j : Int) := Int.natCast_nonneg _
          have hk0 : (0 : Int) ≤ (k : Int) := Int.natCast_nonneg _
          have hjI : (j : Int) < (al.length : Int) := by omega
          have hkI : (k : Int) < (al.length : Int) := by omega
          by_cases hxm : x = (m : Int)
          · have hxd : (x == (m : Int)) = true := by simpa using hxm
            have HE : Aside0 (newE al prs = 15) := ⟨by rw [HE0.out, if_pos (nodup_of_take (k := k + 1) (fun h => (HNs.out.1 h).2 (by rw [← hxm]; exact HJm.out)))]⟩
            clear hxm
            go_wp2_with (fail)
            go_quiet (fail)
            have HRq := Aside0.mk (HI.out.1.drawn ⟨nq, rfl⟩)
            obtain ⟨q1, q2, q3, q4, q5, q6⟩ := HRq.out.frees
            clear hck hcj
            generalize wr.drewN nq = wq at *
            go_wp2
            exact bodyPost_ret (results_ct Try.results23 _ _ w.heap.size 35 #[.slice none 0 0, .slice none 0 0, .int .i64 0] (0, 0) _ rfl (blk_set (blk_set (blk_set HRq.out.2.1 0 _) 1 _) 2 _) Try.underlying35 rfl info_rc) rfl (rnew_bad 15 (by decide) HE.out (((HRq.out.2.2.2.setCell (Nat.le_refl _) _).setCell (Nat.le_refl _) _).setCell (Nat.le_refl _) _))
          · have hxd : (x == (m : Int)) = false := by simpa using hxm
            have HI2 : Aside0 ((m : Int) ∉ al.take (j + 1)) := ⟨by
              rw [HTj.out]
              intro h
              rcases List.mem_append.1 h with h | h
              · exact HI.out.2 h
              · exact hxm (List.mem_singleton.1 h).symm⟩
            clear hxm
            go_wp2_with (fail)
            go_quiet (fail)
            go_wp2
            go_roundw
            case rel => exact ⟨j + 1, by omega, by go_num, ⟨⟨HI.out.1.drawn ⟨nq, rfl⟩, HI2.out⟩⟩⟩
            case measure => simp [intOf]; omega
        · obtain rfl : j = k := by omega
          obtain ⟨⟨vt, vp, hRef⟩, hRes, hNe, hBl⟩ := HI.out.1
          have HRf := Aside0.mk hRef
          have HRs := Aside0.mk hRes
          have HNk : Aside0 ((al.take (j + 1)).Nodup) := ⟨HNs.out.2 ⟨HO.out.2, HI.out.2⟩⟩
          have HNe := Aside0.mk hNe
          obtain ⟨At, ct, rfl⟩ := Kd.R_slice hRef.2.2.1
          have hk0 : (0 : Int) ≤ (j : Int) := Int.natCast_nonneg _
          have hkI : (j : Int) < (al.length : Int) := by omega
          have HTl : Aside0 ((singles (al.take j)).length = j) := ⟨by simp [singles]; omega⟩
          have f0 : wr.drew.cell? ⟨gc, 0, none⟩ = some (.slice At (singles (al.take j)).length ct) := blk_cell hRef.2.1 0
          have f1 : wr.drew.cell? (ad.add j) = some (.int .u8 (m : Int)) := hck
          have f6 : wr.drew.frozen? ⟨gc, 0, none⟩ = false := blk_frozen hRef.2.1 0
          have HR6 : Aside0 (kS.R 9 (wr.drew.alloc (.cells #[.int .u8 (m : Int)] 5)) w.heap.size (fun _ => True) (.slice At (singles (al.take j)).length ct) (singles (al.take j))) := ⟨Kd.R_alloc (Kd.R_drewN hRef.2.2.1 1) _⟩
          have HRf6 : Aside0 (RefAt (wr.drew.alloc (.cells #[.int .u8 (m : Int)] 5)) w.heap.size gc (.slice At (singles (al.take j)).length ct) vp (singles (al.take j)) [] al.length) := ⟨(hRef.drawn ⟨1, rfl⟩).below (bel_alloc (Below.refl _ _) _)⟩
          have HRs6 : Aside0 ((wr.drew.alloc (.cells #[.int .u8 (m : Int)] 5)).heap[w.heap.size]? = _) := ⟨((bel_alloc (Below.refl _ wr.drew) _).block _ (blk_lt hRes)).trans hRes⟩
          have HB6 : Aside0 (Below w.heap.size w (wr.drew.alloc (.cells #[.int .u8 (m : Int)] 5))) := ⟨bel_alloc (below_drew hBl) _⟩
          have hcv : (convert 22 9 (.slice (some ⟨wr.heap.size, 0, none⟩) 1 1)).run Try.prog (wr.drew.alloc (.cells #[.int .u8 (m : Int)] 5)) = .ok (.string (strOfNums [(m : Int)])) (wr.drew.alloc (.cells #[.int .u8 (m : Int)] 5)) :=
            Kd.C_string Try.underlying22 Try.underlying5 Try.underlying9 (C_int (reads_lit wr.drew .u8 5 [(m : Int)] (show 1 ≤ 9223372036854775807 by decide)))
          have hcv2 : (convert 22 9 (.slice (some ⟨wr.heap.size, 0, none⟩) 1 1)).run Try.prog (wr.alloc (.cells #[.int .u8 (m : Int)] 5)).drew = .ok (.string (strOfNums [(m : Int)])) (wr.alloc (.cells #[.int .u8 (m : Int)] 5)).drew := hcv
          clear hcv
          have HLn : Aside0 (((singles (al.take j)).length + 1) * 16 ≤ 140737488355328) := ⟨by have := HTl.out; omega⟩
          clear hRef hRes hNe hBl
          go_wp2_with (fail)
          refine start_ (n := 12) (S := fun w' => w'.cell? ⟨gc, 0, none⟩ = some (.slice At (singles (al.take j)).length ct) ∧ w'.cell? (ad.add j) = some (.int .u8 (m : Int))) (ds := [9, 11]) #[false, false, false, false, false, false, false, false, false, false, false, false] (by kernel_rfl) rfl rfl ⟨f0, f1⟩ (fun hHeld => ?_)
          refine pure_ (i := 0) (N := some 49) (v := ?_) (a' := ?_) #[true, false, false, false, false, false, false, false, false, false, false, false] rfl rfl (by kernel_rfl) (fun _ _ _ h => h) (Or.inl ⟨by rfl, ?_⟩) ?_ ?_
          rotate_left
          · intro w'
            go_simp
            with_reducible rfl
          rotate_left
          · simp only [Act.put, List.setIfInBounds_toArray, List.set_cons_zero, List.set_cons_succ]
            rfl
          refine pure_ (i := 2) (N := some 51) (v := ?_) (a' := ?_) #[true, false, true, false, false, false, false, false, false, false, false, false] rfl rfl (by kernel_rfl) (fun _ _ _ h => h) (Or.inl ⟨by rfl, ?_⟩) ?_ ?_
          rotate_left
          · intro w'
            go_simp
            with_reducible rfl
          rotate_left
          · simp only [Act.put, List.setIfInBounds_toArray, List.set_cons_zero, List.set_cons_succ]
            rfl
          refine pure_ (i := 3) (N := some 52) (v := ?_) (a' := ?_) #[true, false, true, true, false, false, false, false, false, false, false, false] rfl rfl (by kernel_rfl) (fun _ _ _ h => h) (Or.inl ⟨by rfl, ?_⟩) ?_ ?_
          rotate_left
          · intro w'
            go_simp
            with_reducible rfl
          rotate_left
          · simp only [Act.put, List.setIfInBounds_toArray, List.set_cons_zero, List.set_cons_succ]
            rfl
          refine pure_ (i := 4) (N := some 53) (v := ?_) (a' := ?_) #[true, false, true, true, true, false, false, false, false, false, false, false] rfl rfl (by kernel_rfl) (fun _ _ _ h => h) (Or.inl ⟨by rfl, ?_⟩) ?_ ?_
          rotate_left
          · intro w'
            go_simp
            with_reducible rfl
          rotate_left
          · simp only [Act.put, List.setIfInBounds_toArray, List.set_cons_zero, List.set_cons_succ]
            rfl
          refine take_ (i := 1) (N := some 50) (v := ?_) (a' := ?_) #[true, true, true, true, true, false, false, false, false, false, false, false] rfl rfl (by kernel_rfl) (fun _ _ _ h => h) (Or.inl ⟨by rfl, ?_⟩) hHeld ?_ ?_
          rotate_left
          · rintro w' ⟨s0, s1⟩
            go_simp
            with_reducible rfl
          rotate_left
          · simp only [Act.put, List.setIfInBounds_toArray, List.set_cons_zero, List.set_cons_succ]
            rfl
          refine take_ (i := 5) (N := some 54) (v := ?_) (a' := ?_) #[true, true, true, true, true, true, false, false, false, false, false, false] rfl rfl (by kernel_rfl) (fun _ _ _ h => h) (Or.inl ⟨by rfl, ?_⟩) hHeld ?_ ?_
          rotate_left
          · rintro w' ⟨s0, s1⟩
            go_simp
            with_reducible rfl
          rotate_left
          · simp only [Act.put, List.setIfInBounds_toArray, List.set_cons_zero, List.set_cons_succ]
            rfl
          refine one_ (i := 6) (N := some 55) #[true, true, true, true, true, true, true, false, false, false, false, false] rfl rfl (by kernel_rfl) (by decide) (fun K hK => ?_)
          refine value_ (w1 := ?_) (v := ?_) (by rfl) rfl ?_ ?_
          rotate_left 2
          · go_simp
            constructor
            · rfl
            · rfl
          refine hK.out _ _ ⟨cell_keep (bel_alloc (Below.refl _ _) _) f0, cell_keep (bel_alloc (Below.refl _ _) _) f1⟩ (fun hHeld => ?_)
          clear hK K
          refine norm_ (a' := ?_) ?_ ?_
          rotate_left
          · show Act.put _ (some 55) _ = _
            simp only [Act.put, List.setIfInBounds_toArray, List.set_cons_zero, List.set_cons_succ]
            rfl
          refine one_ (i := 7) (N := some 56) #[true, true, true, true, true, true, true, true, false, false, false, false] rfl rfl (by kernel_rfl) (by decide) (fun K hK => ?_)
          refine value_ (w1 := ?_) (v := ?_) (by rfl) rfl ?_ ?_
          rotate_left 2
          · go_simp
            constructor
            · rfl
            · rfl
          refine hK.out _ _ ⟨cell_keep (bel_alloc (Below.refl _ _) _) f0, cell_keep (bel_alloc (Below.refl _ _) _) f1⟩ (fun hHeld => ?_)
          clear hK K
          refine norm_ (a' := ?_) ?_ ?_
          rotate_left
          · show Act.put _ (some 56) _ = _
            simp only [Act.put, List.setIfInBounds_toArray, List.set_cons_zero, List.set_cons_succ]
            rfl
          refine one_ (i := 8) (N := some 57) #[true, true, true, true, true, true, true, true, true, false, false, false] rfl rfl (by kernel_rfl) (by decide) (fun K hK => ?_)
          refine value_ (w1 := ?_) (v := ?_) (by rfl) rfl ?_ ?_
          rotate_left 2
          · go_simp
            constructor
            · rfl
            · rfl
          refine hK.out _ _ ⟨cell_keep (bel_alloc (bel_alloc (Below.refl _ _) _) _) f0, cell_keep (bel_alloc (bel_alloc (Below.refl _ _) _) _) f1⟩ (fun hHeld => ?_)
          clear hK K
          refine norm_ (a' := ?_) ?_ ?_
          rotate_left
          · show Act.put _ (some 57) _ = _
            simp only [Act.put, List.setIfInBounds_toArray, List.set_cons_zero, List.set_cons_succ]
            rfl
          refine last_ (i := 9) (N := some 58) #[true, true, true, true, true, true, true, true, true, true, false, false] rfl rfl (by kernel_rfl) (by decide) (fun K hK => ?_)
          refine Kd.R_append_step kS (w0 := w) (W := wr.drew.alloc (.cells #[.int .u8 (m : Int)] 5)) w.heap.size (by rfl) (.tmp 50) (.tmp 57) 32 9 (.string ⟨#[]⟩) 16 rfl Try.underlying32 info_str rfl (by decide) (by decide) (.slice At (singles (al.take j)).length ct) (singles (al.take j)) [(m : Int)] [.string (strOfNums [(m : Int)])] (fun _ => True) (fun _ => False) rfl (by rw [World.size_alloc]; rfl) rfl (fun _ h => h.elim) (fun _ _ => trivial) HR6.out HB6.out HB6.out.size HLn.out ?_
          intro v1 w2 ho hb hg hat
          obtain ⟨A1, c1, rfl⟩ := Kd.R_slice ho
          have HA := Aside0.mk hb
          have HLd := Aside0.mk (HRf6.out.laidT hg ho)
          have HRs2 := Aside0.mk (cd_kept HR6.out HRs6.out (by decide) hg)
          have h02 : w2.cell? ⟨gc, 0, none⟩ = some (.slice At (singles (al.take j)).length ct) := blk_cell HLd.out.1 0
          have f02 : w2.frozen? ⟨gc, 0, none⟩ = false := blk_frozen HLd.out.1 0
          clear ho hb hg hat
          refine hK.out _ _ ?_
          clear hK K
          refine norm_ (a' := ?_) ?_ ?_
          rotate_left
          · show Act.put _ (some 58) _ = _
            simp only [Act.put, List.setIfInBounds_toArray, List.set_cons_zero, List.set_cons_succ]
            rfl
          refine pure_ (i := 10) (N := some 59) (v := ?_) (a' := ?_) #[true, true, true, true, true, true, true, true, true, true, true, false] rfl rfl (by kernel_rfl) (fun _ _ _ h => h) (Or.inl ⟨by rfl, ?_⟩) ?_ ?_
          rotate_left
          · intro w'
            go_simp
            with_reducible rfl
          rotate_left
          · simp only [Act.put, List.setIfInBounds_toArray, List.set_cons_zero, List.set_cons_succ]
            rfl
          refine last_ (i := 11) (N := none) #[true, true, true, true, true, true, true, true, true, true, true, true] rfl rfl (by kernel_rfl) (by decide) (fun K hK => ?_)
          refine skip_ (w1 := ?_) (by rfl) rfl ?_ ?_
          rotate_left
          · go_simp
            rfl
          refine hK.out _ _ ?_
          clear hK K
          refine done_ (by kernel_rfl) ?_
          clear hHeld
          have HSt2 : Aside0 (RSt w gc (singles (al.take (j + 1))) [] al.length (w2.setCell ⟨gc, 0, none⟩ (.slice A1 ((singles (al.take j)).length + 1) c1))) := ⟨by
            have h := HLd.out.2
            rw [List.length_append, List.length_singleton] at h
            rw [HSt.out]
            exact ⟨⟨_, _, h⟩, blk_far HRs2.out (by exact fun e => HNe.out e.symm) _, HNe.out, HA.out.setCell h.1 _⟩⟩
          clear h02 f02
          go_wp2
          go_roundw
          case rel => exact ⟨j + 1, by omega, by go_num, ⟨⟨HSt2.out, HNk.out⟩⟩⟩
          case measure => simp [intOf]; omega
    · obtain rfl : k = al.length := by omega
      have HTa : Aside0 (al.take al.length = al) := ⟨List.take_of_length_le (Nat.le_refl _)⟩
      rw [HTa.out] at HO
      have HE : Aside0 (newE al prs = (runP prs (singles al) []).1) := ⟨by rw [HE0.out, if_neg (not_not_intro HO.out.2)]⟩
      have HO3 : Aside0 (RLoop w gc al prs 0 wr) := ⟨⟨singles al, HO.out.1, rfl, by simp [singles], singles_16 al⟩⟩
      clear HO HE0 HTa hlt hk
      generalize wr = wr0 at *
      go_wp2
      go_loopw [9] (fun i wr => ∃ k : Nat, k ≤ prs.length ∧ i = .int .i64 (k : Int) ∧ Aside0 (RLoop w gc al prs k wr)) (fun i _ => prs.length - (intOf i).toNat)
      case atStart => exact ⟨0, Nat.zero_le _, rfl, HO3⟩
      case round =>
        clear HO3
        obtain ⟨k, hk, rfl, HO⟩ := hrel
        obtain ⟨T, hSt, hr, hl, h16⟩ := HO.out
        clear HO
        have HSt := Aside0.mk hSt
        have HR := Aside0.mk hr
        have HL := Aside0.mk hl
        have H16 := Aside0.mk h16
        clear hSt hr hl h16
        by_cases hlt : k < prs.length
        · obtain ⟨ad2, rfl, hx, hy⟩ := pair_at (Kd.C_below HC2.out HSt.out.2.2.2) k hlt
          have HStep := Aside0.mk (runP_step prs k hlt T)
          have HTl : Aside0 ((prs.take k).length = k) := ⟨by rw [List.length_take]; omega⟩
          have HTk : Aside0 (prs.take (k + 1) = prs.take k ++ [prs.getD k (0, 0)]) := ⟨by
            rw [List.take_succ_eq_append_getElem hlt, List.getD_eq_getElem?_getD, List.getElem?_eq_getElem hlt]; rfl⟩
          obtain ⟨p, hp⟩ : ∃ p, p = prs.getD k (0, 0) := ⟨_, rfl⟩
          rw [← hp] at hx hy HStep HTk
          clear hp
          obtain ⟨x, y⟩ := p
          have hTb : T.length ≤ 1000 := by have := HL.out; have := HTl.out; have := HS.out; omega
          have HBa : Aside0 (addE T (prs.take k) (x, y) ≠ 0 → newE al prs = addE T (prs.take k) (x, y)) := ⟨fun h => by rw [HE.out, HR.out, HStep.out, if_neg h]⟩
          have HSp : Aside0 (RSt w gc T (prs.take k) al.length (wr.alloc (.cells #[.int .i64 x, .int .i64 y] 50))) := ⟨HSt.out.below (bel_alloc (Below.refl _ _) _)⟩
          have hpb : (wr.alloc (.cells #[.int .i64 x, .int .i64 y] 50)).heap[wr.heap.size]? = some (.cells #[.int .i64 x, .int .i64 y] 50 (0, 0)) := heap_alloc_new _ _
          have HPb := Aside0.mk hpb
          clear hpb
          obtain ⟨⟨vt, vp, hRef⟩, hRes, hNe, hBl⟩ := HSp.out
          obtain ⟨At, ct, rfl, hct, hCt⟩ := Kd.R_reads hRef.2.2.1
          have hcg : (wr.alloc (.cells #[.int .i64 x, .int .i64 y] 50)).cell? ⟨gc, 0, none⟩ = some (.slice At T.length ct) := blk_cell hRef.2.1 0
          obtain ⟨q1, q2, q3, q4, q5, q6⟩ := HSp.out.frees
          have hTlI : (T.length : Int) ≤ 1000 := by omega
          have HCt := Aside0.mk hCt
          have HRf := Aside0.mk hRef
          clear hRef hRes hNe hBl hct hCt
          by_cases hx0 : x < 0
          · have hd1 : decide (x < 0) = true := by simpa using hx0
            have HE1 : Aside0 (newE al prs = 10) := ⟨by
              have e : addE T (prs.take k) (x, y) = 10 := if_pos (by simp [isTok]; omega)
              rw [HBa.out (by rw [e]; decide), e]⟩
            clear hx0
            go_wp2
            exact bodyPost_ret (results_ct Try.results23 _ _ w.heap.size 35 #[.slice none 0 0, .slice none 0 0, .int .i64 0] (0, 0) _ rfl (blk_set (blk_set (blk_set HSp.out.2.1 0 _) 1 _) 2 _) Try.underlying35 rfl info_rc) rfl (rnew_bad 10 (by decide) HE1.out (((HSp.out.2.2.2.setCell (Nat.le_refl _) _).setCell (Nat.le_refl _) _).setCell (Nat.le_refl _) _))
          · have hd1 : decide (x < 0) = false := by simpa using hx0
            by_cases hx1 : (T.length : Int) ≤ x
            · have hd3 : decide ((T.length : Int) ≤ x) = true := by simpa using hx1
              have HE1 : Aside0 (newE al prs = 10) := ⟨by
                have e : addE T (prs.take k) (x, y) = 10 := if_pos (by simp [isTok]; omega)
                rw [HBa.out (by rw [e]; decide), e]⟩
              clear hx0 hx1
              go_wp2
              exact bodyPost_ret (results_ct Try.results23 _ _ w.heap.size 35 #[.slice none 0 0, .slice none 0 0, .int .i64 0] (0, 0) _ rfl (blk_set (blk_set (blk_set HSp.out.2.1 0 _) 1 _) 2 _) Try.underlying35 rfl info_rc) rfl (rnew_bad 10 (by decide) HE1.out (((HSp.out.2.2.2.setCell (Nat.le_refl _) _).setCell (Nat.le_refl _) _).setCell (Nat.le_refl _) _))
            · have hd3 : decide ((T.length : Int) ≤ x) = false := by simpa using hx1
              by_cases hy0 : y < 0
              · have hd4 : decide (y < 0) = true := by simpa using hy0
                have HE1 : Aside0 (newE al prs = 10) := ⟨by
                  have e : addE T (prs.take k) (x, y) = 10 := if_pos (by simp [isTok]; omega)
                  rw [HBa.out (by rw [e]; decide), e]⟩
                clear hx0 hx1 hy0
                go_wp2
                exact bodyPost_ret (results_ct Try.results23 _ _ w.heap.size 35 #[.slice none 0 0, .slice none 0 0, .int .i64 0] (0, 0) _ rfl (blk_set (blk_set (blk_set HSp.out.2.1 0 _) 1 _) 2 _) Try.underlying35 rfl info_rc) rfl (rnew_bad 10 (by decide) HE1.out (((HSp.out.2.2.2.setCell (Nat.le_refl _) _).setCell (Nat.le_refl _) _).setCell (Nat.le_refl _) _))
              · have hd4 : decide (y < 0) = false := by simpa using hy0
                by_cases hy1 : (T.length : Int) ≤ y
                · have hd5 : decide ((T.length : Int) ≤ y) = true := by simpa using hy1
                  have HE1 : Aside0 (newE al prs = 10) := ⟨by
                    have e : addE T (prs.take k) (x, y) = 10 := if_pos (by simp [isTok]; omega)
                    rw [HBa.out (by rw [e]; decide), e]⟩
                  clear hx0 hx1 hy0 hy1
                  go_wp2
                  exact bodyPost_ret (results_ct Try.results23 _ _ w.heap.size 35 #[.slice none 0 0, .slice none 0 0, .int .i64 0] (0, 0) _ rfl (blk_set (blk_set (blk_set HSp.out.2.1 0 _) 1 _) 2 _) Try.underlying35 rfl info_rc) rfl (rnew_bad 10 (by decide) HE1.out (((HSp.out.2.2.2.setCell (Nat.le_refl _) _).setCell (Nat.le_refl _) _).setCell (Nat.le_refl _) _))
                · have hd5 : decide ((T.length : Int) ≤ y) = false := by simpa using hy1
                  obtain ⟨xm, rfl⟩ : ∃ q : Nat, x = q := ⟨x.toNat, by omega⟩
                  obtain ⟨ym, rfl⟩ : ∃ q : Nat, y = q := ⟨y.toNat, by omega⟩
                  have hxl : xm < T.length := by omega
                  have hyl : ym < T.length := by omega
                  have HA0 : Aside0 (addE T (prs.take k) ((xm : Int), (ym : Int)) = if (look (prs.take k) ((xm : Int), (ym : Int))).isSome = true then 15 else if 16 < (catT T ((xm : Int), (ym : Int))).length then 20 else 0) := ⟨if_neg (by simp [isTok]; omega)⟩
                  clear hx0 hx1 hy0 hy1
                  go_wp2_with (fail)
                  generalize (wr.alloc (.cells #[.int .i64 (xm : Int), .int .i64 (ym : Int)] 50)) = wp at *
                  clear q1 q2 q3 q4 q5 q6 hcg hx hy
                  obtain ⟨gp, hgp⟩ : ∃ gp, gp = wr.heap.size := ⟨_, rfl⟩
                  rw [← hgp] at HPb ⊢
                  clear hgp
                  go_loopw [11] (fun i wr => ∃ j : Nat, j ≤ k ∧ i = .int .i64 (j : Int) ∧ Aside0 (Drawn0 wp wr ∧ ((xm : Int), (ym : Int)) ∉ prs.take j)) (fun i _ => k - (intOf i).toNat)
                  case atStart => exact ⟨0, Nat.zero_le _, rfl, ⟨⟨⟨0, rfl⟩, by simp⟩⟩⟩
                  case round =>
                    obtain ⟨j, hj, rfl, HI⟩ := hrel
                    have HSr := Aside0.mk (HSp.out.drawn HI.out.1)
                    by_cases hjk : j < k
                    · have hjl : j < prs.length := by omega
                      obtain ⟨ad3, e, hja, hjb⟩ := pair_at (Kd.C_below HC2.out HSr.out.2.2.2) j hjl
                      cases e
                      have hpg : wr.heap[gp]? = some (.cells #[.int .i64 (xm : Int), .int .i64 (ym : Int)] 50 (0, 0)) := by obtain ⟨q, hq⟩ := HI.out.1.out; rw [hq]; exact HPb.out
                      have hg0 : wr.cell? ⟨gp, 0, none⟩ = some (.int .i64 (xm : Int)) := blk_cell hpg 0
                      have hg1 : wr.cell? ⟨gp, 1, none⟩ = some (.int .i64 (ym : Int)) := blk_cell hpg 1
                      have HTj : Aside0 (prs.take (j + 1) = prs.take j ++ [prs.getD j (0, 0)]) := ⟨by
                        rw [List.take_succ_eq_append_getElem hjl, List.getD_eq_getElem?_getD, List.getElem?_eq_getElem hjl]; rfl⟩
                      have HJm : Aside0 (prs.getD j (0, 0) ∈ prs.take k) := ⟨by
                        rw [List.getD_eq_getElem?_getD, List.getElem?_eq_getElem hjl]
                        exact List.mem_take_iff_getElem.2 ⟨j, by omega, rfl⟩⟩
                      obtain ⟨p2, hp2⟩ : ∃ p2, p2 = prs.getD j (0, 0) := ⟨_, rfl⟩
                      rw [← hp2] at hja hjb HTj HJm
                      clear hp2 hpg
                      obtain ⟨a, b⟩ := p2
                      have hj0 : (0 : Int) ≤ (j : Int) := Int.natCast_nonneg _
                      have hjI : (j : Int) < (prs.length : Int) := by omega
                      by_cases hab : a = (xm : Int) ∧ b = (ym : Int)
                      · have HE1 : Aside0 (newE al prs = 15) := ⟨by
                          have e : addE T (prs.take k) ((xm : Int), (ym : Int)) = 15 := by
                            rw [HA0.out, if_pos]
                            cases hh : look (prs.take k) ((xm : Int), (ym : Int)) with
                            | some q => rfl
                            | none => exact absurd (by rw [← hab.1, ← hab.2]; exact HJm.out) (look_none.1 hh)
                          rw [HBa.out (by rw [e]; decide), e]⟩
                        have heq : ∀ W : World, (binOp .eql 50 (.agg #[.int .i64 a, .int .i64 b]) (.agg #[.int .i64 (xm : Int), .int .i64 (ym : Int)])).run Try.prog W = .ok (.bool true) W := fun W => by
                          have h := run_eql_nums (P := Try.prog) W 50 3 2 .i64 Try.underlying50 Try.underlying3 (fun w => run_size info_int w) [a, b] [(xm : Int), (ym : Int)] rfl rfl
                          rw [show ([a, b] == [(xm : Int), (ym : Int)]) = true by simp [hab.1, hab.2]] at h
                          exact h
                        clear hab
                        go_wp2_with (fail)
                        go_quiet (fail)
                        have HRq := Aside0.mk (HSr.out.drawn ⟨nq, rfl⟩)
                        obtain ⟨q1, q2, q3, q4, q5, q6⟩ := HRq.out.frees
                        clear hja hjb hg0 hg1 heq
                        generalize wr.drewN nq = wq at *
                        go_wp2
                        exact bodyPost_ret (results_ct Try.results23 _ _ w.heap.size 35 #[.slice none 0 0, .slice none 0 0, .int .i64 0] (0, 0) _ rfl (blk_set (blk_set (blk_set HRq.out.2.1 0 _) 1 _) 2 _) Try.underlying35 rfl info_rc) rfl (rnew_bad 15 (by decide) HE1.out (((HRq.out.2.2.2.setCell (Nat.le_refl _) _).setCell (Nat.le_refl _) _).setCell (Nat.le_refl _) _))
                      · have HI2 : Aside0 (((xm : Int), (ym : Int)) ∉ prs.take (j + 1)) := ⟨by
                          rw [HTj.out]
                          intro h
                          rcases List.mem_append.1 h with h | h
                          · exact HI.out.2 h
                          · have h2 := List.mem_singleton.1 h
                            simp only [Prod.mk.injEq] at h2
                            exact hab ⟨h2.1.symm, h2.2.symm⟩⟩
                        have heq : ∀ W : World, (binOp .eql 50 (.agg #[.int .i64 a, .int .i64 b]) (.agg #[.int .i64 (xm : Int), .int .i64 (ym : Int)])).run Try.prog W = .ok (.bool false) W := fun W => by
                          have h := run_eql_nums (P := Try.prog) W 50 3 2 .i64 Try.underlying50 Try.underlying3 (fun w => run_size info_int w) [a, b] [(xm : Int), (ym : Int)] rfl rfl
                          rw [show ([a, b] == [(xm : Int), (ym : Int)]) = false by simpa using hab] at h
                          exact h
                        clear hab
                        go_wp2_with (fail)
                        go_quiet (fail)
                        go_wp2
                        go_roundw
                        case rel => exact ⟨j + 1, by omega, by go_num, ⟨⟨Drawn0.trans_ HI.out.1 ⟨nq, rfl⟩, HI2.out⟩⟩⟩
                        case measure => simp [intOf]; omega
                    · obtain rfl : j = k := by omega
                      have HA1 : Aside0 (addE T (prs.take j) ((xm : Int), (ym : Int)) = if 16 < (catT T ((xm : Int), (ym : Int))).length then 20 else 0) := ⟨by
                        rw [HA0.out, look_none.2 HI.out.2]; rfl⟩
                      have hRefR := HRf.out.drawn HI.out.1
                      have HCr := C_drawn HCt.out HI.out.1
                      have hpg : wr.heap[gp]? = some (.cells #[.int .i64 (xm : Int), .int .i64 (ym : Int)] 50 (0, 0)) := by obtain ⟨q, hq⟩ := HI.out.1.out; rw [hq]; exact HPb.out
                      have hg0 : wr.cell? ⟨gp, 0, none⟩ = some (.int .i64 (xm : Int)) := blk_cell hpg 0
                      have hg1 : wr.cell? ⟨gp, 1, none⟩ = some (.int .i64 (ym : Int)) := blk_cell hpg 1
                      have hcg : wr.cell? ⟨gc, 0, none⟩ = some (.slice At T.length ct) := blk_cell hRefR.2.1 0
                      obtain ⟨adt, rfl, hsx⟩ := str_at HCr xm hxl
                      obtain ⟨adt', e, hsy⟩ := str_at HCr ym hyl
                      cases e
                      have HPg := Aside0.mk hpg
                      have HRfR := Aside0.mk hRefR
                      have HXl : Aside0 ((T.getD xm []).length ≤ 16) := ⟨by rw [List.getD_eq_getElem?_getD, List.getElem?_eq_getElem hxl]; exact H16.out _ (List.getElem_mem hxl)⟩
                      have HYl : Aside0 ((T.getD ym []).length ≤ 16) := ⟨by rw [List.getD_eq_getElem?_getD, List.getElem?_eq_getElem hyl]; exact H16.out _ (List.getElem_mem hyl)⟩
                      have HCe : Aside0 (catT T ((xm : Int), (ym : Int)) = T.getD xm [] ++ T.getD ym []) := ⟨rfl⟩
                      have hx0 : (0 : Int) ≤ (xm : Int) := Int.natCast_nonneg _
                      have hy0 : (0 : Int) ≤ (ym : Int) := Int.natCast_nonneg _
                      have hxI : (xm : Int) < (T.length : Int) := by omega
                      have hyI : (ym : Int) < (T.length : Int) := by omega
                      have hcat := str_append (T.getD xm []) (T.getD ym [])
                      clear hpg hRefR HCr
                      generalize T.getD xm [] = tx at *
                      generalize T.getD ym [] = ty at *
                      have hz1 : ((strOfNums tx).size : Int) ≤ 8388608 := by rw [strOfNums_size]; have := HXl.out; omega
                      have hz2 : ((strOfNums ty).size : Int) ≤ 8388608 := by rw [strOfNums_size]; have := HYl.out; omega
                      go_wp2_with (fail)
                      go_quiet (fail)
                      have HSq := Aside0.mk (HSr.out.drawn ⟨nq, rfl⟩)
                      have HRq := Aside0.mk (HRfR.out.drawn ⟨nq, rfl⟩)
                      have HPq : Aside0 ((wr.drewN nq).heap[gp]? = some (.cells #[.int .i64 (xm : Int), .int .i64 (ym : Int)] 50 (0, 0))) := ⟨HPg.out⟩
                      clear hcg hg0 hg1 hsx hsy hcat hz1 hz2 hx0 hy0 hxI hyI HSr HRfR HPg
                      generalize wr.drewN nq = wq at *
                      have HCl : Aside0 ((tx ++ ty).length ≤ 32) := ⟨by rw [List.length_append]; have := HXl.out; have := HYl.out; omega⟩
                      rw [HCe.out] at HA1
                      obtain ⟨cx, hcx⟩ : ∃ cx, cx = tx ++ ty := ⟨_, rfl⟩
                      have HCx := Aside0.mk hcx
                      rw [← hcx] at HCl HA1 HCe ⊢
                      have hcl : cx.length ≤ 32 := HCl.out
                      have hsz := strOfNums_size cx
                      clear hcx
                      by_cases hlong : 16 < cx.length
                      · have HE1 : Aside0 (newE al prs = 20) := ⟨by
                          have e : addE T (prs.take j) ((xm : Int), (ym : Int)) = 20 := by rw [HA1.out, if_pos hlong]
                          rw [HBa.out (by rw [e]; decide), e]⟩
                        have hdl : decide (16 < (cx.length : Int)) = true := by simp; omega
                        obtain ⟨q1, q2, q3, q4, q5, q6⟩ := HSq.out.frees
                        clear hlong
                        go_wp2
                        exact bodyPost_ret (results_ct Try.results23 _ _ w.heap.size 35 #[.slice none 0 0, .slice none 0 0, .int .i64 0] (0, 0) _ rfl (blk_set (blk_set (blk_set HSq.out.2.1 0 _) 1 _) 2 _) Try.underlying35 rfl info_rc) rfl (rnew_bad 20 (by decide) HE1.out (((HSq.out.2.2.2.setCell (Nat.le_refl _) _).setCell (Nat.le_refl _) _).setCell (Nat.le_refl _) _))
                      · have HAz : Aside0 (addE T (prs.take j) ((xm : Int), (ym : Int)) = 0) := ⟨by rw [HA1.out, if_neg hlong]⟩
                        have hdl : decide (16 < (cx.length : Int)) = false := by simp; omega
                        obtain ⟨Ap, cp, hvp⟩ := Kd.R_slice HRq.out.2.2.2
                        rw [HTl.out] at hvp
                        subst hvp
                        have h00 : wq.cell? ⟨gc, 0, none⟩ = some (.slice (some adt) T.length ct) := blk_cell HRq.out.2.1 0
                        have HLn : Aside0 ((T.length + 1) * 16 ≤ 140737488355328) := ⟨by omega⟩
                        have HLn2 : Aside0 (((prs.take j).length + 1) * 16 ≤ 140737488355328) := ⟨by have := HTl.out; omega⟩
                        have HGp : Aside0 (gp ≠ gc) := ⟨fun e => by
                          have h := HRq.out.2.1
                          rw [← e, HPq.out] at h
                          injection h with h
                          injection h with _ h
                          exact absurd h (by decide)⟩
                        clear hlong
                        go_wp2_with (first
                          | (at_builtin; refine Kd.R_append kS (w0 := w) (W := wq) w.heap.size rfl (.tmp 125) (.tmp 127) 32 9 (.string ⟨#[]⟩) 16 rfl Try.underlying32 info_str rfl (by decide) (by decide) (.slice (some adt) T.length ct) T cx [.string (strOfNums cx)] (fun _ => True) (fun _ => False) rfl rfl rfl (fun _ h => h.elim) (fun _ _ => trivial) HRq.out.2.2.1 HSq.out.2.2.2 HSq.out.2.2.2.size HLn.out ?_; intro v1 w2 ho hb hg hat; obtain ⟨A1, c1, rfl⟩ := Kd.R_slice ho; have HB2 := Aside0.mk hb; have HLd := Aside0.mk (HRq.out.laidT hg ho); have HRs2 := Aside0.mk (cd_kept HRq.out.2.2.1 HSq.out.2.1 (by decide) hg); have HP2 := Aside0.mk (blk_grown HPq.out hg (Kd.R_ne HRq.out.2.2.1 HPq.out (by decide))); have h02 : w2.cell? ⟨gc, 0, none⟩ = some (.slice (some adt) T.length ct) := blk_cell HLd.out.1 0; have f02 : w2.frozen? ⟨gc, 0, none⟩ = false := blk_frozen HLd.out.1 0; have HRf3 : Aside0 (RefAt (w2.setCell ⟨gc, 0, none⟩ (.slice A1 (T.length + 1) c1)) w.heap.size gc (.slice A1 (T.length + 1) c1) (.slice Ap j cp) (T ++ [cx]) (prs.take j) al.length) := ⟨by have h := HLd.out.2; rwa [List.length_append, List.length_singleton] at h⟩; have HP3 : Aside0 ((w2.setCell ⟨gc, 0, none⟩ (.slice A1 (T.length + 1) c1)).heap[gp]? = _) := ⟨blk_far HP2.out HGp.out _⟩; have HRs3 : Aside0 ((w2.setCell ⟨gc, 0, none⟩ (.slice A1 (T.length + 1) c1)).heap[w.heap.size]? = _) := ⟨blk_far HRs2.out (by exact fun e => HSq.out.2.2.1 e.symm) _⟩; have HB3 : Aside0 (Below w.heap.size w (w2.setCell ⟨gc, 0, none⟩ (.slice A1 (T.length + 1) c1))) := ⟨HB2.out.setCell HRf3.out.1 _⟩; have h13 : (w2.setCell ⟨gc, 0, none⟩ (.slice A1 (T.length + 1) c1)).cell? ⟨gc, 1, none⟩ = some (.slice Ap j cp) := blk_cell HRf3.out.2.1 1; have hp3 : (w2.setCell ⟨gc, 0, none⟩ (.slice A1 (T.length + 1) c1)).cell? ⟨gp, 0, none⟩ = some (.int .i64 (xm : Int)) := blk_cell HP3.out 0; have hp4 : (w2.setCell ⟨gc, 0, none⟩ (.slice A1 (T.length + 1) c1)).cell? ⟨gp, 1, none⟩ = some (.int .i64 (ym : Int)) := blk_cell HP3.out 1; have HSz3 : Aside0 ((w2.setCell ⟨gc, 0, none⟩ (.slice A1 (T.length + 1) c1)).heap.size = w2.heap.size) := ⟨World.size_setCell _ _ _⟩; clear ho hb hg hat)
                          | (at_builtin; refine Kd.R_append kP (w0 := w) (W := (w2.setCell ⟨gc, 0, none⟩ (.slice A1 (T.length + 1) c1))) w.heap.size rfl (.tmp 131) (.tmp 133) 33 50 (.agg #[.int .i64 0, .int .i64 0]) 16 rfl Try.underlying33 info_p2 rfl (by decide) (by decide) (.slice Ap j cp) (prs.take j) ((xm : Int), (ym : Int)) [.int .i64 (xm : Int), .int .i64 (ym : Int)] (fun _ => True) (fun _ => False) rfl (by rw [HSz3.out]; rfl) ⟨[.int .i64 (xm : Int)], [.int .i64 (ym : Int)], rfl, rfl, rfl⟩ (fun _ h => h.elim) (fun _ _ => trivial) HRf3.out.2.2.2 HB3.out HB3.out.size HLn2.out ?_; intro v2 w4 ho hb hg hat; obtain ⟨A2', c2', rfl⟩ := Kd.R_slice ho; have HB4 := Aside0.mk hb; have HLd4 := Aside0.mk (HRf3.out.laidP hg ho); have HRs4 := Aside0.mk (cd_kept HRf3.out.2.2.2 HRs3.out (by decide) hg); have h14 : w4.cell? ⟨gc, 1, none⟩ = some (.slice Ap j cp) := blk_cell HLd4.out.1 1; have f14 : w4.frozen? ⟨gc, 1, none⟩ = false := blk_frozen HLd4.out.1 1; clear ho hb hg hat))
                        have HLp : Aside0 (RLoop w gc al prs (j + 1) (w4.setCell ⟨gc, 1, none⟩ (.slice A2' (j + 1) c2'))) := ⟨by
                          have h := HLd4.out.2
                          rw [List.length_append, List.length_singleton, HTl.out] at h
                          refine ⟨T ++ [cx], ⟨⟨_, _, by rw [HTk.out]; exact h⟩, blk_far HRs4.out (by exact fun e => HSq.out.2.2.1 e.symm) _, HSq.out.2.2.1, HB4.out.setCell h.1 _⟩, ?_, ?_, ?_⟩
                          · rw [HR.out, HStep.out, if_pos HAz.out, HCe.out]
                          · rw [HTk.out, List.length_append, List.length_append, HL.out]; simp [Nat.add_assoc]
                          · intro t ht
                            rcases List.mem_append.1 ht with h | h
                            · exact H16.out t h
                            · rw [List.mem_singleton.1 h]
                              have h2 := addE_cat HAz.out
                              rw [HCe.out] at h2
                              exact h2⟩
                        clear h14 f14
                        go_roundw
                        case rel => exact ⟨j + 1, by omega, by go_num, HLp⟩
                        case measure => simp [intOf]; omega
        · obtain rfl : k = prs.length := by omega
          have HTa : Aside0 (prs.take prs.length = prs) := ⟨List.take_of_length_le (Nat.le_refl _)⟩
          have HRe : Aside0 (runP prs (singles al) [] = (0, T)) := ⟨by rw [HR.out, List.drop_eq_nil_of_le (Nat.le_refl _)]; rfl⟩
          rw [HTa.out] at HSt
          obtain ⟨⟨vt, vp, hRef⟩, hRes, hNe, hBl⟩ := HSt.out
          obtain ⟨At, ct, rfl⟩ := Kd.R_slice hRef.2.2.1
          obtain ⟨Ap, cp, rfl⟩ := Kd.R_slice hRef.2.2.2
          have g0 : wr.cell? ⟨gc, 0, none⟩ = some (.slice At T.length ct) := blk_cell hRef.2.1 0
          have g1 : wr.cell? ⟨gc, 1, none⟩ = some (.slice Ap prs.length cp) := blk_cell hRef.2.1 1
          have g2 : wr.cell? ⟨gc, 2, none⟩ = some (.int .i64 (al.length : Int)) := blk_cell hRef.2.1 2
          obtain ⟨q1, q2, q3, q4, q5, q6⟩ := HSt.out.frees
          have HRf := Aside0.mk hRef
          have HRs := Aside0.mk hRes
          have HBl := Aside0.mk hBl
          have HNt : Aside0 (newT al prs = T) := ⟨by unfold newT; rw [HRe.out]⟩
          have HE2 : Aside0 (newE al prs = 0) := ⟨by rw [HE.out, HRe.out]⟩
          have HF : Aside0 (kS.R 9 (((wr.setCell ⟨w.heap.size, 0, none⟩ (.slice At T.length ct)).setCell ⟨w.heap.size, 1, none⟩ (.slice Ap prs.length cp)).setCell ⟨w.heap.size, 2, none⟩ (.int .i64 (al.length : Int))) w.heap.size (fun _ => True) (.slice At T.length ct) T ∧
              kP.R 50 (((wr.setCell ⟨w.heap.size, 0, none⟩ (.slice At T.length ct)).setCell ⟨w.heap.size, 1, none⟩ (.slice Ap prs.length cp)).setCell ⟨w.heap.size, 2, none⟩ (.int .i64 (al.length : Int))) w.heap.size (fun _ => True) (.slice Ap prs.length cp) prs) := ⟨by
            have tS : ∀ q, q ∈ 9 :: kS.E → q ≠ 35 := fun q hq => by rw [typ_S q hq]; decide
            have tQ : ∀ q, q ∈ 50 :: kP.E → q ≠ 35 := fun q hq => by rw [typ_Q q hq]; decide
            have b1 := blk_set hRes 0 (.slice At T.length ct)
            have b2 := blk_set b1 1 (.slice Ap prs.length cp)
            exact ⟨Kd.R_set (Kd.R_set (Kd.R_set hRef.2.2.1 hRes tS 0 _) b1 tS 1 _) b2 tS 2 _, Kd.R_set (Kd.R_set (Kd.R_set hRef.2.2.2 hRes tQ 0 _) b1 tQ 1 _) b2 tQ 2 _⟩⟩
          clear hRef hRes hNe hBl
          go_wp2
          exact bodyPost_ret (results_ct Try.results23 _ _ w.heap.size 35 #[.slice At T.length ct, .slice Ap prs.length cp, .int .i64 (al.length : Int)] (0, 0) _ rfl (blk_set (blk_set (blk_set HRs.out 0 _) 1 _) 2 _) Try.underlying35 rfl info_rc) rfl ⟨((HBl.out.setCell (Nat.le_refl _) _).setCell (Nat.le_refl _) _).setCell (Nat.le_refl _) _, fun h => absurd HE2.out h, fun _ => ⟨_, _, rfl, by rw [HNt.out]; exact HF.out.1, HF.out.2⟩⟩
theorem rnew_calls (A : Option Addr) (c : Nat) (al : List Int) (A2 : Option Addr) (c2 : Nat) (prs : List Pr) (w : World) (hC : Kd.C (Kd.int .u8) w A al.length al) (hC2 : Kd.C kP w A2 prs.length prs) (hby : ∀ x ∈ al, 0 ≤ x ∧ x < 256) (hm : al.length ≤ 1000000) (hm2 : prs.length ≤ 1000000) :
    Calls Try.prog 23 #[.slice A al.length c, .slice A2 prs.length c2] w (RNewEnd w al prs) := by
  by_cases h : al.length = 0 ∨ 512 < al.length + prs.length
  · exact rnew_size A c al A2 c2 prs w hm hm2 h
  · exact rnew_rest A c al A2 c2 prs w hC hC2 hby (fun h0 => h (.inl h0)) (fun h1 => h (.inr h1))
end Go.Proofs.Ytbgiccbegcepcaa.Bpe

