/- bpe's reference: Encode. -/
import Derived.Test.YtbgiccbegcepcaaBpeRNew
import Derived.Deep.LoopGhost
import Derived.StillTailTactics
namespace Go.Proofs.Ytbgiccbegcepcaa.Bpe
open Go.RowKit Go.Proofs.YtbgiccbegcepcaaW.PrintWords Go.Proofs.YtbgiccbegcepcaaW.PrintLast Go.Proofs.YtbgiccbegcepcaaW.PrintMore Go.Proofs.Ytbgiccbegcepcaa.K
set_option linter.unusedVariables false
set_option linter.unusedSimpArgs false
/-- What the reference's coder reads as, in a block of its own. -/
def BoxAt (W : World) (gc : Nat) (At : Option Addr) (nt ct : Nat) (Ap : Option Addr) (np cp : Nat) (n : Int) : Prop :=
  W.heap[gc]? = some (.cells #[.slice At nt ct, .slice Ap np cp, .int .i64 n] 35 (0, 0))
theorem first_at {ps : List Pr} {l : List Int} {k : Nat} (hk : k < ps.length) (h : ∀ j, j < k → nb (ps.getD j (0, 0)) l = false) (h2 : nb (ps.getD k (0, 0)) l = true) : firstP ps l = some k := by
  unfold firstP
  rw [List.findIdx?_eq_some_iff_getElem]
  refine ⟨hk, ?_, fun j hj => ?_⟩
  · rw [List.getD_eq_getElem?_getD, List.getElem?_eq_getElem hk] at h2
    simpa using h2
  · have := h j hj
    rw [List.getD_eq_getElem?_getD, List.getElem?_eq_getElem (by omega)] at this
    simpa using this
theorem first_no {ps : List Pr} {l : List Int} (h : ∀ j, j < ps.length → nb (ps.getD j (0, 0)) l = false) : firstP ps l = none := by
  unfold firstP
  rw [List.findIdx?_eq_none_iff]
  intro p hp
  obtain ⟨j, hj, rfl⟩ := List.getElem_of_mem hp
  have := h j hj
  rwa [List.getD_eq_getElem?_getD, List.getElem?_eq_getElem hj] at this
theorem str_eq {a b : List Int} (ha : ∀ x ∈ a, 0 ≤ x ∧ x < 256) (hb : ∀ x ∈ b, 0 ≤ x ∧ x < 256) : ((strOfNums a).toList == (strOfNums b).toList) = decide (a = b) := by
  rw [Bool.eq_iff_iff, beq_iff_eq, decide_eq_true_iff, ByteArray.toList_eq, ByteArray.toList_eq]
  constructor
  · intro h
    refine str_inj ha hb (ByteArray.ext (Array.toList_inj.1 h))
  · rintro rfl
    rfl
def RELoop (w : World) (al : List Int) (n : Int) (ps : List Pr) (bs : List Int) (gk : Nat) (lv kv : Value) (wr : World) : Prop :=
  ∃ (l : List Int) (k : Nat), Kd.R (Kd.int .i64) 3 wr w.heap.size (fun _ => True) lv l ∧ kv = .int .i64 (k : Int) ∧ k ≤ ps.length ∧ encL n ps (toksL al bs) = encL n ps l ∧ (l.length ≤ 4096 ∧ l.length * (ps.length + 1) + (ps.length - k) ≤ gk) ∧ (∀ j, j < k → nb (ps.getD j (0, 0)) l = false) ∧ Below w.heap.size w wr
set_option maxHeartbeats 1000000 in
set_option maxRecDepth 100000 in
theorem renc_long (u v : Value) (n : Int) (al : List Int) (ps : List Pr) (A : Option Addr) (c : Nat) (bs : List Int) (w : World) (hm : bs.length ≤ 1000000) (h : 4096 < bs.length) (At : Option Addr) (nt ct : Nat) (Ap : Option Addr) (np cp : Nat) :
    Calls Try.prog 14 #[.agg #[.slice At nt ct, .slice Ap np cp, .int .i64 n], .slice A bs.length c] w (EncEnd w al n ps bs) := by
  have hd : decide (4096 < (bs.length : Int)) = true := by simp; omega
  have HL := Aside0.mk h
  have HB : Aside0 (Below w.heap.size w (w.alloc (.cells #[.slice At nt ct, .slice Ap np cp, .int .i64 n] 35))) := ⟨bel_alloc (Below.refl _ _) _⟩
  clear h
  go_enter Try.func14, Try.ntmps14
  go_wp2
  go_ret3
  exact ⟨HB.out, fun _ => rfl, fun h => absurd HL.out h, fun h => absurd HL.out h⟩
set_option maxHeartbeats 16000000 in
set_option maxRecDepth 100000 in
theorem renc_rest (At : Option Addr) (ct : Nat) (T : List (List Int)) (Ap : Option Addr) (cp : Nat) (ps : List Pr) (n : Int) (al : List Int) (A : Option Addr) (c : Nat) (bs : List Int) (w : World)
    (hT : Kd.C kS w At T.length T) (hP : Kd.C kP w Ap ps.length ps) (hC : Kd.C (Kd.int .u8) w A bs.length bs) (hby : ∀ x ∈ al, 0 ≤ x ∧ x < 256) (hby3 : ∀ x ∈ bs, 0 ≤ x ∧ x < 256) (hn : n = al.length) (hnd : al.Nodup) (hTs : ∀ i (h : i < al.length), T.getD i [] = [al[i]]) (hTl : al.length ≤ T.length) (hsm : al.length + ps.length ≤ 512) (hl : ¬ 4096 < bs.length) :
    Calls Try.prog 14 #[.agg #[.slice At T.length ct, .slice Ap ps.length cp, .int .i64 n], .slice A bs.length c] w (EncEnd w al n ps bs) := by
  have hd : decide (4096 < (bs.length : Int)) = false := by simp; omega
  have hm : bs.length ≤ 4096 := by omega
  have HL := Aside0.mk hl
  have HT := Aside0.mk hT
  have HP := Aside0.mk hP
  have HC := Aside0.mk hC
  have HBy := Aside0.mk hby
  have HBy3 := Aside0.mk hby3
  have HNd := Aside0.mk hnd
  have HTs := Aside0.mk hTs
  have HTl := Aside0.mk hTl
  have HSm := Aside0.mk hsm
  have hall : al.length ≤ 512 := by omega
  have hps5 : ps.length ≤ 512 := by omega
  subst hn
  have HX0 : Aside0 (BoxAt (w.alloc (.cells #[.slice At T.length ct, .slice Ap ps.length cp, .int .i64 (al.length : Int)] 35)) w.heap.size At T.length ct Ap ps.length cp al.length) := ⟨heap_alloc_new _ _⟩
  have HB0 : Aside0 (Below w.heap.size w (w.alloc (.cells #[.slice At T.length ct, .slice Ap ps.length cp, .int .i64 (al.length : Int)] 35))) := ⟨bel_alloc (Below.refl _ _) _⟩
  clear hl hT hP hC hby hby3 hnd hTs hTl hsm
  go_enter Try.func14, Try.ntmps14
  go_wp2
  generalize w.alloc (.cells #[.slice At T.length ct, .slice Ap ps.length cp, .int .i64 (al.length : Int)] 35) = w0 at *
  obtain ⟨gc, hgc⟩ : ∃ gc, gc = w.heap.size := ⟨_, rfl⟩
  rw [← hgc] at HX0 ⊢
  clear hgc
  go_loopw [7, 8] (fun o i wr => ∃ k : Nat, k ≤ bs.length ∧ i = .int .i64 (k : Int) ∧ Aside0 (Kd.R (Kd.int .i64) 3 wr w.heap.size (fun _ => True) o (toksL al (bs.take k)) ∧ badAt al (bs.take k) = none ∧ BoxAt wr gc At T.length ct Ap ps.length cp al.length ∧ Below w.heap.size w wr)) (fun _ i _ => bs.length - (intOf i).toNat)
  case atStart => exact ⟨0, Nat.zero_le _, rfl, ⟨⟨Kd.R_nil _ _ _ _ _, rfl, HX0.out, HB0.out⟩⟩⟩
  case round =>
    clear HX0 HB0
    obtain ⟨k, hk, rfl, HO⟩ := hrel
    obtain ⟨hR, hbad, hbox, hB⟩ := HO.out
    have HR := Aside0.mk hR
    have HBad := Aside0.mk hbad
    have HBox := Aside0.mk hbox
    have HB := Aside0.mk hB
    have HLk : Aside0 ((toksL al (bs.take k)).length = k) := ⟨by simp [toksL]; omega⟩
    obtain ⟨Ao, co, hvo⟩ := Kd.R_slice hR
    rw [HLk.out] at hvo
    subst hvo
    clear hR hbad hbox hB HO
    by_cases hlt : k < bs.length
    · have HX : Aside0 (bs.getD k 0 ∈ bs) := ⟨by
        rw [List.getD_eq_getElem?_getD, List.getElem?_eq_getElem hlt]; exact List.getElem_mem hlt⟩
      have HTk := Aside0.mk (toksL_step al bs k hlt)
      have HBh := Aside0.mk (badAt_here al bs k hlt HBad.out)
      have HBs := Aside0.mk (badAt_step al bs k hlt HBad.out)
      have HCk : Aside0 (∀ W, Below w.heap.size w W → ∃ ad, A = some ad ∧ W.cell? (ad.add k) = some (.int .u8 (bs.getD k 0))) := ⟨fun W hW => int_at' HC.out hW k hlt⟩
      obtain ⟨x, hx⟩ : ∃ x, x = bs.getD k 0 := ⟨_, rfl⟩
      rw [← hx] at HX HTk HBh HBs HCk
      clear hx
      have HX2 := Aside0.mk (HBy3.out x HX.out)
      generalize wr = wo at *
      go_wp2_with (fail)
      go_loopw [9, 10] (fun t i wr => ∃ j : Nat, j ≤ al.length ∧ i = .int .i64 (j : Int) ∧ t = .int .i64 (tokOf (al.take j) x) ∧ Aside0 (Below wo.heap.size wo wr)) (fun _ i _ => al.length - (intOf i).toNat)
      case atStart => exact ⟨0, Nat.zero_le _, rfl, rfl, ⟨Below.refl _ _⟩⟩
      case round =>
        obtain ⟨j, hj, rfl, rfl, HI⟩ := hrel
        have hbxr : wr.heap[gc]? = some (.cells #[.slice At T.length ct, .slice Ap ps.length cp, .int .i64 (al.length : Int)] 35 (0, 0)) := (HI.out.block _ (blk_lt HBox.out)).trans HBox.out
        have hg0 : wr.cell? ⟨gc, 0, none⟩ = some (.slice At T.length ct) := blk_cell hbxr 0
        have hg2 : wr.cell? ⟨gc, 2, none⟩ = some (.int .i64 (al.length : Int)) := blk_cell hbxr 2
        have HBw := Aside0.mk (below_step HB.out HI.out)
        have HBoxr : Aside0 (BoxAt wr gc At T.length ct Ap ps.length cp al.length) := ⟨hbxr⟩
        clear hbxr
        by_cases hlj : j < al.length
        · have hjT : j < T.length := by have := HTl.out; omega
          obtain ⟨adt, rfl, hst⟩ := str_at (Kd.C_below HT.out HBw.out) j hjT
          obtain ⟨adb, rfl, hcb⟩ := HCk.out wr HBw.out
          have HTj : Aside0 (al.take (j + 1) = al.take j ++ [al.getD j 0]) := ⟨by
            rw [List.take_succ_eq_append_getElem hlj, List.getD_eq_getElem?_getD, List.getElem?_eq_getElem hlj]; rfl⟩
          have HNj : Aside0 (al.getD j 0 ∉ al.take j) := ⟨((nodup_snoc hlj).1 (HNd.out.sublist (List.take_sublist _ _))).2⟩
          have HTg : Aside0 (T.getD j [] = [al.getD j 0]) := ⟨by rw [HTs.out j hlj, List.getD_eq_getElem?_getD, List.getElem?_eq_getElem hlj]; rfl⟩
          have HY : Aside0 (0 ≤ al.getD j 0 ∧ al.getD j 0 < 256) := ⟨HBy.out _ (by rw [List.getD_eq_getElem?_getD, List.getElem?_eq_getElem hlj]; exact List.getElem_mem hlj)⟩
          have HTlj : Aside0 ((al.take j).length = j) := ⟨by rw [List.length_take]; omega⟩
          rw [HTg.out] at hst
          have HSn := Aside0.mk (tokOf_snoc (al.take j) (al.getD j 0) x HNj.out)
          rw [← HTj.out, HTlj.out] at HSn
          generalize al.getD j 0 = y at *
          generalize tokOf (al.take j) x = tk at *
          have hj0 : (0 : Int) ≤ (j : Int) := Int.natCast_nonneg _
          have hjI : (j : Int) < (T.length : Int) := by omega
          have hk0 : (0 : Int) ≤ (k : Int) := Int.natCast_nonneg _
          have hkI : (k : Int) < (bs.length : Int) := by omega
          have f0 : wr.drew.cell? ⟨gc, 0, none⟩ = some (.slice (some adt) T.length ct) := hg0
          have f1 : wr.drew.cell? (adt.add j) = some (.string (strOfNums [y])) := hst
          have f2 : wr.drew.cell? (adb.add k) = some (.int .u8 x) := hcb
          have hcv : (convert 22 9 (.slice (some ⟨wr.drew.heap.size, 0, none⟩) 1 1)).run Try.prog (wr.drew.alloc (.cells #[.int .u8 x] 5)) = .ok (.string (strOfNums [x])) (wr.drew.alloc (.cells #[.int .u8 x] 5)) :=
            Kd.C_string Try.underlying22 Try.underlying5 Try.underlying9 (C_int (reads_lit wr.drew .u8 5 [x] (show 1 ≤ 9223372036854775807 by decide)))
          have hcv2 : (convert 22 9 (.slice (some ⟨wr.heap.size, 0, none⟩) 1 1)).run Try.prog (wr.alloc (.cells #[.int .u8 x] 5)).drew = .ok (.string (strOfNums [x])) (wr.alloc (.cells #[.int .u8 x] 5)).drew := hcv
          have HB2 : Aside0 (Below wo.heap.size wo (wr.alloc (.cells #[.int .u8 x] 5)).drew) := ⟨below_drew (bel_alloc HI.out _)⟩
          clear hcv
          have HSe : Aside0 (((strOfNums [y]).toList == (strOfNums [x]).toList) = decide ([y] = [x])) := ⟨str_eq (fun z hz => by rw [List.mem_singleton.1 hz]; exact HY.out) (fun z hz => by rw [List.mem_singleton.1 hz]; exact HX2.out)⟩
          by_cases hxy : x = y
          · have hse : ((strOfNums [y]).toList == (strOfNums [x]).toList) = true := by rw [HSe.out]; simp [hxy]
            have HE : Aside0 (tokOf (al.take (j + 1)) x = (j : Int)) := ⟨by rw [HSn.out, if_pos hxy]⟩
            clear hxy
            go_wp2_with (fail)
            refine start_ (n := 12) (S := fun w' => w'.cell? ⟨gc, 0, none⟩ = some (.slice (some adt) T.length ct) ∧ w'.cell? (adt.add j) = some (.string (strOfNums [y])) ∧ w'.cell? (adb.add k) = some (.int .u8 x)) (ds := []) #[false, false, false, false, false, false, false, false, false, false, false, false] (by kernel_rfl) rfl rfl ⟨f0, f1, f2⟩ (fun hHeld => ?_)
            refine pure_ (i := 0) (N := some 27) (v := ?_) (a' := ?_) #[true, false, false, false, false, false, false, false, false, false, false, false] rfl rfl (by kernel_rfl) (fun _ _ _ h => h) (Or.inl ⟨by rfl, ?_⟩) ?_ ?_
            rotate_left
            · intro w'
              go_simp
              with_reducible rfl
            rotate_left
            · simp only [Act.put, List.setIfInBounds_toArray, List.set_cons_zero, List.set_cons_succ]
              rfl
            refine pure_ (i := 2) (N := some 29) (v := ?_) (a' := ?_) #[true, false, true, false, false, false, false, false, false, false, false, false] rfl rfl (by kernel_rfl) (fun _ _ _ h => h) (Or.inl ⟨by rfl, ?_⟩) ?_ ?_
            rotate_left
            · intro w'
              go_simp
              with_reducible rfl
            rotate_left
            · simp only [Act.put, List.setIfInBounds_toArray, List.set_cons_zero, List.set_cons_succ]
              rfl
            refine pure_ (i := 5) (N := some 32) (v := ?_) (a' := ?_) #[true, false, true, false, false, true, false, false, false, false, false, false] rfl rfl (by kernel_rfl) (fun _ _ _ h => h) (Or.inl ⟨by rfl, ?_⟩) ?_ ?_
            rotate_left
            · intro w'
              go_simp
              with_reducible rfl
            rotate_left
            · simp only [Act.put, List.setIfInBounds_toArray, List.set_cons_zero, List.set_cons_succ]
              rfl
            refine pure_ (i := 6) (N := some 33) (v := ?_) (a' := ?_) #[true, false, true, false, false, true, true, false, false, false, false, false] rfl rfl (by kernel_rfl) (fun _ _ _ h => h) (Or.inl ⟨by rfl, ?_⟩) ?_ ?_
            rotate_left
            · intro w'
              go_simp
              with_reducible rfl
            rotate_left
            · simp only [Act.put, List.setIfInBounds_toArray, List.set_cons_zero, List.set_cons_succ]
              rfl
            refine pure_ (i := 7) (N := some 34) (v := ?_) (a' := ?_) #[true, false, true, false, false, true, true, true, false, false, false, false] rfl rfl (by kernel_rfl) (fun _ _ _ h => h) (Or.inl ⟨by rfl, ?_⟩) ?_ ?_
            rotate_left
            · intro w'
              go_simp
              with_reducible rfl
            rotate_left
            · simp only [Act.put, List.setIfInBounds_toArray, List.set_cons_zero, List.set_cons_succ]
              rfl
            refine take_ (i := 1) (N := some 28) (v := ?_) (a' := ?_) #[true, true, true, false, false, true, true, true, false, false, false, false] rfl rfl (by kernel_rfl) (fun _ _ _ h => h) (Or.inl ⟨by rfl, ?_⟩) hHeld ?_ ?_
            rotate_left
            · rintro w' ⟨s0, s1, s2⟩
              go_simp
              with_reducible rfl
            rotate_left
            · simp only [Act.put, List.setIfInBounds_toArray, List.set_cons_zero, List.set_cons_succ]
              rfl
            refine pure_ (i := 3) (N := some 30) (v := ?_) (a' := ?_) #[true, true, true, true, false, true, true, true, false, false, false, false] rfl rfl (by kernel_rfl) (fun _ _ _ h => h) (Or.inl ⟨by rfl, ?_⟩) ?_ ?_
            rotate_left
            · intro w'
              go_simp
              with_reducible rfl
            rotate_left
            · simp only [Act.put, List.setIfInBounds_toArray, List.set_cons_zero, List.set_cons_succ]
              rfl
            refine take_ (i := 4) (N := some 31) (v := ?_) (a' := ?_) #[true, true, true, true, true, true, true, true, false, false, false, false] rfl rfl (by kernel_rfl) (fun _ _ _ h => h) (Or.inl ⟨by rfl, ?_⟩) hHeld ?_ ?_
            rotate_left
            · rintro w' ⟨s0, s1, s2⟩
              go_simp
              with_reducible rfl
            rotate_left
            · simp only [Act.put, List.setIfInBounds_toArray, List.set_cons_zero, List.set_cons_succ]
              rfl
            refine take_ (i := 8) (N := some 35) (v := ?_) (a' := ?_) #[true, true, true, true, true, true, true, true, true, false, false, false] rfl rfl (by kernel_rfl) (fun _ _ _ h => h) (Or.inl ⟨by rfl, ?_⟩) hHeld ?_ ?_
            rotate_left
            · rintro w' ⟨s0, s1, s2⟩
              go_simp
              with_reducible rfl
            rotate_left
            · simp only [Act.put, List.setIfInBounds_toArray, List.set_cons_zero, List.set_cons_succ]
              rfl
            refine one_ (i := 9) (N := some 36) #[true, true, true, true, true, true, true, true, true, true, false, false] rfl rfl (by kernel_rfl) (by decide) (fun K hK => ?_)
            refine value_ (w1 := ?_) (v := ?_) (by rfl) rfl ?_ ?_
            rotate_left 2
            · go_simp
              constructor
              · rfl
              · rfl
            refine hK.out _ _ ⟨cell_keep (bel_alloc (Below.refl _ _) _) f0, cell_keep (bel_alloc (Below.refl _ _) _) f1, cell_keep (bel_alloc (Below.refl _ _) _) f2⟩ (fun hHeld => ?_)
            clear hK K
            refine norm_ (a' := ?_) ?_ ?_
            rotate_left
            · show Act.put _ (some 36) _ = _
              simp only [Act.put, List.setIfInBounds_toArray, List.set_cons_zero, List.set_cons_succ]
              rfl
            refine one_ (i := 10) (N := some 37) #[true, true, true, true, true, true, true, true, true, true, true, false] rfl rfl (by kernel_rfl) (by decide) (fun K hK => ?_)
            refine value_ (w1 := ?_) (v := ?_) (by rfl) rfl ?_ ?_
            rotate_left 2
            · go_simp
              constructor
              · rfl
              · rfl
            refine hK.out _ _ ⟨cell_keep (bel_alloc (Below.refl _ _) _) f0, cell_keep (bel_alloc (Below.refl _ _) _) f1, cell_keep (bel_alloc (Below.refl _ _) _) f2⟩ (fun hHeld => ?_)
            clear hK K
            refine norm_ (a' := ?_) ?_ ?_
            rotate_left
            · show Act.put _ (some 37) _ = _
              simp only [Act.put, List.setIfInBounds_toArray, List.set_cons_zero, List.set_cons_succ]
              rfl
            refine pure_ (i := 11) (N := some 38) (v := ?_) (a' := ?_) #[true, true, true, true, true, true, true, true, true, true, true, true] rfl rfl (by kernel_rfl) (fun _ _ _ h => h) (Or.inl ⟨by rfl, ?_⟩) ?_ ?_
            rotate_left
            · intro w'
              go_simp
              with_reducible rfl
            rotate_left
            · simp only [Act.put, List.setIfInBounds_toArray, List.set_cons_zero, List.set_cons_succ]
              rfl
            refine done_ (by kernel_rfl) ?_
            clear hHeld
            go_wp2
            go_roundw
            case rel => exact ⟨j + 1, by omega, by go_num, congrArg (Value.int .i64) HE.out.symm, HB2⟩
            case measure => simp [intOf]; omega
          · have hse : ((strOfNums [y]).toList == (strOfNums [x]).toList) = false := by rw [HSe.out]; simpa using fun e => hxy e.symm
            have HE : Aside0 (tokOf (al.take (j + 1)) x = tk) := ⟨by rw [HSn.out, if_neg hxy]⟩
            clear hxy
            go_wp2_with (fail)
            refine start_ (n := 12) (S := fun w' => w'.cell? ⟨gc, 0, none⟩ = some (.slice (some adt) T.length ct) ∧ w'.cell? (adt.add j) = some (.string (strOfNums [y])) ∧ w'.cell? (adb.add k) = some (.int .u8 x)) (ds := []) #[false, false, false, false, false, false, false, false, false, false, false, false] (by kernel_rfl) rfl rfl ⟨f0, f1, f2⟩ (fun hHeld => ?_)
            refine pure_ (i := 0) (N := some 27) (v := ?_) (a' := ?_) #[true, false, false, false, false, false, false, false, false, false, false, false] rfl rfl (by kernel_rfl) (fun _ _ _ h => h) (Or.inl ⟨by rfl, ?_⟩) ?_ ?_
            rotate_left
            · intro w'
              go_simp
              with_reducible rfl
            rotate_left
            · simp only [Act.put, List.setIfInBounds_toArray, List.set_cons_zero, List.set_cons_succ]
              rfl
            refine pure_ (i := 2) (N := some 29) (v := ?_) (a' := ?_) #[true, false, true, false, false, false, false, false, false, false, false, false] rfl rfl (by kernel_rfl) (fun _ _ _ h => h) (Or.inl ⟨by rfl, ?_⟩) ?_ ?_
            rotate_left
            · intro w'
              go_simp
              with_reducible rfl
            rotate_left
            · simp only [Act.put, List.setIfInBounds_toArray, List.set_cons_zero, List.set_cons_succ]
              rfl
            refine pure_ (i := 5) (N := some 32) (v := ?_) (a' := ?_) #[true, false, true, false, false, true, false, false, false, false, false, false] rfl rfl (by kernel_rfl) (fun _ _ _ h => h) (Or.inl ⟨by rfl, ?_⟩) ?_ ?_
            rotate_left
            · intro w'
              go_simp
              with_reducible rfl
            rotate_left
            · simp only [Act.put, List.setIfInBounds_toArray, List.set_cons_zero, List.set_cons_succ]
              rfl
            refine pure_ (i := 6) (N := some 33) (v := ?_) (a' := ?_) #[true, false, true, false, false, true, true, false, false, false, false, false] rfl rfl (by kernel_rfl) (fun _ _ _ h => h) (Or.inl ⟨by rfl, ?_⟩) ?_ ?_
            rotate_left
            · intro w'
              go_simp
              with_reducible rfl
            rotate_left
            · simp only [Act.put, List.setIfInBounds_toArray, List.set_cons_zero, List.set_cons_succ]
              rfl
            refine pure_ (i := 7) (N := some 34) (v := ?_) (a' := ?_) #[true, false, true, false, false, true, true, true, false, false, false, false] rfl rfl (by kernel_rfl) (fun _ _ _ h => h) (Or.inl ⟨by rfl, ?_⟩) ?_ ?_
            rotate_left
            · intro w'
              go_simp
              with_reducible rfl
            rotate_left
            · simp only [Act.put, List.setIfInBounds_toArray, List.set_cons_zero, List.set_cons_succ]
              rfl
            refine take_ (i := 1) (N := some 28) (v := ?_) (a' := ?_) #[true, true, true, false, false, true, true, true, false, false, false, false] rfl rfl (by kernel_rfl) (fun _ _ _ h => h) (Or.inl ⟨by rfl, ?_⟩) hHeld ?_ ?_
            rotate_left
            · rintro w' ⟨s0, s1, s2⟩
              go_simp
              with_reducible rfl
            rotate_left
            · simp only [Act.put, List.setIfInBounds_toArray, List.set_cons_zero, List.set_cons_succ]
              rfl
            refine pure_ (i := 3) (N := some 30) (v := ?_) (a' := ?_) #[true, true, true, true, false, true, true, true, false, false, false, false] rfl rfl (by kernel_rfl) (fun _ _ _ h => h) (Or.inl ⟨by rfl, ?_⟩) ?_ ?_
            rotate_left
            · intro w'
              go_simp
              with_reducible rfl
            rotate_left
            · simp only [Act.put, List.setIfInBounds_toArray, List.set_cons_zero, List.set_cons_succ]
              rfl
            refine take_ (i := 4) (N := some 31) (v := ?_) (a' := ?_) #[true, true, true, true, true, true, true, true, false, false, false, false] rfl rfl (by kernel_rfl) (fun _ _ _ h => h) (Or.inl ⟨by rfl, ?_⟩) hHeld ?_ ?_
            rotate_left
            · rintro w' ⟨s0, s1, s2⟩
              go_simp
              with_reducible rfl
            rotate_left
            · simp only [Act.put, List.setIfInBounds_toArray, List.set_cons_zero, List.set_cons_succ]
              rfl
            refine take_ (i := 8) (N := some 35) (v := ?_) (a' := ?_) #[true, true, true, true, true, true, true, true, true, false, false, false] rfl rfl (by kernel_rfl) (fun _ _ _ h => h) (Or.inl ⟨by rfl, ?_⟩) hHeld ?_ ?_
            rotate_left
            · rintro w' ⟨s0, s1, s2⟩
              go_simp
              with_reducible rfl
            rotate_left
            · simp only [Act.put, List.setIfInBounds_toArray, List.set_cons_zero, List.set_cons_succ]
              rfl
            refine one_ (i := 9) (N := some 36) #[true, true, true, true, true, true, true, true, true, true, false, false] rfl rfl (by kernel_rfl) (by decide) (fun K hK => ?_)
            refine value_ (w1 := ?_) (v := ?_) (by rfl) rfl ?_ ?_
            rotate_left 2
            · go_simp
              constructor
              · rfl
              · rfl
            refine hK.out _ _ ⟨cell_keep (bel_alloc (Below.refl _ _) _) f0, cell_keep (bel_alloc (Below.refl _ _) _) f1, cell_keep (bel_alloc (Below.refl _ _) _) f2⟩ (fun hHeld => ?_)
            clear hK K
            refine norm_ (a' := ?_) ?_ ?_
            rotate_left
            · show Act.put _ (some 36) _ = _
              simp only [Act.put, List.setIfInBounds_toArray, List.set_cons_zero, List.set_cons_succ]
              rfl
            refine one_ (i := 10) (N := some 37) #[true, true, true, true, true, true, true, true, true, true, true, false] rfl rfl (by kernel_rfl) (by decide) (fun K hK => ?_)
            refine value_ (w1 := ?_) (v := ?_) (by rfl) rfl ?_ ?_
            rotate_left 2
            · go_simp
              constructor
              · rfl
              · rfl
            refine hK.out _ _ ⟨cell_keep (bel_alloc (Below.refl _ _) _) f0, cell_keep (bel_alloc (Below.refl _ _) _) f1, cell_keep (bel_alloc (Below.refl _ _) _) f2⟩ (fun hHeld => ?_)
            clear hK K
            refine norm_ (a' := ?_) ?_ ?_
            rotate_left
            · show Act.put _ (some 37) _ = _
              simp only [Act.put, List.setIfInBounds_toArray, List.set_cons_zero, List.set_cons_succ]
              rfl
            refine pure_ (i := 11) (N := some 38) (v := ?_) (a' := ?_) #[true, true, true, true, true, true, true, true, true, true, true, true] rfl rfl (by kernel_rfl) (fun _ _ _ h => h) (Or.inl ⟨by rfl, ?_⟩) ?_ ?_
            rotate_left
            · intro w'
              go_simp
              with_reducible rfl
            rotate_left
            · simp only [Act.put, List.setIfInBounds_toArray, List.set_cons_zero, List.set_cons_succ]
              rfl
            refine done_ (by kernel_rfl) ?_
            clear hHeld
            go_wp2
            go_roundw
            case rel => exact ⟨j + 1, by omega, by go_num, congrArg (Value.int .i64) HE.out.symm, HB2⟩
            case measure => simp [intOf]; omega
        · obtain rfl : j = al.length := by omega
          have HTa : Aside0 (al.take al.length = al) := ⟨List.take_of_length_le (Nat.le_refl _)⟩
          rw [HTa.out]
          have HRg := Aside0.mk (tokOf_range al x)
          have HRw := Aside0.mk (Kd.R_below HR.out HI.out)
          generalize tokOf al x = tk at *
          by_cases htk : tk = -1
          · have HE := Aside0.mk (HBh.out htk)
            subst htk
            clear HBs HRg
            go_wp2
            go_ret3
            exact ⟨HBw.out, fun h => absurd h HL.out, fun _ i hi => by rw [HE.out] at hi; cases hi; rfl, fun _ hi => absurd (HE.out.symm.trans hi) (by simp)⟩
          · have HE := Aside0.mk (HBs.out htk)
            have htl : decide (tk < 0) = false := by have := HRg.out htk; simp; omega
            have HNe : Aside0 (some gc ≠ (Value.slice Ao k co).ownBlock) := ⟨Kd.R_ne HRw.out HBoxr.out (by decide)⟩
            clear htk
            generalize toksL al (bs.take k) = es at *
            go_wp2_with (at_builtin; refine print_append_num (w0 := w) w.heap.size rfl (.tmp 43) (.tmp 45) 38 3 .i64 8 rfl Try.underlying38 info_int (by decide) _ es _ rfl (by rfl) (own_int HRw.out) HBw.out HBw.out.size ?_ ?_; rotate_left; intro v1 w2 hown hbw hgr hat; have HA := Aside0.mk (And.intro hown hbw); have HBx2 : Aside0 (BoxAt w2 gc At T.length ct Ap ps.length cp al.length) := ⟨blk_grown HBoxr.out hgr HNe.out⟩; clear hown hbw hgr hat)
            · go_roundw
              case rel => exact ⟨k + 1, by omega, by go_num, ⟨⟨by rw [HTk.out]; exact R_int HA.out.1, HE.out, HBx2.out, HA.out.2⟩⟩⟩
              case measure => simp [intOf]; omega
            · have := HLk.out
              omega
    · obtain rfl : k = bs.length := by omega
      have HTa : Aside0 (bs.take bs.length = bs) := ⟨List.take_of_length_le (Nat.le_refl _)⟩
      rw [HTa.out] at HR HBad HLk
      have HRE : Aside0 (RELoop w al al.length ps bs (bs.length * (ps.length + 1) + ps.length) (.slice Ao bs.length co) (.int .i64 ((0 : Nat) : Int)) wr ∧ BoxAt wr gc At T.length ct Ap ps.length cp al.length) := ⟨⟨toksL al bs, 0, HR.out, rfl, Nat.zero_le _, rfl, ⟨by rw [HLk.out]; exact hm, by rw [HLk.out]; omega⟩, fun j hj => absurd hj (Nat.not_lt_zero _), HB.out⟩, HBox.out⟩
      clear HR HB HBox HLk hlt hk HTa
      generalize wr = wz at *
      go_wp2
      go_loopg [7, 11] (bs.length * (ps.length + 1) + ps.length) (fun gk lv kv wr => Aside0 (RELoop w al al.length ps bs gk lv kv wr ∧ BoxAt wr gc At T.length ct Ap ps.length cp al.length))
      case atStart => exact HRE
      case round =>
        clear HRE
        obtain ⟨⟨l, k, hR, rfl, hk, heq, hlk, hfree, hB⟩, hbox⟩ := hrel.out
        clear hrel
        have HR := Aside0.mk hR
        have HEq := Aside0.mk heq
        have HLk := Aside0.mk hlk
        have HFr := Aside0.mk hfree
        have HB := Aside0.mk hB
        have HBox := Aside0.mk hbox
        have hg1 : wr.cell? ⟨gc, 1, none⟩ = some (.slice Ap ps.length cp) := blk_cell hbox 1
        obtain ⟨Al, cl, rfl⟩ := Kd.R_slice hR
        have hl4 : l.length ≤ 4096 := hlk.1
        clear hR heq hlk hfree hB hbox
        by_cases hkl : k < ps.length
        · obtain ⟨adp, rfl, hp1, hp2⟩ := pair_at (Kd.C_below HP.out HB.out) k hkl
          have hk0 : (0 : Int) ≤ (k : Int) := Int.natCast_nonneg _
          have hkI : (k : Int) < (ps.length : Int) := by omega
          have HAt := Aside0.mk (first_at (l := l) hkl HFr.out)
          obtain ⟨p, hp⟩ : ∃ p, p = ps.getD k (0, 0) := ⟨_, rfl⟩
          have HPe := Aside0.mk hp
          rw [← hp] at hp1 hp2 HAt
          clear hp
          obtain ⟨x, y⟩ := p
          have HRc := Aside0.mk (Kd.R_reads' HR.out).2.2
          cases hnb : nb (x, y) l with
          | false =>
            have HNb := Aside0.mk (nb_calls Al cl l x y wr HRc.out (by omega) false hnb)
            have HN := Aside0.mk hnb
            clear hnb
            go_wp2_with (fail)
            refine HNb.out.mono ?_
            rintro e w2 ⟨rfl, hb⟩
            have HE2 : Aside0 (RELoop w al al.length ps bs (l.length * (ps.length + 1) + (ps.length - (k + 1))) (.slice Al l.length cl) (.int .i64 ((k + 1 : Nat) : Int)) w2 ∧ BoxAt w2 gc At T.length ct (some adp) ps.length cp al.length) := ⟨⟨l, k + 1, Kd.R_below HR.out hb, rfl, hkl, HEq.out, ⟨hl4, Nat.le_refl _⟩, fun j hj => by
              rcases Nat.lt_or_ge j k with h | h
              · exact HFr.out j h
              · obtain rfl : j = k := by omega
                rw [← HPe.out]; exact HN.out, below_step HB.out hb⟩, (hb.block _ (blk_lt HBox.out)).trans HBox.out⟩
            clear hb hp1 hp2 hg1
            go_wp2
            go_roundg (l.length * (ps.length + 1) + (ps.length - (k + 1)))
            case measure => have := HLk.out.2; omega
            case rel => exact ⟨by have h := HE2.out; rw [show ((k + 1 : Nat) : Int) = (k : Int) + 1 by omega] at h; exact h⟩
          | true =>
            have HNb := Aside0.mk (nb_calls Al cl l x y wr HRc.out (by omega) true hnb)
            have HFi := Aside0.mk (HAt.out hnb)
            have HLt := Aside0.mk (mergeL_lt (x, y) ((al.length : Int) + k) l hnb)
            clear hnb
            go_wp2_with (fail)
            refine HNb.out.mono ?_
            rintro e w2 ⟨rfl, hb⟩
            have HB2 := Aside0.mk (below_step HB.out hb)
            have HBox2 : Aside0 (BoxAt w2 gc At T.length ct (some adp) ps.length cp al.length) := ⟨(hb.block _ (blk_lt HBox.out)).trans HBox.out⟩
            have HRc2 := Aside0.mk (Kd.C_below HRc.out hb)
            obtain ⟨adq, e, hq1, hq2⟩ := pair_at (Kd.C_below HP.out HB2.out) k hkl
            cases e
            rw [← HPe.out] at hq1 hq2
            have hg1' : w2.cell? ⟨gc, 1, none⟩ = some (.slice (some adp) ps.length cp) := blk_cell HBox2.out 1
            have hg2' : w2.cell? ⟨gc, 2, none⟩ = some (.int .i64 (al.length : Int)) := blk_cell HBox2.out 2
            obtain ⟨u, hu⟩ : ∃ u, u = (al.length : Int) + (k : Int) := ⟨_, rfl⟩
            have hadd : IntKind.i64.wrap ((al.length : Int) + (k : Int)) = u := by rw [IntWalk.i64_in _ (by have := HSm.out; omega)]; exact hu.symm
            have HU := Aside0.mk hu
            clear hb hp1 hp2 hg1 hu
            have HMd := Aside0.mk (merged_calls Al cl l x y u w2.drew (Kd.C_below HRc2.out (below_drew (Below.refl _ _))) (by omega))
            go_wp2_with (fail)
            go_still_tail 10, (by kernel_rfl)
            change wpList _ _ _ _ _ w2.drew
            clear hq1 hq2 hg1' hg2' hadd
            have HB3 : Aside0 (Below w.heap.size w w2.drew) := ⟨below_drew HB2.out⟩
            have HBox3 : Aside0 (BoxAt w2.drew gc At T.length ct (some adp) ps.length cp al.length) := ⟨HBox2.out⟩
            generalize w2.drew = w3 at *
            go_wp2_with (fail)
            refine HMd.out.mono ?_
            rintro e w4 ⟨v4, rfl, hR4, hb4⟩
            have HE2 : Aside0 (RELoop w al al.length ps bs ((mergeL (x, y) u l).length * (ps.length + 1) + (ps.length - 0)) v4 (.int .i64 ((0 : Nat) : Int)) w4 ∧ BoxAt w4 gc At T.length ct (some adp) ps.length cp al.length) := ⟨⟨mergeL (x, y) u l, 0, Kd.R_lower hR4 HB3.out.size, rfl, Nat.zero_le _, by rw [HEq.out, encL_some HFi.out, ← HPe.out, ← HU.out], ⟨by have := HLt.out; rw [← HU.out] at this; omega, Nat.le_refl _⟩, fun j hj => absurd hj (Nat.not_lt_zero _), below_step HB3.out hb4⟩, (hb4.block _ (blk_lt HBox3.out)).trans HBox3.out⟩
            have HMs : Aside0 ((mergeL (x, y) u l).length * (ps.length + 1) + (ps.length - 0) < l.length * (ps.length + 1) + (ps.length - k)) := ⟨by
              have h := HLt.out
              rw [← HU.out] at h
              have h2 : ((mergeL (x, y) u l).length + 1) * (ps.length + 1) ≤ l.length * (ps.length + 1) := Nat.mul_le_mul_right _ h
              rw [Nat.add_mul, Nat.one_mul] at h2
              omega⟩
            clear hR4 hb4
            go_wp2
            go_roundg ((mergeL (x, y) u l).length * (ps.length + 1) + (ps.length - 0))
            case measure => have := HLk.out.2; have := HMs.out; omega
            case rel => exact HE2
        · obtain rfl : k = ps.length := by omega
          have HE : Aside0 (encL al.length ps (toksL al bs) = l) := ⟨by rw [HEq.out, encL_none (first_no HFr.out)]⟩
          go_wp2
          go_ret3
          exact ⟨HB.out, fun h => absurd h HL.out, fun _ i hi => absurd (HBad.out.symm.trans hi) (by simp), fun _ _ => ⟨_, rfl, by rw [HE.out]; exact HR.out⟩⟩
theorem renc_calls (At : Option Addr) (ct : Nat) (Ap : Option Addr) (cp : Nat) (ps : List Pr) (al : List Int) (A : Option Addr) (c : Nat) (bs : List Int) (w : World)
    (hT : Kd.C kS w At (newT al ps).length (newT al ps)) (hP : Kd.C kP w Ap ps.length ps) (hC : Kd.C (Kd.int .u8) w A bs.length bs) (hby : ∀ x ∈ al, 0 ≤ x ∧ x < 256) (hby3 : ∀ x ∈ bs, 0 ≤ x ∧ x < 256) (hE : newE al ps = 0) (hm : bs.length ≤ 1000000) :
    Calls Try.prog 14 #[.agg #[.slice At (newT al ps).length ct, .slice Ap ps.length cp, .int .i64 (al.length : Int)], .slice A bs.length c] w (EncEnd w al al.length ps bs) := by
  by_cases hl : 4096 < bs.length
  · exact renc_long .nilIface .nilIface _ al ps A c bs w hm hl At _ ct Ap _ cp
  · have h := newE_ok hE
    exact renc_rest At ct (newT al ps) Ap cp ps al.length al A c bs w hT hP hC hby hby3 rfl h.2.2.1 (fun i hi => newT_byte hE i hi) (by rw [newT_length hE]; omega) h.2.1 hl
end Go.Proofs.Ytbgiccbegcepcaa.Bpe

