/- store: Append. -/
import Derived.Test.YtpndobhakmjglaaDoorStorePAddB
namespace Go.Proofs.YtpndobhakmjglaaDoor.StoreP
open Go.RowKit Go.Proofs.YtpndobhakmjglaaDoorW.PrintWords Go.Proofs.YtpndobhakmjglaaDoorW.PrintLast Go.Proofs.YtpndobhakmjglaaDoorW.PrintMore Go.Proofs.YtpndobhakmjglaaDoor.K Go.Proofs.YtpndobhakmjglaaDoor.Sha Go.Proofs.YtpndobhakmjglaaDoor.Store
set_option linter.unusedVariables false
set_option linter.unusedSimpArgs false
section
variable {P : Nat → Prop} {w : World} {B g : Nat} {vl vm vb : Value} {rs : List (List Int)} {mk bs : List Int}
set_option maxHeartbeats 8000000 in
set_option maxRecDepth 100000 in
theorem append_calls (hP : ∀ k, w.heap.size ≤ k → P k) (A : Option Addr) (n c : Nat) (r : List Int) (h : StP P w B g vl vm vb rs mk bs) (hB : B ≤ w.heap.size) (hr : ∀ W, Kept w W (Store.Touch g vl vb) → Kd.C (Kd.int .u8) W A n r) (hc : n ≤ c) (hby : ∀ x ∈ r, 0 ≤ x ∧ x < 256) (hmb : ∀ x ∈ mk, 0 ≤ x ∧ x < 256) (hml : mk.length ≤ 16) (hn : n ≤ 1048576) (hrs : rs.length ≤ 1000000) (hbs : bs.length ≤ 100000000)
    (hLf : LaidAt w 0 firstA) (hL : LaidAt w 1 constA) :
    Calls Tryd.prog 21 #[.pointer (some ⟨g, 0, none⟩), .slice A n c] w fun e w' => e = .returned (.int .i64 0) ∧ (∃ v1 m1 b1, StP P w' B g v1 m1 b1 (rs ++ [r]) (sealV mk r) (bs ++ joinL [r, sealV mk r])) ∧ Below B w w' ∧ Kept w w' (Store.Touch g vl vb) := by
  have hrl : r.length = n := (hr w (Kept.refl _ _)).1
  obtain ⟨Am, cm, hvm⟩ := Kd.R_slice h.2.2.2.1
  subst hvm
  have HRm := Aside0.mk (Kd.R_reads' h.2.2.2.1)
  have HSl := Aside0.mk (seal_calls Am mk.length cm mk A n c r w HRm.out.2.2 HRm.out.2.1 (hr w (Kept.refl _ _)) hc (by omega) hmb hby hLf hL)
  have HH := Aside0.mk h
  have HB := Aside0.mk hB
  have HC := Aside0.mk hr
  have HCc := Aside0.mk hc
  have HRs := Aside0.mk hrs
  have HBs := Aside0.mk hbs
  have HRl := Aside0.mk hrl
  have hd : decide (1048576 < (n : Int)) = false := by simp; omega
  have hm := st1 h
  have HSn := Aside0.mk (sealV_len mk r)
  have HJl : Aside0 ((joinL [r, sealV mk r]).length ≤ 1048600) := ⟨by rw [joinTwo_len, sealV_len]; omega⟩
  have HN := Aside0.mk hn
  have HP := Aside0.mk hP
  clear h hB hr hc hby hmb hml hn hrs hbs hLf hL hrl hP
  go_enter Tryd.func21, Tryd.ntmps21
  go_wp2_with (fail)
  refine HSl.out.mono ?_
  rintro e w1 ⟨vs, rfl, hR, hb⟩
  obtain ⟨sl, hsl⟩ : ∃ sl, sl = sealV mk r := ⟨_, rfl⟩
  rw [← hsl] at hR HSn HJl
  have HSe := Aside0.mk hsl
  obtain ⟨As, cs, rfl⟩ := Kd.R_slice hR
  have HS := Aside0.mk hR
  have HB1 := Aside0.mk hb
  clear hR hb hm hsl
  have HW1 : Aside0 (Below w.heap.size w w1.drew) := ⟨below_drew HB1.out⟩
  have HH1 : Aside0 (StP P w1.drew B g vl (.slice Am mk.length cm) vb rs mk bs) := ⟨(HH.out.below HB1.out).below (below_drew (Below.refl _ _))⟩
  have HS1 : Aside0 (kB.R 5 w1.drew B (fun k => P k ∧ some k ≠ vb.ownBlock) (.slice As sl.length cs) sl) := ⟨Kd.R_drew (Kd.R_lower (Kd.R_mono (Kd.R_bound HS.out) (fun k hk => ⟨HP.out k hk.2.1, Kd.fresh_ok HH.out.2.2.2.2 k hk.2.1⟩)) HB.out)⟩
  have HCl := Aside0.mk (Clone.clone_calls A n c r w1.drew (HC.out _ (Kept.of_below HW1.out _)) (by have := HN.out; omega))
  go_upto_region 6 with (fail)
  refine start_ (n := 7) (S := fun w' => True) (ds := []) #[false, false, false, false, false, false, false] (by kernel_rfl) rfl rfl trivial (fun hHeld => ?_)
  refine pure_ (i := 0) (N := some 20) (v := ?_) (a' := ?_) #[true, false, false, false, false, false, false] rfl rfl (by kernel_rfl) (fun _ _ _ h => h) (Or.inl ⟨by rfl, ?_⟩) ?_ ?_
  rotate_left
  · intro w'
    go_simp
    with_reducible rfl
  rotate_left
  · simp only [Act.put, List.setIfInBounds_toArray, List.set_cons_zero, List.set_cons_succ]
    rfl
  refine pure_ (i := 1) (N := some 21) (v := ?_) (a' := ?_) #[true, true, false, false, false, false, false] rfl rfl (by kernel_rfl) (fun _ _ _ h => h) (Or.inl ⟨by rfl, ?_⟩) ?_ ?_
  rotate_left
  · intro w'
    go_simp
    with_reducible rfl
  rotate_left
  · simp only [Act.put, List.setIfInBounds_toArray, List.set_cons_zero, List.set_cons_succ]
    rfl
  refine pure_ (i := 2) (N := some 22) (v := ?_) (a' := ?_) #[true, true, true, false, false, false, false] rfl rfl (by kernel_rfl) (fun _ _ _ h => h) (Or.inl ⟨by rfl, ?_⟩) ?_ ?_
  rotate_left
  · intro w'
    go_simp
    with_reducible rfl
  rotate_left
  · simp only [Act.put, List.setIfInBounds_toArray, List.set_cons_zero, List.set_cons_succ]
    rfl
  refine pure_ (i := 3) (N := some 23) (v := ?_) (a' := ?_) #[true, true, true, true, false, false, false] rfl rfl (by kernel_rfl) (fun _ _ _ h => h) (Or.inl ⟨by rfl, ?_⟩) ?_ ?_
  rotate_left
  · intro w'
    go_simp
    with_reducible rfl
  rotate_left
  · simp only [Act.put, List.setIfInBounds_toArray, List.set_cons_zero, List.set_cons_succ]
    rfl
  refine pure_ (i := 5) (N := some 25) (v := ?_) (a' := ?_) #[true, true, true, true, false, true, false] rfl rfl (by kernel_rfl) (fun _ _ _ h => h) (Or.inl ⟨by rfl, ?_⟩) ?_ ?_
  rotate_left
  · intro w'
    go_simp
    with_reducible rfl
  rotate_left
  · simp only [Act.put, List.setIfInBounds_toArray, List.set_cons_zero, List.set_cons_succ]
    rfl
  refine one_ (i := 4) (N := some 24) #[true, true, true, true, true, true, false] rfl rfl (by kernel_rfl) (by decide) (fun K hK => ?_)
  refine goes_ Tryd.func27 (by kernel_rfl) rfl #[.slice A n c] (by rfl) rfl rfl (by simp only [List.map_toArray, List.map_cons, List.map_nil]; rfl) ?_
  with_reducible refine (HCl.out).mono ?_
  rintro e w2 ⟨vx, rfl, hRx, hb2⟩
  refine ⟨_, rfl, ?_⟩
  have HB2 : Aside0 (Below w.heap.size w w2) := ⟨below_step HW1.out hb2⟩
  have HH2 := Aside0.mk (HH1.out.below hb2)
  have HS2 := Aside0.mk (Kd.R_below HS1.out hb2)
  have HX2 : Aside0 (kB.R 5 w2 B (fun k => P k ∧ some k ≠ vb.ownBlock) vx r) := ⟨Kd.R_lower (Kd.R_mono (Kd.R_bound hRx) (fun k hk => ⟨HP.out k (Nat.le_trans HW1.out.size hk.2.1), Kd.fresh_ok HH1.out.2.2.2.2 k hk.2.1⟩)) (Nat.le_trans HB.out HW1.out.size)⟩
  clear hRx hb2
  obtain ⟨Ax, cx, rfl⟩ := Kd.R_slice HX2.out
  refine hK.out _ _ trivial (fun hHeld => ?_)
  clear hK K
  refine norm_ (a' := ?_) ?_ ?_
  rotate_left
  · show Act.put _ (some 24) _ = _
    simp only [Act.put, List.setIfInBounds_toArray, List.set_cons_zero, List.set_cons_succ]
    rfl
  refine one_ (i := 6) (N := some 26) #[true, true, true, true, true, true, true] rfl rfl (by kernel_rfl) (by decide) (fun K hK => ?_)
  refine goes_ Tryd.func31 (by kernel_rfl) rfl #[.pointer (some ⟨g, 0, none⟩), .slice Ax r.length cx, .slice As sl.length cs] (by rfl) rfl rfl (by simp only [List.map_toArray, List.map_cons, List.map_nil]; rfl) ?_
  with_reducible refine (add_calls (.slice Ax r.length cx) (.slice As sl.length cs) r sl HH2.out (Nat.le_trans HB.out HB2.out.size) HX2.out HS2.out HRs.out (fun k hk => HP.out k (Nat.le_trans HB2.out.size hk))).mono ?_
  rintro e w3 ⟨rfl, ⟨v1, hS3⟩, hb3, hk3⟩
  refine ⟨_, rfl, ?_⟩
  have HH3 := Aside0.mk hS3
  have HB3 : Aside0 (Below B w w3) := ⟨((Below.mono HB2.out HB.out)).trans hb3⟩
  have HK3 : Aside0 (Kept w w3.drew (Store.Touch g vl vb)) := ⟨((Kept.of_below HB2.out _).then_ hk3 (fun k hk => .inl hk)).drew⟩
  clear hS3 hb3 hk3
  refine hK.out _ _ trivial (fun hHeld => ?_)
  clear hK K
  refine norm_ (a' := ?_) ?_ ?_
  rotate_left
  · show Act.put _ (some 26) _ = _
    simp only [Act.put, List.setIfInBounds_toArray, List.set_cons_zero, List.set_cons_succ]
    rfl
  refine done_ (by kernel_rfl) ?_
  clear hHeld HCl HS HS1 HH1 HW1 HB1
  obtain ⟨Al, cl, hvl⟩ := Kd.R_slice HH3.out.2.2.1
  obtain ⟨Ab, cb, hvb⟩ := Kd.R_slice HH3.out.2.2.2.2
  subst hvl hvb
  have HS3 := Aside0.mk (Kd.R_reads' HH3.out.2.2.2.1)
  have HJ : Aside0 (Calls Tryd.prog 24 #[.slice (some ⟨w3.heap.size, 0, none⟩) 2 2] (w3.alloc (.cells #[.slice A n c, .slice As sl.length cs] 22)).drew fun e w' => ∃ v, e = .returned v ∧ Kd.R (Kd.int .u8) 5 w' (w3.alloc (.cells #[.slice A n c, .slice As sl.length cs] 22)).drew.heap.size (fun _ => True) v (joinL [r, sl]) ∧ Below (w3.alloc (.cells #[.slice A n c, .slice As sl.length cs] 22)).drew.heap.size (w3.alloc (.cells #[.slice A n c, .slice As sl.length cs] 22)).drew w') := ⟨join2 A n c r As sl.length cs sl w3.drew (HC.out _ HK3.out) HCc.out (Kd.C_below HS3.out.2.2 (below_drew (Below.refl _ _))) HS3.out.2.1 (by have := HRl.out; have := HN.out; have := HSn.out; omega)⟩
  have HBa : Aside0 (Below w3.drew.heap.size w3.drew (w3.alloc (.cells #[.slice A n c, .slice As sl.length cs] 22)).drew) := ⟨bel_alloc (Below.refl _ _) _⟩
  have HB4 : Aside0 (Below B w w3.drew) := ⟨below_drew HB3.out⟩
  have HH4 : Aside0 (StP P w3.drew B g (.slice Al (rs ++ [r]).length cl) (.slice As sl.length cs) (.slice Ab bs.length cb) (rs ++ [r]) sl bs) := ⟨HH3.out.below (below_drew (Below.refl _ _))⟩
  have k2 : w3.drew.cell? ⟨g, 2, none⟩ = some (.slice Ab bs.length cb) := st2 HH4.out
  go_upto_region 7 with (fail)
  refine start_ (n := 13) (S := fun w' => w'.cell? ⟨g, 2, none⟩ = some (.slice Ab bs.length cb)) (ds := [12]) #[false, false, false, false, false, false, false, false, false, false, false, false, false] (by kernel_rfl) rfl rfl (k2) (fun hHeld => ?_)
  refine pure_ (i := 0) (N := some 27) (v := ?_) (a' := ?_) #[true, false, false, false, false, false, false, false, false, false, false, false, false] rfl rfl (by kernel_rfl) (fun _ _ _ h => h) (Or.inl ⟨by rfl, ?_⟩) ?_ ?_
  rotate_left
  · intro w'
    go_simp
    with_reducible rfl
  rotate_left
  · simp only [Act.put, List.setIfInBounds_toArray, List.set_cons_zero, List.set_cons_succ]
    rfl
  refine pure_ (i := 1) (N := some 28) (v := ?_) (a' := ?_) #[true, true, false, false, false, false, false, false, false, false, false, false, false] rfl rfl (by kernel_rfl) (fun _ _ _ h => h) (Or.inl ⟨by rfl, ?_⟩) ?_ ?_
  rotate_left
  · intro w'
    go_simp
    with_reducible rfl
  rotate_left
  · simp only [Act.put, List.setIfInBounds_toArray, List.set_cons_zero, List.set_cons_succ]
    rfl
  refine pure_ (i := 2) (N := some 29) (v := ?_) (a' := ?_) #[true, true, true, false, false, false, false, false, false, false, false, false, false] rfl rfl (by kernel_rfl) (fun _ _ _ h => h) (Or.inl ⟨by rfl, ?_⟩) ?_ ?_
  rotate_left
  · intro w'
    go_simp
    with_reducible rfl
  rotate_left
  · simp only [Act.put, List.setIfInBounds_toArray, List.set_cons_zero, List.set_cons_succ]
    rfl
  refine pure_ (i := 3) (N := some 30) (v := ?_) (a' := ?_) #[true, true, true, true, false, false, false, false, false, false, false, false, false] rfl rfl (by kernel_rfl) (fun _ _ _ h => h) (Or.inl ⟨by rfl, ?_⟩) ?_ ?_
  rotate_left
  · intro w'
    go_simp
    with_reducible rfl
  rotate_left
  · simp only [Act.put, List.setIfInBounds_toArray, List.set_cons_zero, List.set_cons_succ]
    rfl
  refine pure_ (i := 5) (N := some 32) (v := ?_) (a' := ?_) #[true, true, true, true, false, true, false, false, false, false, false, false, false] rfl rfl (by kernel_rfl) (fun _ _ _ h => h) (Or.inl ⟨by rfl, ?_⟩) ?_ ?_
  rotate_left
  · intro w'
    go_simp
    with_reducible rfl
  rotate_left
  · simp only [Act.put, List.setIfInBounds_toArray, List.set_cons_zero, List.set_cons_succ]
    rfl
  refine pure_ (i := 6) (N := some 33) (v := ?_) (a' := ?_) #[true, true, true, true, false, true, true, false, false, false, false, false, false] rfl rfl (by kernel_rfl) (fun _ _ _ h => h) (Or.inl ⟨by rfl, ?_⟩) ?_ ?_
  rotate_left
  · intro w'
    go_simp
    with_reducible rfl
  rotate_left
  · simp only [Act.put, List.setIfInBounds_toArray, List.set_cons_zero, List.set_cons_succ]
    rfl
  refine take_ (i := 4) (N := some 31) (v := ?_) (a' := ?_) #[true, true, true, true, true, true, true, false, false, false, false, false, false] rfl rfl (by kernel_rfl) (fun _ _ _ h => h) (Or.inl ⟨by rfl, ?_⟩) hHeld ?_ ?_
  rotate_left
  · intro w' s0
    go_simp
    with_reducible rfl
  rotate_left
  · simp only [Act.put, List.setIfInBounds_toArray, List.set_cons_zero, List.set_cons_succ]
    rfl
  refine one_ (i := 7) (N := some 34) #[true, true, true, true, true, true, true, true, false, false, false, false, false] rfl rfl (by kernel_rfl) (by decide) (fun K hK => ?_)
  refine value_ (w1 := ?_) (v := ?_) (by rfl) rfl ?_ ?_
  rotate_left 2
  · go_simp
    constructor
    · rfl
    · rfl
  refine hK.out _ _ (cell_keep (bel_alloc (Below.refl _ _) _) k2) (fun hHeld => ?_)
  clear hK K
  refine norm_ (a' := ?_) ?_ ?_
  rotate_left
  · show Act.put _ (some 34) _ = _
    simp only [Act.put, List.setIfInBounds_toArray, List.set_cons_zero, List.set_cons_succ]
    rfl
  refine one_ (i := 8) (N := some 35) #[true, true, true, true, true, true, true, true, true, false, false, false, false] rfl rfl (by kernel_rfl) (by decide) (fun K hK => ?_)
  refine goes_ Tryd.func24 (by kernel_rfl) rfl #[.slice (some ⟨w3.heap.size, 0, none⟩) 2 2] (by rfl) rfl rfl (by simp only [List.map_toArray, List.map_cons, List.map_nil]; rfl) ?_
  with_reducible refine (HJ.out).mono ?_
  rintro e w4 ⟨vj, rfl, hRj, hb4⟩
  refine ⟨_, rfl, ?_⟩
  have HB5 : Aside0 (Below w3.drew.heap.size w3.drew w4) := ⟨below_step HBa.out hb4⟩
  obtain ⟨Aj, cj, rfl⟩ := Kd.R_slice hRj
  have HJ5 := Aside0.mk (Kd.R_reads' hRj).2.2
  have HH5 := Aside0.mk (HH4.out.below HB5.out)
  have HB6 : Aside0 (Below B w w4) := ⟨HB4.out.trans (Below.mono HB5.out (Nat.le_trans HB.out HB4.out.size))⟩
  have HK5 : Aside0 (Kept w w4 (Store.Touch g vl (.slice Ab bs.length cb))) := ⟨HK3.out.below HB5.out⟩
  clear hRj hb4
  refine hK.out _ _ (cell_keep HB5.out k2) (fun hHeld => ?_)
  clear hK K
  refine norm_ (a' := ?_) ?_ ?_
  rotate_left
  · show Act.put _ (some 35) _ = _
    simp only [Act.put, List.setIfInBounds_toArray, List.set_cons_zero, List.set_cons_succ]
    rfl
  refine one_ (i := 9) (N := some 36) #[true, true, true, true, true, true, true, true, true, true, false, false, false] rfl rfl (by kernel_rfl) (by decide) (fun K hK => ?_)
  refine Kd.R_append_rows_step kB (w0 := w) (W := w4) B (by rfl) (.tmp 31) (.tmp 35) 22 5 (.int .u8 0) 1 rfl Tryd.underlying22 Store.info_u8 rfl (by decide) (by decide) (.slice Ab bs.length cb) bs (joinL [r, sl]) Aj (joinL [r, sl]).length cj P (fun _ => False) rfl rfl HH5.out.2.2.2.2 HJ5.out (fun _ _ h => h) (fun _ h => h.elim) (fun k hk => HP.out k (Nat.le_trans HB6.out.size hk)) HB6.out (Nat.le_trans HB.out HB6.out.size) (by have := HBs.out; have := HJl.out; omega) ?_
  intro v1 w5 ho hb hg hat
  have HLd := Aside0.mk (HH5.out.laid hg hat ho)
  have HB7 := Aside0.mk hb
  have HK7 : Aside0 (Kept w w5 (Store.Touch g vl (.slice Ab bs.length cb))) := ⟨HK5.out.of_grown hg (fun k hk => .inl (.inr (.inr hk)))⟩
  obtain ⟨A1, c1, rfl⟩ := Kd.R_slice ho
  have j2 : w5.cell? ⟨g, 2, none⟩ = some (.slice Ab bs.length cb) := blk_cell HLd.out.1 2
  have f2 : w5.frozen? ⟨g, 2, none⟩ = false := blk_frozen HLd.out.1 2
  clear ho hb hg hat
  refine hK.out _ _ (j2) (fun hHeld => ?_)
  clear hK K
  refine norm_ (a' := ?_) ?_ ?_
  rotate_left
  · show Act.put _ (some 36) _ = _
    simp only [Act.put, List.setIfInBounds_toArray, List.set_cons_zero, List.set_cons_succ]
    rfl
  refine pure_ (i := 10) (N := some 37) (v := ?_) (a' := ?_) #[true, true, true, true, true, true, true, true, true, true, true, false, false] rfl rfl (by kernel_rfl) (fun _ _ _ h => h) (Or.inl ⟨by rfl, ?_⟩) ?_ ?_
  rotate_left
  · intro w'
    go_simp
    with_reducible rfl
  rotate_left
  · simp only [Act.put, List.setIfInBounds_toArray, List.set_cons_zero, List.set_cons_succ]
    rfl
  refine pure_ (i := 11) (N := some 38) (v := ?_) (a' := ?_) #[true, true, true, true, true, true, true, true, true, true, true, true, false] rfl rfl (by kernel_rfl) (fun _ _ _ h => h) (Or.inl ⟨by rfl, ?_⟩) ?_ ?_
  rotate_left
  · intro w'
    go_simp
    with_reducible rfl
  rotate_left
  · simp only [Act.put, List.setIfInBounds_toArray, List.set_cons_zero, List.set_cons_succ]
    rfl
  refine last_ (i := 12) (N := none) #[true, true, true, true, true, true, true, true, true, true, true, true, true] rfl rfl (by kernel_rfl) (by decide) (fun K hK => ?_)
  refine skip_ (w1 := ?_) (by rfl) rfl ?_ ?_
  rotate_left
  · go_simp
    rfl
  refine hK.out _ _ ?_
  clear hK K
  refine done_ (by kernel_rfl) ?_
  have hS := HLd.out.2
  rw [List.length_append] at hS
  have HH6 := Aside0.mk hS
  have HB8 : Aside0 (Below B w (w5.setCell ⟨g, 2, none⟩ (.slice A1 (bs.length + (joinL [r, sl]).length) c1))) := ⟨HB7.out.setCell HLd.out.2.1 _⟩
  have HK8 : Aside0 (Kept w (w5.setCell ⟨g, 2, none⟩ (.slice A1 (bs.length + (joinL [r, sl]).length) c1)) (Store.Touch g vl (.slice Ab bs.length cb))) := ⟨HK7.out.setCell (.inl (.inl rfl)) _⟩
  clear hS
  go_wp2
  go_ret
  exact ⟨rfl, ⟨_, _, _, by rw [← HSe.out]; exact HH6.out⟩, HB8.out, HK8.out⟩
end
end Go.Proofs.YtpndobhakmjglaaDoor.StoreP

