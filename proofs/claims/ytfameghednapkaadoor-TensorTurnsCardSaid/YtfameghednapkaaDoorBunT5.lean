/- Texts put together: Turn1, TenAdd, TenTurn, TenAngle, Rot1, EachP. -/
import Derived.Test.YtfameghednapkaaDoorBunT4
set_option linter.unusedVariables false
set_option linter.unusedSimpArgs false
namespace Go.Proofs.YtfameghednapkaaDoor.Ten
open Go.RowKit Go.Proofs.YtfameghednapkaaDoorW.PrintWords Go.Proofs.YtfameghednapkaaDoorW.PrintLast Go.Proofs.YtfameghednapkaaDoorW.PrintMore Go.Proofs.YtfameghednapkaaDoor.K Go.Proofs.YtfameghednapkaaDoor.RI Go.Proofs.YtfameghednapkaaDoor.Fixed
set_option linter.unusedVariables false
set_option linter.unusedSimpArgs false
theorem mulV_T {a b : Int} (ha : inR a = true) (hb : inR b = true) : mulV a b = mulT a b := by
  unfold mulV mulT
  rw [if_pos ⟨ha, hb⟩]
  rfl

set_option maxHeartbeats 4000000 in
set_option maxRecDepth 100000 in
theorem turn1_0 (xa xb : Int) (Ba Bb : Nat) (w : World) (ha : inR xa = true) (hb : inR xb = true) (ca : w.cell? ⟨Ba, 0, none⟩ = some (.int .i64 xa)) (cb : w.cell? ⟨Bb, 0, none⟩ = some (.int .i64 xb)) :
    Calls Tryd.prog 68 #[.int .i64 0, .pointer (some ⟨Ba, 0, none⟩), .pointer (some ⟨Bb, 0, none⟩)] w fun e w' => e = .returned (.tuple #[.int .i64 (mulT xa xb).1, .int .i64 (mulT xa xb).2]) ∧ Below w.heap.size w w' := by
  have HM : Aside0 (Calls Tryd.prog 69 #[.int .i64 xa, .int .i64 xb] w.drew fun e w' => e = .returned (.tuple #[.int .i64 (mulT xa xb).1, .int .i64 (mulT xa xb).2]) ∧ Below w.drew.heap.size w.drew w') := ⟨Mul_calls xa xb w.drew (mulT xa xb).1 (mulT xa xb).2 (mulV_T ha hb)⟩
  have z0 : IntKind.i64.wrap 0 = 0 := by decide
  have z1 : IntKind.i64.wrap 1 = 1 := by decide
  have hca : w.drew.cell? ⟨Ba, 0, none⟩ = some (.int .i64 xa) := ca
  have hcb : w.drew.cell? ⟨Bb, 0, none⟩ = some (.int .i64 xb) := cb
  clear ha hb ca cb
  generalize mulT xa xb = p at *
  obtain ⟨r1, r2⟩ := p
  go_enter Tryd.func68, Tryd.ntmps68
  go_upto_region 1 with (fail)
  refine start_ (n := 13) (S := fun w' => w'.cell? ⟨Ba, 0, none⟩ = some (.int .i64 xa) ∧ w'.cell? ⟨Bb, 0, none⟩ = some (.int .i64 xb)) (ds := []) #[false, false, false, false, false, false, false, false, false, false, false, false, false] (by kernel_rfl) rfl rfl ⟨hca, hcb⟩ (fun hHeld => ?_)
  refine pure_ (i := 0) (N := some 6) (v := ?_) (a' := ?_) #[true, false, false, false, false, false, false, false, false, false, false, false, false] rfl rfl (by kernel_rfl) (fun _ _ _ h => h) (Or.inl ⟨by rfl, ?_⟩) ?_ ?_
  rotate_left
  · intro w'
    go_simp
    with_reducible rfl
  rotate_left
  · simp only [Act.put, List.setIfInBounds_toArray, List.set_cons_zero, List.set_cons_succ]
    rfl
  refine pure_ (i := 1) (N := some 7) (v := ?_) (a' := ?_) #[true, true, false, false, false, false, false, false, false, false, false, false, false] rfl rfl (by kernel_rfl) (fun _ _ _ h => h) (Or.inl ⟨by rfl, ?_⟩) ?_ ?_
  rotate_left
  · intro w'
    go_simp
    with_reducible rfl
  rotate_left
  · simp only [Act.put, List.setIfInBounds_toArray, List.set_cons_zero, List.set_cons_succ]
    rfl
  refine pure_ (i := 2) (N := some 8) (v := ?_) (a' := ?_) #[true, true, true, false, false, false, false, false, false, false, false, false, false] rfl rfl (by kernel_rfl) (fun _ _ _ h => h) (Or.inl ⟨by rfl, ?_⟩) ?_ ?_
  rotate_left
  · intro w'
    go_simp
    with_reducible rfl
  rotate_left
  · simp only [Act.put, List.setIfInBounds_toArray, List.set_cons_zero, List.set_cons_succ]
    rfl
  refine pure_ (i := 4) (N := some 10) (v := ?_) (a' := ?_) #[true, true, true, false, true, false, false, false, false, false, false, false, false] rfl rfl (by kernel_rfl) (fun _ _ _ h => h) (Or.inl ⟨by rfl, ?_⟩) ?_ ?_
  rotate_left
  · intro w'
    go_simp
    with_reducible rfl
  rotate_left
  · simp only [Act.put, List.setIfInBounds_toArray, List.set_cons_zero, List.set_cons_succ]
    rfl
  refine pure_ (i := 5) (N := some 11) (v := ?_) (a' := ?_) #[true, true, true, false, true, true, false, false, false, false, false, false, false] rfl rfl (by kernel_rfl) (fun _ _ _ h => h) (Or.inl ⟨by rfl, ?_⟩) ?_ ?_
  rotate_left
  · intro w'
    go_simp
    with_reducible rfl
  rotate_left
  · simp only [Act.put, List.setIfInBounds_toArray, List.set_cons_zero, List.set_cons_succ]
    rfl
  refine pure_ (i := 6) (N := some 12) (v := ?_) (a' := ?_) #[true, true, true, false, true, true, true, false, false, false, false, false, false] rfl rfl (by kernel_rfl) (fun _ _ _ h => h) (Or.inl ⟨by rfl, ?_⟩) ?_ ?_
  rotate_left
  · intro w'
    go_simp
    with_reducible rfl
  rotate_left
  · simp only [Act.put, List.setIfInBounds_toArray, List.set_cons_zero, List.set_cons_succ]
    rfl
  refine take_ (i := 3) (N := some 9) (v := ?_) (a' := ?_) #[true, true, true, true, true, true, true, false, false, false, false, false, false] rfl rfl (by kernel_rfl) (fun _ _ _ h => h) (Or.inl ⟨by rfl, ?_⟩) hHeld ?_ ?_
  rotate_left
  · rintro w' ⟨s0, s1⟩
    go_simp
    with_reducible rfl
  rotate_left
  · simp only [Act.put, List.setIfInBounds_toArray, List.set_cons_zero, List.set_cons_succ]
    rfl
  refine take_ (i := 7) (N := some 13) (v := ?_) (a' := ?_) #[true, true, true, true, true, true, true, true, false, false, false, false, false] rfl rfl (by kernel_rfl) (fun _ _ _ h => h) (Or.inl ⟨by rfl, ?_⟩) hHeld ?_ ?_
  rotate_left
  · rintro w' ⟨s0, s1⟩
    go_simp
    with_reducible rfl
  rotate_left
  · simp only [Act.put, List.setIfInBounds_toArray, List.set_cons_zero, List.set_cons_succ]
    rfl
  refine one_ (i := 8) (N := some 14) #[true, true, true, true, true, true, true, true, true, false, false, false, false] rfl rfl (by kernel_rfl) (by decide) (fun K hK => ?_)
  refine goes_ Tryd.func69 (by kernel_rfl) rfl #[.int .i64 xa, .int .i64 xb] (by rfl) rfl rfl (by simp only [List.map_toArray, List.map_cons, List.map_nil]; rfl) ?_
  with_reducible refine (HM.out).mono ?_
  rintro e w3 ⟨rfl, hb3⟩
  refine ⟨_, rfl, ?_⟩
  refine hK.out _ _ ⟨cell_keep hb3 hca, cell_keep hb3 hcb⟩ (fun hHeld => ?_)
  clear hK K
  refine norm_ (a' := ?_) ?_ ?_
  rotate_left
  · show Act.put _ (some 14) _ = _
    simp only [Act.put, List.setIfInBounds_toArray, List.set_cons_zero, List.set_cons_succ]
    rfl
  refine pure_ (i := 9) (N := some 15) (v := ?_) (a' := ?_) #[true, true, true, true, true, true, true, true, true, true, false, false, false] rfl rfl (by kernel_rfl) (fun _ _ _ h => h) (Or.inl ⟨by rfl, ?_⟩) ?_ ?_
  rotate_left
  · intro w'
    go_simp
    with_reducible rfl
  rotate_left
  · simp only [Act.put, List.setIfInBounds_toArray, List.set_cons_zero, List.set_cons_succ]
    rfl
  refine pure_ (i := 10) (N := some 16) (v := ?_) (a' := ?_) #[true, true, true, true, true, true, true, true, true, true, true, false, false] rfl rfl (by kernel_rfl) (fun _ _ _ h => h) (Or.inl ⟨by rfl, ?_⟩) ?_ ?_
  rotate_left
  · intro w'
    go_simp
    with_reducible rfl
  rotate_left
  · simp only [Act.put, List.setIfInBounds_toArray, List.set_cons_zero, List.set_cons_succ]
    rfl
  refine pure_ (i := 11) (N := some 4) (v := ?_) (a' := ?_) #[true, true, true, true, true, true, true, true, true, true, true, true, false] rfl rfl (by kernel_rfl) (fun _ _ _ h => h) (Or.inl ⟨by rfl, ?_⟩) ?_ ?_
  rotate_left
  · intro w'
    go_simp
    with_reducible rfl
  rotate_left
  · simp only [Act.put, List.setIfInBounds_toArray, List.set_cons_zero, List.set_cons_succ]
    rfl
  refine pure_ (i := 12) (N := some 5) (v := ?_) (a' := ?_) #[true, true, true, true, true, true, true, true, true, true, true, true, true] rfl rfl (by kernel_rfl) (fun _ _ _ h => h) (Or.inl ⟨by rfl, ?_⟩) ?_ ?_
  rotate_left
  · intro w'
    go_simp
    with_reducible rfl
  rotate_left
  · simp only [Act.put, List.setIfInBounds_toArray, List.set_cons_zero, List.set_cons_succ]
    rfl
  refine done_ (by kernel_rfl) ?_
  go_wp2
  go_ret2
  exact ⟨rfl, below_step (below_drew (Below.refl _ _)) hb3⟩
set_option maxHeartbeats 4000000 in
set_option maxRecDepth 100000 in
theorem turn1_1 (xa xb : Int) (Ba Bb : Nat) (w : World) (ha : inR xa = true) (hb : inR xb = true) (ca : w.cell? ⟨Ba, 0, none⟩ = some (.int .i64 xa)) (cb : w.cell? ⟨Bb, 1, none⟩ = some (.int .i64 xb)) :
    Calls Tryd.prog 68 #[.int .i64 1, .pointer (some ⟨Ba, 0, none⟩), .pointer (some ⟨Bb, 0, none⟩)] w fun e w' => e = .returned (.tuple #[.int .i64 (mulT xa xb).1, .int .i64 (mulT xa xb).2]) ∧ Below w.heap.size w w' := by
  have HM : Aside0 (Calls Tryd.prog 69 #[.int .i64 xa, .int .i64 xb] w.drew fun e w' => e = .returned (.tuple #[.int .i64 (mulT xa xb).1, .int .i64 (mulT xa xb).2]) ∧ Below w.drew.heap.size w.drew w') := ⟨Mul_calls xa xb w.drew (mulT xa xb).1 (mulT xa xb).2 (mulV_T ha hb)⟩
  have z0 : IntKind.i64.wrap 0 = 0 := by decide
  have z1 : IntKind.i64.wrap 1 = 1 := by decide
  have hca : w.drew.cell? ⟨Ba, 0, none⟩ = some (.int .i64 xa) := ca
  have hcb : w.drew.cell? ⟨Bb, 1, none⟩ = some (.int .i64 xb) := cb
  clear ha hb ca cb
  generalize mulT xa xb = p at *
  obtain ⟨r1, r2⟩ := p
  go_enter Tryd.func68, Tryd.ntmps68
  go_upto_region 1 with (fail)
  refine start_ (n := 13) (S := fun w' => w'.cell? ⟨Ba, 0, none⟩ = some (.int .i64 xa) ∧ w'.cell? ⟨Bb, 1, none⟩ = some (.int .i64 xb)) (ds := []) #[false, false, false, false, false, false, false, false, false, false, false, false, false] (by kernel_rfl) rfl rfl ⟨hca, hcb⟩ (fun hHeld => ?_)
  refine pure_ (i := 0) (N := some 6) (v := ?_) (a' := ?_) #[true, false, false, false, false, false, false, false, false, false, false, false, false] rfl rfl (by kernel_rfl) (fun _ _ _ h => h) (Or.inl ⟨by rfl, ?_⟩) ?_ ?_
  rotate_left
  · intro w'
    go_simp
    with_reducible rfl
  rotate_left
  · simp only [Act.put, List.setIfInBounds_toArray, List.set_cons_zero, List.set_cons_succ]
    rfl
  refine pure_ (i := 1) (N := some 7) (v := ?_) (a' := ?_) #[true, true, false, false, false, false, false, false, false, false, false, false, false] rfl rfl (by kernel_rfl) (fun _ _ _ h => h) (Or.inl ⟨by rfl, ?_⟩) ?_ ?_
  rotate_left
  · intro w'
    go_simp
    with_reducible rfl
  rotate_left
  · simp only [Act.put, List.setIfInBounds_toArray, List.set_cons_zero, List.set_cons_succ]
    rfl
  refine pure_ (i := 2) (N := some 8) (v := ?_) (a' := ?_) #[true, true, true, false, false, false, false, false, false, false, false, false, false] rfl rfl (by kernel_rfl) (fun _ _ _ h => h) (Or.inl ⟨by rfl, ?_⟩) ?_ ?_
  rotate_left
  · intro w'
    go_simp
    with_reducible rfl
  rotate_left
  · simp only [Act.put, List.setIfInBounds_toArray, List.set_cons_zero, List.set_cons_succ]
    rfl
  refine pure_ (i := 4) (N := some 10) (v := ?_) (a' := ?_) #[true, true, true, false, true, false, false, false, false, false, false, false, false] rfl rfl (by kernel_rfl) (fun _ _ _ h => h) (Or.inl ⟨by rfl, ?_⟩) ?_ ?_
  rotate_left
  · intro w'
    go_simp
    with_reducible rfl
  rotate_left
  · simp only [Act.put, List.setIfInBounds_toArray, List.set_cons_zero, List.set_cons_succ]
    rfl
  refine pure_ (i := 5) (N := some 11) (v := ?_) (a' := ?_) #[true, true, true, false, true, true, false, false, false, false, false, false, false] rfl rfl (by kernel_rfl) (fun _ _ _ h => h) (Or.inl ⟨by rfl, ?_⟩) ?_ ?_
  rotate_left
  · intro w'
    go_simp
    with_reducible rfl
  rotate_left
  · simp only [Act.put, List.setIfInBounds_toArray, List.set_cons_zero, List.set_cons_succ]
    rfl
  refine pure_ (i := 6) (N := some 12) (v := ?_) (a' := ?_) #[true, true, true, false, true, true, true, false, false, false, false, false, false] rfl rfl (by kernel_rfl) (fun _ _ _ h => h) (Or.inl ⟨by rfl, ?_⟩) ?_ ?_
  rotate_left
  · intro w'
    go_simp
    with_reducible rfl
  rotate_left
  · simp only [Act.put, List.setIfInBounds_toArray, List.set_cons_zero, List.set_cons_succ]
    rfl
  refine take_ (i := 3) (N := some 9) (v := ?_) (a' := ?_) #[true, true, true, true, true, true, true, false, false, false, false, false, false] rfl rfl (by kernel_rfl) (fun _ _ _ h => h) (Or.inl ⟨by rfl, ?_⟩) hHeld ?_ ?_
  rotate_left
  · rintro w' ⟨s0, s1⟩
    go_simp
    with_reducible rfl
  rotate_left
  · simp only [Act.put, List.setIfInBounds_toArray, List.set_cons_zero, List.set_cons_succ]
    rfl
  refine take_ (i := 7) (N := some 13) (v := ?_) (a' := ?_) #[true, true, true, true, true, true, true, true, false, false, false, false, false] rfl rfl (by kernel_rfl) (fun _ _ _ h => h) (Or.inl ⟨by rfl, ?_⟩) hHeld ?_ ?_
  rotate_left
  · rintro w' ⟨s0, s1⟩
    go_simp
    with_reducible rfl
  rotate_left
  · simp only [Act.put, List.setIfInBounds_toArray, List.set_cons_zero, List.set_cons_succ]
    rfl
  refine one_ (i := 8) (N := some 14) #[true, true, true, true, true, true, true, true, true, false, false, false, false] rfl rfl (by kernel_rfl) (by decide) (fun K hK => ?_)
  refine goes_ Tryd.func69 (by kernel_rfl) rfl #[.int .i64 xa, .int .i64 xb] (by rfl) rfl rfl (by simp only [List.map_toArray, List.map_cons, List.map_nil]; rfl) ?_
  with_reducible refine (HM.out).mono ?_
  rintro e w3 ⟨rfl, hb3⟩
  refine ⟨_, rfl, ?_⟩
  refine hK.out _ _ ⟨cell_keep hb3 hca, cell_keep hb3 hcb⟩ (fun hHeld => ?_)
  clear hK K
  refine norm_ (a' := ?_) ?_ ?_
  rotate_left
  · show Act.put _ (some 14) _ = _
    simp only [Act.put, List.setIfInBounds_toArray, List.set_cons_zero, List.set_cons_succ]
    rfl
  refine pure_ (i := 9) (N := some 15) (v := ?_) (a' := ?_) #[true, true, true, true, true, true, true, true, true, true, false, false, false] rfl rfl (by kernel_rfl) (fun _ _ _ h => h) (Or.inl ⟨by rfl, ?_⟩) ?_ ?_
  rotate_left
  · intro w'
    go_simp
    with_reducible rfl
  rotate_left
  · simp only [Act.put, List.setIfInBounds_toArray, List.set_cons_zero, List.set_cons_succ]
    rfl
  refine pure_ (i := 10) (N := some 16) (v := ?_) (a' := ?_) #[true, true, true, true, true, true, true, true, true, true, true, false, false] rfl rfl (by kernel_rfl) (fun _ _ _ h => h) (Or.inl ⟨by rfl, ?_⟩) ?_ ?_
  rotate_left
  · intro w'
    go_simp
    with_reducible rfl
  rotate_left
  · simp only [Act.put, List.setIfInBounds_toArray, List.set_cons_zero, List.set_cons_succ]
    rfl
  refine pure_ (i := 11) (N := some 4) (v := ?_) (a' := ?_) #[true, true, true, true, true, true, true, true, true, true, true, true, false] rfl rfl (by kernel_rfl) (fun _ _ _ h => h) (Or.inl ⟨by rfl, ?_⟩) ?_ ?_
  rotate_left
  · intro w'
    go_simp
    with_reducible rfl
  rotate_left
  · simp only [Act.put, List.setIfInBounds_toArray, List.set_cons_zero, List.set_cons_succ]
    rfl
  refine pure_ (i := 12) (N := some 5) (v := ?_) (a' := ?_) #[true, true, true, true, true, true, true, true, true, true, true, true, true] rfl rfl (by kernel_rfl) (fun _ _ _ h => h) (Or.inl ⟨by rfl, ?_⟩) ?_ ?_
  rotate_left
  · intro w'
    go_simp
    with_reducible rfl
  rotate_left
  · simp only [Act.put, List.setIfInBounds_toArray, List.set_cons_zero, List.set_cons_succ]
    rfl
  refine done_ (by kernel_rfl) ?_
  go_wp2
  go_ret2
  exact ⟨rfl, below_step (below_drew (Below.refl _ _)) hb3⟩
set_option maxHeartbeats 4000000 in
set_option maxRecDepth 100000 in
theorem turn1_2 (xa xb : Int) (Ba Bb : Nat) (w : World) (ha : inR xa = true) (hb : inR xb = true) (ca : w.cell? ⟨Ba, 1, none⟩ = some (.int .i64 xa)) (cb : w.cell? ⟨Bb, 0, none⟩ = some (.int .i64 xb)) :
    Calls Tryd.prog 68 #[.int .i64 2, .pointer (some ⟨Ba, 0, none⟩), .pointer (some ⟨Bb, 0, none⟩)] w fun e w' => e = .returned (.tuple #[.int .i64 (mulT xa xb).1, .int .i64 (mulT xa xb).2]) ∧ Below w.heap.size w w' := by
  have HM : Aside0 (Calls Tryd.prog 69 #[.int .i64 xa, .int .i64 xb] w.drew fun e w' => e = .returned (.tuple #[.int .i64 (mulT xa xb).1, .int .i64 (mulT xa xb).2]) ∧ Below w.drew.heap.size w.drew w') := ⟨Mul_calls xa xb w.drew (mulT xa xb).1 (mulT xa xb).2 (mulV_T ha hb)⟩
  have z0 : IntKind.i64.wrap 0 = 0 := by decide
  have z1 : IntKind.i64.wrap 1 = 1 := by decide
  have hca : w.drew.cell? ⟨Ba, 1, none⟩ = some (.int .i64 xa) := ca
  have hcb : w.drew.cell? ⟨Bb, 0, none⟩ = some (.int .i64 xb) := cb
  clear ha hb ca cb
  generalize mulT xa xb = p at *
  obtain ⟨r1, r2⟩ := p
  go_enter Tryd.func68, Tryd.ntmps68
  go_upto_region 1 with (fail)
  refine start_ (n := 13) (S := fun w' => w'.cell? ⟨Ba, 1, none⟩ = some (.int .i64 xa) ∧ w'.cell? ⟨Bb, 0, none⟩ = some (.int .i64 xb)) (ds := []) #[false, false, false, false, false, false, false, false, false, false, false, false, false] (by kernel_rfl) rfl rfl ⟨hca, hcb⟩ (fun hHeld => ?_)
  refine pure_ (i := 0) (N := some 6) (v := ?_) (a' := ?_) #[true, false, false, false, false, false, false, false, false, false, false, false, false] rfl rfl (by kernel_rfl) (fun _ _ _ h => h) (Or.inl ⟨by rfl, ?_⟩) ?_ ?_
  rotate_left
  · intro w'
    go_simp
    with_reducible rfl
  rotate_left
  · simp only [Act.put, List.setIfInBounds_toArray, List.set_cons_zero, List.set_cons_succ]
    rfl
  refine pure_ (i := 1) (N := some 7) (v := ?_) (a' := ?_) #[true, true, false, false, false, false, false, false, false, false, false, false, false] rfl rfl (by kernel_rfl) (fun _ _ _ h => h) (Or.inl ⟨by rfl, ?_⟩) ?_ ?_
  rotate_left
  · intro w'
    go_simp
    with_reducible rfl
  rotate_left
  · simp only [Act.put, List.setIfInBounds_toArray, List.set_cons_zero, List.set_cons_succ]
    rfl
  refine pure_ (i := 2) (N := some 8) (v := ?_) (a' := ?_) #[true, true, true, false, false, false, false, false, false, false, false, false, false] rfl rfl (by kernel_rfl) (fun _ _ _ h => h) (Or.inl ⟨by rfl, ?_⟩) ?_ ?_
  rotate_left
  · intro w'
    go_simp
    with_reducible rfl
  rotate_left
  · simp only [Act.put, List.setIfInBounds_toArray, List.set_cons_zero, List.set_cons_succ]
    rfl
  refine pure_ (i := 4) (N := some 10) (v := ?_) (a' := ?_) #[true, true, true, false, true, false, false, false, false, false, false, false, false] rfl rfl (by kernel_rfl) (fun _ _ _ h => h) (Or.inl ⟨by rfl, ?_⟩) ?_ ?_
  rotate_left
  · intro w'
    go_simp
    with_reducible rfl
  rotate_left
  · simp only [Act.put, List.setIfInBounds_toArray, List.set_cons_zero, List.set_cons_succ]
    rfl
  refine pure_ (i := 5) (N := some 11) (v := ?_) (a' := ?_) #[true, true, true, false, true, true, false, false, false, false, false, false, false] rfl rfl (by kernel_rfl) (fun _ _ _ h => h) (Or.inl ⟨by rfl, ?_⟩) ?_ ?_
  rotate_left
  · intro w'
    go_simp
    with_reducible rfl
  rotate_left
  · simp only [Act.put, List.setIfInBounds_toArray, List.set_cons_zero, List.set_cons_succ]
    rfl
  refine pure_ (i := 6) (N := some 12) (v := ?_) (a' := ?_) #[true, true, true, false, true, true, true, false, false, false, false, false, false] rfl rfl (by kernel_rfl) (fun _ _ _ h => h) (Or.inl ⟨by rfl, ?_⟩) ?_ ?_
  rotate_left
  · intro w'
    go_simp
    with_reducible rfl
  rotate_left
  · simp only [Act.put, List.setIfInBounds_toArray, List.set_cons_zero, List.set_cons_succ]
    rfl
  refine take_ (i := 3) (N := some 9) (v := ?_) (a' := ?_) #[true, true, true, true, true, true, true, false, false, false, false, false, false] rfl rfl (by kernel_rfl) (fun _ _ _ h => h) (Or.inl ⟨by rfl, ?_⟩) hHeld ?_ ?_
  rotate_left
  · rintro w' ⟨s0, s1⟩
    go_simp
    with_reducible rfl
  rotate_left
  · simp only [Act.put, List.setIfInBounds_toArray, List.set_cons_zero, List.set_cons_succ]
    rfl
  refine take_ (i := 7) (N := some 13) (v := ?_) (a' := ?_) #[true, true, true, true, true, true, true, true, false, false, false, false, false] rfl rfl (by kernel_rfl) (fun _ _ _ h => h) (Or.inl ⟨by rfl, ?_⟩) hHeld ?_ ?_
  rotate_left
  · rintro w' ⟨s0, s1⟩
    go_simp
    with_reducible rfl
  rotate_left
  · simp only [Act.put, List.setIfInBounds_toArray, List.set_cons_zero, List.set_cons_succ]
    rfl
  refine one_ (i := 8) (N := some 14) #[true, true, true, true, true, true, true, true, true, false, false, false, false] rfl rfl (by kernel_rfl) (by decide) (fun K hK => ?_)
  refine goes_ Tryd.func69 (by kernel_rfl) rfl #[.int .i64 xa, .int .i64 xb] (by rfl) rfl rfl (by simp only [List.map_toArray, List.map_cons, List.map_nil]; rfl) ?_
  with_reducible refine (HM.out).mono ?_
  rintro e w3 ⟨rfl, hb3⟩
  refine ⟨_, rfl, ?_⟩
  refine hK.out _ _ ⟨cell_keep hb3 hca, cell_keep hb3 hcb⟩ (fun hHeld => ?_)
  clear hK K
  refine norm_ (a' := ?_) ?_ ?_
  rotate_left
  · show Act.put _ (some 14) _ = _
    simp only [Act.put, List.setIfInBounds_toArray, List.set_cons_zero, List.set_cons_succ]
    rfl
  refine pure_ (i := 9) (N := some 15) (v := ?_) (a' := ?_) #[true, true, true, true, true, true, true, true, true, true, false, false, false] rfl rfl (by kernel_rfl) (fun _ _ _ h => h) (Or.inl ⟨by rfl, ?_⟩) ?_ ?_
  rotate_left
  · intro w'
    go_simp
    with_reducible rfl
  rotate_left
  · simp only [Act.put, List.setIfInBounds_toArray, List.set_cons_zero, List.set_cons_succ]
    rfl
  refine pure_ (i := 10) (N := some 16) (v := ?_) (a' := ?_) #[true, true, true, true, true, true, true, true, true, true, true, false, false] rfl rfl (by kernel_rfl) (fun _ _ _ h => h) (Or.inl ⟨by rfl, ?_⟩) ?_ ?_
  rotate_left
  · intro w'
    go_simp
    with_reducible rfl
  rotate_left
  · simp only [Act.put, List.setIfInBounds_toArray, List.set_cons_zero, List.set_cons_succ]
    rfl
  refine pure_ (i := 11) (N := some 4) (v := ?_) (a' := ?_) #[true, true, true, true, true, true, true, true, true, true, true, true, false] rfl rfl (by kernel_rfl) (fun _ _ _ h => h) (Or.inl ⟨by rfl, ?_⟩) ?_ ?_
  rotate_left
  · intro w'
    go_simp
    with_reducible rfl
  rotate_left
  · simp only [Act.put, List.setIfInBounds_toArray, List.set_cons_zero, List.set_cons_succ]
    rfl
  refine pure_ (i := 12) (N := some 5) (v := ?_) (a' := ?_) #[true, true, true, true, true, true, true, true, true, true, true, true, true] rfl rfl (by kernel_rfl) (fun _ _ _ h => h) (Or.inl ⟨by rfl, ?_⟩) ?_ ?_
  rotate_left
  · intro w'
    go_simp
    with_reducible rfl
  rotate_left
  · simp only [Act.put, List.setIfInBounds_toArray, List.set_cons_zero, List.set_cons_succ]
    rfl
  refine done_ (by kernel_rfl) ?_
  go_wp2
  go_ret2
  exact ⟨rfl, below_step (below_drew (Below.refl _ _)) hb3⟩
set_option maxHeartbeats 4000000 in
set_option maxRecDepth 100000 in
theorem turn1_3 (xa xb : Int) (Ba Bb : Nat) (w : World) (ha : inR xa = true) (hb : inR xb = true) (ca : w.cell? ⟨Ba, 1, none⟩ = some (.int .i64 xa)) (cb : w.cell? ⟨Bb, 1, none⟩ = some (.int .i64 xb)) :
    Calls Tryd.prog 68 #[.int .i64 3, .pointer (some ⟨Ba, 0, none⟩), .pointer (some ⟨Bb, 0, none⟩)] w fun e w' => e = .returned (.tuple #[.int .i64 (mulT xa xb).1, .int .i64 (mulT xa xb).2]) ∧ Below w.heap.size w w' := by
  have HM : Aside0 (Calls Tryd.prog 69 #[.int .i64 xa, .int .i64 xb] w.drew fun e w' => e = .returned (.tuple #[.int .i64 (mulT xa xb).1, .int .i64 (mulT xa xb).2]) ∧ Below w.drew.heap.size w.drew w') := ⟨Mul_calls xa xb w.drew (mulT xa xb).1 (mulT xa xb).2 (mulV_T ha hb)⟩
  have z0 : IntKind.i64.wrap 0 = 0 := by decide
  have z1 : IntKind.i64.wrap 1 = 1 := by decide
  have hca : w.drew.cell? ⟨Ba, 1, none⟩ = some (.int .i64 xa) := ca
  have hcb : w.drew.cell? ⟨Bb, 1, none⟩ = some (.int .i64 xb) := cb
  clear ha hb ca cb
  generalize mulT xa xb = p at *
  obtain ⟨r1, r2⟩ := p
  go_enter Tryd.func68, Tryd.ntmps68
  go_upto_region 1 with (fail)
  refine start_ (n := 13) (S := fun w' => w'.cell? ⟨Ba, 1, none⟩ = some (.int .i64 xa) ∧ w'.cell? ⟨Bb, 1, none⟩ = some (.int .i64 xb)) (ds := []) #[false, false, false, false, false, false, false, false, false, false, false, false, false] (by kernel_rfl) rfl rfl ⟨hca, hcb⟩ (fun hHeld => ?_)
  refine pure_ (i := 0) (N := some 6) (v := ?_) (a' := ?_) #[true, false, false, false, false, false, false, false, false, false, false, false, false] rfl rfl (by kernel_rfl) (fun _ _ _ h => h) (Or.inl ⟨by rfl, ?_⟩) ?_ ?_
  rotate_left
  · intro w'
    go_simp
    with_reducible rfl
  rotate_left
  · simp only [Act.put, List.setIfInBounds_toArray, List.set_cons_zero, List.set_cons_succ]
    rfl
  refine pure_ (i := 1) (N := some 7) (v := ?_) (a' := ?_) #[true, true, false, false, false, false, false, false, false, false, false, false, false] rfl rfl (by kernel_rfl) (fun _ _ _ h => h) (Or.inl ⟨by rfl, ?_⟩) ?_ ?_
  rotate_left
  · intro w'
    go_simp
    with_reducible rfl
  rotate_left
  · simp only [Act.put, List.setIfInBounds_toArray, List.set_cons_zero, List.set_cons_succ]
    rfl
  refine pure_ (i := 2) (N := some 8) (v := ?_) (a' := ?_) #[true, true, true, false, false, false, false, false, false, false, false, false, false] rfl rfl (by kernel_rfl) (fun _ _ _ h => h) (Or.inl ⟨by rfl, ?_⟩) ?_ ?_
  rotate_left
  · intro w'
    go_simp
    with_reducible rfl
  rotate_left
  · simp only [Act.put, List.setIfInBounds_toArray, List.set_cons_zero, List.set_cons_succ]
    rfl
  refine pure_ (i := 4) (N := some 10) (v := ?_) (a' := ?_) #[true, true, true, false, true, false, false, false, false, false, false, false, false] rfl rfl (by kernel_rfl) (fun _ _ _ h => h) (Or.inl ⟨by rfl, ?_⟩) ?_ ?_
  rotate_left
  · intro w'
    go_simp
    with_reducible rfl
  rotate_left
  · simp only [Act.put, List.setIfInBounds_toArray, List.set_cons_zero, List.set_cons_succ]
    rfl
  refine pure_ (i := 5) (N := some 11) (v := ?_) (a' := ?_) #[true, true, true, false, true, true, false, false, false, false, false, false, false] rfl rfl (by kernel_rfl) (fun _ _ _ h => h) (Or.inl ⟨by rfl, ?_⟩) ?_ ?_
  rotate_left
  · intro w'
    go_simp
    with_reducible rfl
  rotate_left
  · simp only [Act.put, List.setIfInBounds_toArray, List.set_cons_zero, List.set_cons_succ]
    rfl
  refine pure_ (i := 6) (N := some 12) (v := ?_) (a' := ?_) #[true, true, true, false, true, true, true, false, false, false, false, false, false] rfl rfl (by kernel_rfl) (fun _ _ _ h => h) (Or.inl ⟨by rfl, ?_⟩) ?_ ?_
  rotate_left
  · intro w'
    go_simp
    with_reducible rfl
  rotate_left
  · simp only [Act.put, List.setIfInBounds_toArray, List.set_cons_zero, List.set_cons_succ]
    rfl
  refine take_ (i := 3) (N := some 9) (v := ?_) (a' := ?_) #[true, true, true, true, true, true, true, false, false, false, false, false, false] rfl rfl (by kernel_rfl) (fun _ _ _ h => h) (Or.inl ⟨by rfl, ?_⟩) hHeld ?_ ?_
  rotate_left
  · rintro w' ⟨s0, s1⟩
    go_simp
    with_reducible rfl
  rotate_left
  · simp only [Act.put, List.setIfInBounds_toArray, List.set_cons_zero, List.set_cons_succ]
    rfl
  refine take_ (i := 7) (N := some 13) (v := ?_) (a' := ?_) #[true, true, true, true, true, true, true, true, false, false, false, false, false] rfl rfl (by kernel_rfl) (fun _ _ _ h => h) (Or.inl ⟨by rfl, ?_⟩) hHeld ?_ ?_
  rotate_left
  · rintro w' ⟨s0, s1⟩
    go_simp
    with_reducible rfl
  rotate_left
  · simp only [Act.put, List.setIfInBounds_toArray, List.set_cons_zero, List.set_cons_succ]
    rfl
  refine one_ (i := 8) (N := some 14) #[true, true, true, true, true, true, true, true, true, false, false, false, false] rfl rfl (by kernel_rfl) (by decide) (fun K hK => ?_)
  refine goes_ Tryd.func69 (by kernel_rfl) rfl #[.int .i64 xa, .int .i64 xb] (by rfl) rfl rfl (by simp only [List.map_toArray, List.map_cons, List.map_nil]; rfl) ?_
  with_reducible refine (HM.out).mono ?_
  rintro e w3 ⟨rfl, hb3⟩
  refine ⟨_, rfl, ?_⟩
  refine hK.out _ _ ⟨cell_keep hb3 hca, cell_keep hb3 hcb⟩ (fun hHeld => ?_)
  clear hK K
  refine norm_ (a' := ?_) ?_ ?_
  rotate_left
  · show Act.put _ (some 14) _ = _
    simp only [Act.put, List.setIfInBounds_toArray, List.set_cons_zero, List.set_cons_succ]
    rfl
  refine pure_ (i := 9) (N := some 15) (v := ?_) (a' := ?_) #[true, true, true, true, true, true, true, true, true, true, false, false, false] rfl rfl (by kernel_rfl) (fun _ _ _ h => h) (Or.inl ⟨by rfl, ?_⟩) ?_ ?_
  rotate_left
  · intro w'
    go_simp
    with_reducible rfl
  rotate_left
  · simp only [Act.put, List.setIfInBounds_toArray, List.set_cons_zero, List.set_cons_succ]
    rfl
  refine pure_ (i := 10) (N := some 16) (v := ?_) (a' := ?_) #[true, true, true, true, true, true, true, true, true, true, true, false, false] rfl rfl (by kernel_rfl) (fun _ _ _ h => h) (Or.inl ⟨by rfl, ?_⟩) ?_ ?_
  rotate_left
  · intro w'
    go_simp
    with_reducible rfl
  rotate_left
  · simp only [Act.put, List.setIfInBounds_toArray, List.set_cons_zero, List.set_cons_succ]
    rfl
  refine pure_ (i := 11) (N := some 4) (v := ?_) (a' := ?_) #[true, true, true, true, true, true, true, true, true, true, true, true, false] rfl rfl (by kernel_rfl) (fun _ _ _ h => h) (Or.inl ⟨by rfl, ?_⟩) ?_ ?_
  rotate_left
  · intro w'
    go_simp
    with_reducible rfl
  rotate_left
  · simp only [Act.put, List.setIfInBounds_toArray, List.set_cons_zero, List.set_cons_succ]
    rfl
  refine pure_ (i := 12) (N := some 5) (v := ?_) (a' := ?_) #[true, true, true, true, true, true, true, true, true, true, true, true, true] rfl rfl (by kernel_rfl) (fun _ _ _ h => h) (Or.inl ⟨by rfl, ?_⟩) ?_ ?_
  rotate_left
  · intro w'
    go_simp
    with_reducible rfl
  rotate_left
  · simp only [Act.put, List.setIfInBounds_toArray, List.set_cons_zero, List.set_cons_succ]
    rfl
  refine done_ (by kernel_rfl) ?_
  go_wp2
  go_ret2
  exact ⟨rfl, below_step (below_drew (Below.refl _ _)) hb3⟩
end Go.Proofs.YtfameghednapkaaDoor.Ten
namespace Go.Proofs.YtfameghednapkaaDoor.Ten
open Go.RowKit Go.Proofs.YtfameghednapkaaDoorW.PrintWords Go.Proofs.YtfameghednapkaaDoorW.PrintLast Go.Proofs.YtfameghednapkaaDoorW.PrintMore Go.Proofs.YtfameghednapkaaDoor.K Go.Proofs.YtfameghednapkaaDoor.RI Go.Proofs.YtfameghednapkaaDoor.Fixed
set_option linter.unusedVariables false
set_option linter.unusedSimpArgs false
def addF (a b : List Int) (k : Nat) : Int × Int := addV (a.getD k 0) (b.getD k 0)
def addE (a b : List Int) : Int := if checksV [a, b] = 0 then errF (addF a b) a.length 0 else checksV [a, b]
def addL (a b : List Int) : List Int := outL (addF a b) a.length
def AddF (ada adb : Addr) (na ca nb cb : Nat) (kk : Nat) (xa xb r1 r2 : Int) (iv : Nat) (xv : Value) (W : World) : Prop := match iv with
  | 0 => xv = .slice (some ada) na ca
  | 1 => xv = .int .i64 (kk : Int)
  | 2 => xv = .pointer (some (ada.add kk))
  | 3 => xv = .int .i64 xa
  | 4 => xv = .slice (some adb) nb cb
  | 5 => xv = .int .i64 (kk : Int)
  | 6 => xv = .pointer (some (adb.add kk))
  | 7 => xv = .int .i64 xb
  | 8 => xv = .tuple #[.int .i64 r1, .int .i64 r2]
  | 9 => xv = .int .i64 r1
  | 10 => xv = .int .i64 r2
  | 11 => xv = .int .i64 r1
  | 12 => xv = .int .i64 r2
  | _ => True
theorem AddF.step (ada adb : Addr) (na ca nb cb : Nat) (kk : Nat) (xa xb r1 r2 : Int) (i : Nat) (x : Value) (W W' : World) (hb : Below W.heap.size W W') (h : AddF ada adb na ca nb cb kk xa xb r1 r2 i x W) : AddF ada adb na ca nb cb kk xa xb r1 r2 i x W' := by
  unfold AddF at *
  split <;> simp only at h ⊢
  · exact h
  · exact h
  · exact h
  · exact h
  · exact h
  · exact h
  · exact h
  · exact h
  · exact h
  · exact h
  · exact h
  · exact h
  · exact h
set_option maxHeartbeats 4000000 in
set_option maxRecDepth 100000 in
theorem add1_calls (Aa : Option Addr) (ca : Nat) (a : List Int) (Ab : Option Addr) (cb : Nat) (b : List Int) (k Ba Bb : Nat) (w : World) (hA : Kd.C (Kd.int .i64) w Aa a.length a) (hB : Kd.C (Kd.int .i64) w Ab b.length b) (hk : k < a.length) (hl : b.length = a.length)
    (hba : w.heap[Ba]? = some (.cells #[.slice Aa a.length ca] 22 (0, 0))) (hbb : w.heap[Bb]? = some (.cells #[.slice Ab b.length cb] 22 (0, 0))) :
    Calls Tryd.prog 60 #[.int .i64 (k : Int), .pointer (some ⟨Ba, 0, none⟩), .pointer (some ⟨Bb, 0, none⟩)] w fun e w' => e = .returned (.tuple #[.int .i64 (addF a b k).1, .int .i64 (addF a b k).2]) ∧ Below w.heap.size w w' := by
  have HA := Aside0.mk hba
  have HB := Aside0.mk hbb
  have hk2 : k < b.length := by omega
  obtain ⟨ada, rfl, hxa⟩ := int_at hA k hk
  obtain ⟨adb, rfl, hxb⟩ := int_at hB k hk2
  obtain ⟨p, hp⟩ : ∃ p, p = addF a b k := ⟨_, rfl⟩
  have HP := Aside0.mk hp
  obtain ⟨r1, r2⟩ := p
  have HR : Aside0 (addV (a.getD k 0) (b.getD k 0) = (r1, r2)) := ⟨hp.symm⟩
  generalize a.getD k 0 = xa at *
  generalize b.getD k 0 = xb at *
  have HXa := Aside0.mk hxa
  have HXb := Aside0.mk hxb
  have hm1 := hA.2.1
  have hm2 := hB.2.1
  clear hA hB hba hbb hxa hxb hp hl
  go_enter Tryd.func60, Tryd.ntmps60
  go_upto_region 1 with (fail)
  refine wp_region_fin [false, false, false, false, true, true, true, true, true, true, true, true, true, true, true, true, true] (by kernel_rfl) (by kernel_rfl) (fun W => Below w.heap.size w W) (fun W W' => Below W.heap.size W W') (AddF ada adb a.length ca b.length cb k xa xb r1 r2) (fun iv xv W W' _ hb h => AddF.step ada adb a.length ca b.length cb k xa xb r1 r2 iv xv W W' hb h) (below_drew (Below.refl _ _)) ?_ ?_
  · refine ⟨?_, ?_, ?_, ?_, ?_, ?_, ?_, ?_, ?_, ?_, ?_, ?_, ?_, trivial⟩
    · intro v W hb hd
      have hcv := slice_cells ((hb.block _ (blk_lt HA.out)).trans HA.out)
      refine step_list fun K hK => ?_
      simp only [fill_lit, fillL, Act.put, List.setIfInBounds_toArray, List.set_cons_zero, List.set_cons_succ, Nat.reduceAdd] at hK ⊢
      clear hd
      go_wp2
      exact ⟨hb, Below.refl _ _, rfl⟩
    · intro v W hb hd
      refine step_list fun K hK => ?_
      simp only [fill_lit, fillL, Act.put, List.setIfInBounds_toArray, List.set_cons_zero, List.set_cons_succ, Nat.reduceAdd] at hK ⊢
      clear hd
      go_wp2
      exact ⟨hb, Below.refl _ _, rfl⟩
    · intro v W hb hd
      have h0 : v 6 = .slice (some ada) a.length ca := hd 0 (by kernel_rfl)
      have h1 : v 7 = .int .i64 (k : Int) := hd 1 (by kernel_rfl)
      refine step_list fun K hK => ?_
      simp only [fill_lit, fillL, Act.put, List.setIfInBounds_toArray, List.set_cons_zero, List.set_cons_succ, Nat.reduceAdd] at hK ⊢
      rw [h0, h1] at hK ⊢
      clear hd h0 h1
      go_wp2
      exact ⟨hb, Below.refl _ _, rfl⟩
    · intro v W hb hd
      have hcx := cell_keep hb HXa.out
      have h2 : v 8 = .pointer (some (ada.add k)) := hd 2 (by kernel_rfl)
      refine step_list fun K hK => ?_
      simp only [fill_lit, fillL, Act.put, List.setIfInBounds_toArray, List.set_cons_zero, List.set_cons_succ, Nat.reduceAdd] at hK ⊢
      rw [h2] at hK ⊢
      clear hd h2
      go_wp2
      exact ⟨hb, Below.refl _ _, rfl⟩
    · intro v W hb hd
      have hcv := slice_cells ((hb.block _ (blk_lt HB.out)).trans HB.out)
      refine step_list fun K hK => ?_
      simp only [fill_lit, fillL, Act.put, List.setIfInBounds_toArray, List.set_cons_zero, List.set_cons_succ, Nat.reduceAdd] at hK ⊢
      clear hd
      go_wp2
      exact ⟨hb, Below.refl _ _, rfl⟩
    · intro v W hb hd
      refine step_list fun K hK => ?_
      simp only [fill_lit, fillL, Act.put, List.setIfInBounds_toArray, List.set_cons_zero, List.set_cons_succ, Nat.reduceAdd] at hK ⊢
      clear hd
      go_wp2
      exact ⟨hb, Below.refl _ _, rfl⟩
    · intro v W hb hd
      have h4 : v 10 = .slice (some adb) b.length cb := hd 4 (by kernel_rfl)
      have h5 : v 11 = .int .i64 (k : Int) := hd 5 (by kernel_rfl)
      refine step_list fun K hK => ?_
      simp only [fill_lit, fillL, Act.put, List.setIfInBounds_toArray, List.set_cons_zero, List.set_cons_succ, Nat.reduceAdd] at hK ⊢
      rw [h4, h5] at hK ⊢
      clear hd h4 h5
      go_wp2
      exact ⟨hb, Below.refl _ _, rfl⟩
    · intro v W hb hd
      have hcx := cell_keep hb HXb.out
      have h6 : v 12 = .pointer (some (adb.add k)) := hd 6 (by kernel_rfl)
      refine step_list fun K hK => ?_
      simp only [fill_lit, fillL, Act.put, List.setIfInBounds_toArray, List.set_cons_zero, List.set_cons_succ, Nat.reduceAdd] at hK ⊢
      rw [h6] at hK ⊢
      clear hd h6
      go_wp2
      exact ⟨hb, Below.refl _ _, rfl⟩
    · intro v W hb hd
      have h3 : v 9 = .int .i64 xa := hd 3 (by kernel_rfl)
      have h7 : v 13 = .int .i64 xb := hd 7 (by kernel_rfl)
      refine step_list fun K hK => ?_
      simp only [fill_lit, fillL, Act.put, List.setIfInBounds_toArray, List.set_cons_zero, List.set_cons_succ, Nat.reduceAdd] at hK ⊢
      rw [h3, h7] at hK ⊢
      clear hd h3 h7
      go_wp2_with (fail)
      refine (Add_calls xa xb W r1 r2 HR.out).mono ?_
      rintro e W' ⟨rfl, hb'⟩
      have HB' := Aside0.mk hb'
      clear hb'
      go_wp2_with (fail)
      exact ⟨below_step hb HB'.out, HB'.out, rfl⟩
    · intro v W hb hd
      have h8 : v 14 = .tuple #[.int .i64 r1, .int .i64 r2] := hd 8 (by kernel_rfl)
      refine step_list fun K hK => ?_
      simp only [fill_lit, fillL, Act.put, List.setIfInBounds_toArray, List.set_cons_zero, List.set_cons_succ, Nat.reduceAdd] at hK ⊢
      rw [h8] at hK ⊢
      clear hd h8
      go_wp2
      exact ⟨hb, Below.refl _ _, rfl⟩
    · intro v W hb hd
      have h8 : v 14 = .tuple #[.int .i64 r1, .int .i64 r2] := hd 8 (by kernel_rfl)
      refine step_list fun K hK => ?_
      simp only [fill_lit, fillL, Act.put, List.setIfInBounds_toArray, List.set_cons_zero, List.set_cons_succ, Nat.reduceAdd] at hK ⊢
      rw [h8] at hK ⊢
      clear hd h8
      go_wp2
      exact ⟨hb, Below.refl _ _, rfl⟩
    · intro v W hb hd
      have h9 : v 15 = .int .i64 r1 := hd 9 (by kernel_rfl)
      refine step_list fun K hK => ?_
      simp only [fill_lit, fillL, Act.put, List.setIfInBounds_toArray, List.set_cons_zero, List.set_cons_succ, Nat.reduceAdd] at hK ⊢
      rw [h9] at hK ⊢
      clear hd h9
      go_wp2
      exact ⟨hb, Below.refl _ _, rfl⟩
    · intro v W hb hd
      have h10 : v 16 = .int .i64 r2 := hd 10 (by kernel_rfl)
      refine step_list fun K hK => ?_
      simp only [fill_lit, fillL, Act.put, List.setIfInBounds_toArray, List.set_cons_zero, List.set_cons_succ, Nat.reduceAdd] at hK ⊢
      rw [h10] at hK ⊢
      clear hd h10
      go_wp2
      exact ⟨hb, Below.refl _ _, rfl⟩
  · intro v W hb hF
    have h7 : v 4 = .int .i64 r1 := hF 11 (of_decide_eq_true (by kernel_rfl))
    have h8 : v 5 = .int .i64 r2 := hF 12 (of_decide_eq_true (by kernel_rfl))
    simp only [fill_lit, fillL, Nat.reduceAdd]
    rw [h7, h8]
    clear hF h7 h8
    go_wp2
    go_ret2
    exact ⟨by rw [← HP.out]; rfl, hb⟩
theorem two_rows {A A' : Option Addr} {c c' : Nat} {a b : List Int} {w : World} (hA : Kd.C (Kd.int .i64) w A a.length a) (hc : a.length ≤ c) (hB : Kd.C (Kd.int .i64) w A' b.length b) (hc' : b.length ≤ c') :
    Kd.C (Kd.slice 3 (Kd.int .i64)) (w.alloc (.cells #[.slice A a.length c, .slice A' b.length c'] 22)) (some ⟨w.heap.size, 0, none⟩) 2 [a, b] := by
  refine rows_lit w 22 [.slice A a.length c, .slice A' b.length c'] [a, b] (by simp) ?_
  intro j x hj
  match j with
  | 0 => cases hj; exact ⟨A, c, rfl, hc, hA⟩
  | 1 => cases hj; exact ⟨A', c', rfl, hc', hB⟩
  | j + 2 => simp at hj
set_option maxHeartbeats 8000000 in
set_option maxRecDepth 100000 in
theorem tadd_calls (Aa : Option Addr) (ca : Nat) (a : List Int) (Ab : Option Addr) (cb : Nat) (b : List Int) (w : World) (hA : Kd.C (Kd.int .i64) w Aa a.length a) (hca : a.length ≤ ca) (hB : Kd.C (Kd.int .i64) w Ab b.length b) (hcb : b.length ≤ cb) :
    Calls Tryd.prog 33 #[.slice Aa a.length ca, .slice Ab b.length cb] w (ListEnd (addE a b) (addL a b) w) := by
  have HA := Aside0.mk hA
  have HBb := Aside0.mk hB
  have HCc := Aside0.mk (And.intro hca hcb)
  have HB0 : Aside0 (Below w.heap.size w ((w.alloc (.cells #[.slice Aa a.length ca] 22)).alloc (.cells #[.slice Ab b.length cb] 22))) := ⟨bel_alloc (bel_alloc (Below.refl _ _) _) _⟩
  have HX0 : Aside0 (((w.alloc (.cells #[.slice Aa a.length ca] 22)).alloc (.cells #[.slice Ab b.length cb] 22)).heap[w.heap.size]? = some (.cells #[.slice Aa a.length ca] 22 (0, 0))) := ⟨blk_alloc (heap_alloc_new _ _) _⟩
  have HY0 : Aside0 (((w.alloc (.cells #[.slice Aa a.length ca] 22)).alloc (.cells #[.slice Ab b.length cb] 22)).heap[w.heap.size + 1]? = some (.cells #[.slice Ab b.length cb] 22 (0, 0))) := ⟨by
    have h := heap_alloc_new (w.alloc (.cells #[.slice Aa a.length ca] 22)) (.cells #[.slice Ab b.length cb] 22)
    rwa [World.size_alloc] at h⟩
  have hm1 := hA.2.1
  have hm2 := hB.2.1
  clear hA hB hca hcb
  obtain ⟨z, hz⟩ : ∃ z, z = checksV [a, b] := ⟨_, rfl⟩
  have HZ := Aside0.mk hz
  have HM : Aside0 (addE a b = if checksV [a, b] = 0 then errF (addF a b) a.length 0 else checksV [a, b]) := ⟨rfl⟩
  have HML : Aside0 (addL a b = outL (addF a b) a.length) := ⟨rfl⟩
  clear hz
  go_enter Tryd.func33, Tryd.ntmps33
  go_wp2_with (fail)
  have HS0 : Aside0 (((w.alloc (.cells #[.slice Aa a.length ca] 22)).alloc (.cells #[.slice Ab b.length cb] 22)).heap.size = w.heap.size + 1 + 1) := ⟨by rw [World.size_alloc, World.size_alloc]⟩
  generalize ((w.alloc (.cells #[.slice Aa a.length ca] 22)).alloc (.cells #[.slice Ab b.length cb] 22)) = w0 at *
  rw [← HS0.out]
  have HB1 : Aside0 (Below w0.heap.size w0 (w0.alloc (.cells #[.slice Aa a.length ca, .slice Ab b.length cb] 22))) := ⟨bel_alloc (Below.refl _ _) _⟩
  refine (checks_list_calls _ 2 [a, b] (w0.alloc (.cells #[.slice Aa a.length ca, .slice Ab b.length cb] 22)) (two_rows (Kd.C_below HA.out HB0.out) HCc.out.1 (Kd.C_below HBb.out HB0.out) HCc.out.2)).mono ?_
  rw [← HZ.out]
  generalize (w0.alloc (.cells #[.slice Aa a.length ca, .slice Ab b.length cb] 22)) = w1 at *
  rintro e w2 ⟨rfl, hb⟩
  have HD2 := Aside0.mk (below_step HB1.out hb)
  have HB2 := Aside0.mk (below_step HB0.out HD2.out)
  have HX2 : Aside0 (w2.heap[w.heap.size]? = some (.cells #[.slice Aa a.length ca] 22 (0, 0))) := ⟨(HD2.out.block _ (blk_lt HX0.out)).trans HX0.out⟩
  have HY2 : Aside0 (w2.heap[w.heap.size + 1]? = some (.cells #[.slice Ab b.length cb] 22 (0, 0))) := ⟨(HD2.out.block _ (blk_lt HY0.out)).trans HY0.out⟩
  clear hb
  by_cases hz0 : z = 0
  · subst hz0
    have HE : Aside0 (addE a b = errF (addF a b) a.length 0) := ⟨by rw [HM.out, if_pos HZ.out.symm]⟩
    have hll : b.length = a.length := (checks_ok HZ.out.symm 1 (by simp)).1
    have HT : TellsAt 60 #[] #[.pointer (some ⟨w.heap.size, 0, none⟩), .pointer (some ⟨w.heap.size + 1, 0, none⟩)] (addF a b) a.length w2 := fun k hk W hb =>
      add1_calls Aa ca a Ab cb b k w.heap.size (w.heap.size + 1) W (Kd.C_below HA.out (below_step HB2.out hb)) (Kd.C_below HBb.out (below_step HB2.out hb)) hk hll ((hb.block _ (blk_lt HX2.out)).trans HX2.out) ((hb.block _ (blk_lt HY2.out)).trans HY2.out)
    have HEa := Aside0.mk (each_calls 60 #[] #[.pointer (some ⟨w.heap.size, 0, none⟩), .pointer (some ⟨w.heap.size + 1, 0, none⟩)] (addF a b) a.length w2 (by have := (check_ok_in (checks_ok HZ.out.symm 0 (by simp)).2).2.2; simp at this; omega) (enters_ Tryd.func60 (by kernel_rfl) rfl) HT)
    have hcs := slice_cells HX2.out
    clear HT hll
    go_wp2_with (fail)
    refine HEa.out.mono ?_
    rintro e w3 ⟨h1, h2, hb⟩
    have HB3 := Aside0.mk (below_step HB2.out hb)
    clear hcs hb
    by_cases hz : errF (addF a b) a.length 0 = 0
    · obtain ⟨v, rfl, hr⟩ := h2 hz
      obtain ⟨A3, c3, rfl, hC3, hle3⟩ := own_slice_le hr
      have HC3 := Aside0.mk hC3
      have HLe := Aside0.mk hle3
      have HEz : Aside0 (addE a b = 0) := ⟨HE.out.trans hz⟩
      clear h1 h2 hr hz hC3 hle3
      go_wp2_with (fail)
      go_ret2
      exact ⟨fun h => absurd HEz.out h, fun _ => ⟨A3, c3, by rw [HML.out]; rfl, by rw [HML.out]; exact HC3.out, by rw [HML.out]; exact HLe.out⟩, HB3.out⟩
    · have he := h1 hz
      subst he
      have HEz := Aside0.mk hz
      clear h1 h2 hz
      go_wp2_with (fail)
      go_ret2
      exact ⟨fun _ => by rw [HE.out]; rfl, fun h => absurd (HE.out.symm.trans h) HEz.out, HB3.out⟩
  · have dz : (z != 0) = true := by simpa using hz0
    have HE : Aside0 (addE a b = z) := ⟨by rw [HM.out, ← HZ.out, if_neg hz0]⟩
    have HNz := Aside0.mk hz0
    clear hz0
    go_wp2
    go_ret2
    exact ⟨fun _ => by rw [HE.out]; rfl, fun h => absurd (HE.out.symm.trans h) HNz.out, HB2.out⟩
/-- Of vectors whose first is one, the order does not count. -/
theorem addF_comm (a b : List Int) (k : Nat) : addF a b k = addF b a k := by
  unfold addF addV
  by_cases h : inR (a.getD k 0) = true ∧ inR (b.getD k 0) = true
  · rw [if_pos h, if_pos h.symm, Int.add_comm]
  · rw [if_neg h, if_neg (fun h2 => h h2.symm)]
theorem checks2_comm {a b : List Int} (ha : checkV a = 0) : checksV [a, b] = checksV [b, a] := by
  unfold checksV
  by_cases h : a.length = b.length
  · rw [if_pos (by simp [sameL, h]), if_pos (by simp [sameL, h])]
    simp only [firstE]
    rw [if_pos ha]
    by_cases hb : checkV b = 0
    · rw [if_pos hb, if_pos hb, if_pos ha]
    · rw [if_neg hb, if_neg hb]
  · rw [if_neg (by simp [sameL]; omega), if_neg (by simp [sameL]; omega)]
theorem add_comm_E {a b : List Int} (ha : checkV a = 0) : addE a b = addE b a := by
  unfold addE
  rw [checks2_comm ha]
  by_cases h : checksV [b, a] = 0
  · rw [if_pos h, if_pos h]
    have hl : a.length = b.length := (checks_ok h 1 (by simp)).1
    rw [hl]
    exact errF_congr _ (fun j _ => addF_comm a b j)
  · rw [if_neg h, if_neg h]
theorem add_comm_L {a b : List Int} (h : addE a b = 0) : addL a b = addL b a := by
  unfold addE at h
  split at h
  · rename_i hc
    have hl : b.length = a.length := (checks_ok hc 1 (by simp)).1
    unfold addL
    rw [hl]
    exact outL_congr _ (fun j _ => addF_comm a b j)
  · rename_i hc
    exact absurd h hc
end Go.Proofs.YtfameghednapkaaDoor.Ten
namespace Go.Proofs.YtfameghednapkaaDoor.Ten
open Go.RowKit Go.Proofs.YtfameghednapkaaDoorW.PrintWords Go.Proofs.YtfameghednapkaaDoorW.PrintLast Go.Proofs.YtfameghednapkaaDoorW.PrintMore Go.Proofs.YtfameghednapkaaDoor.K Go.Proofs.YtfameghednapkaaDoor.RI Go.Proofs.YtfameghednapkaaDoor.Fixed
set_option linter.unusedVariables false
set_option linter.unusedSimpArgs false
def prodF (a0 a1 c0 c1 : Int) : Nat → Int × Int
  | 0 => mulT a0 c0
  | 1 => mulT a0 c1
  | 2 => mulT a1 c0
  | _ => mulT a1 c1
theorem mulT_err (a b : Int) : (mulT a b).2 = 0 ∨ (mulT a b).2 = 17 := by
  unfold mulT toldV
  split
  · exact .inl rfl
  · exact .inr rfl
theorem prodF_err (a0 a1 c0 c1 : Int) : (errF (prodF a0 a1 c0 c1) 4 0 = 0 ∧ (mulT a0 c0).2 = 0 ∧ (mulT a1 c1).2 = 0 ∧ (mulT a0 c1).2 = 0 ∧ (mulT a1 c0).2 = 0) ∨ (errF (prodF a0 a1 c0 c1) 4 0 = 17 ∧ turnV a0 a1 c0 c1 = (0, 0, 17)) := by
  have h0 : (prodF a0 a1 c0 c1 0).2 = (mulT a0 c0).2 := rfl
  have h1 : (prodF a0 a1 c0 c1 1).2 = (mulT a0 c1).2 := rfl
  have h2 : (prodF a0 a1 c0 c1 2).2 = (mulT a1 c0).2 := rfl
  have h3 : (prodF a0 a1 c0 c1 3).2 = (mulT a1 c1).2 := rfl
  have he : ∀ f : Nat → Int × Int, errF f 4 0 = if (f 0).2 = 0 then (if (f 1).2 = 0 then (if (f 2).2 = 0 then (if (f 3).2 = 0 then 0 else (f 3).2) else (f 2).2) else (f 1).2) else (f 0).2 := fun f => rfl
  rw [he, h0, h1, h2, h3]
  unfold turnV
  rcases mulT_err a0 c0 with e0 | e0 <;> rcases mulT_err a0 c1 with e1 | e1 <;> rcases mulT_err a1 c0 with e2 | e2 <;> rcases mulT_err a1 c1 with e3 | e3 <;> simp [e0, e1, e2, e3]
theorem two_C {W : World} {g t : Nat} {x y : Int} (h : W.heap[g]? = some (.cells #[.int .i64 x, .int .i64 y] t (0, 0))) : Kd.C (Kd.int .i64) W (some ⟨g, 0, none⟩) 2 [x, y] := by
  refine C_int ⟨rfl, by decide, fun _ => ⟨_, rfl, fun j hj => ?_⟩⟩
  rw [add_plain]
  match j, hj with
  | 0, _ => exact blk_cell h 0
  | 1, _ => exact blk_cell h 1
set_option maxHeartbeats 16000000 in
set_option maxRecDepth 100000 in
theorem turn_calls (a0 a1 c0 c1 : Int) (w : World) (ha0 : inR a0 = true) (ha1 : inR a1 = true) (hc0 : inR c0 = true) (hc1 : inR c1 = true) (x y z : Int) (hr : turnV a0 a1 c0 c1 = (x, y, z)) :
    Calls Tryd.prog 57 #[.agg #[.int .i64 a0, .int .i64 a1], .agg #[.int .i64 c0, .int .i64 c1]] w fun e w' => e = .returned (.tuple #[.agg #[.int .i64 x, .int .i64 y], .int .i64 z]) ∧ Below w.heap.size w w' := by
  have HB0 : Aside0 (Below w.heap.size w (((w.alloc (.cells #[.int .i64 a0, .int .i64 a1] 69)).alloc (.cells #[.int .i64 c0, .int .i64 c1] 69)).alloc (.cells #[.int .i64 0, .int .i64 0] 69))) := ⟨bel_alloc (bel_alloc (bel_alloc (Below.refl _ _) _) _) _⟩
  have HX : Aside0 ((((w.alloc (.cells #[.int .i64 a0, .int .i64 a1] 69)).alloc (.cells #[.int .i64 c0, .int .i64 c1] 69)).alloc (.cells #[.int .i64 0, .int .i64 0] 69)).heap[w.heap.size]? = some (.cells #[.int .i64 a0, .int .i64 a1] 69 (0, 0))) := ⟨blk_alloc (blk_alloc (heap_alloc_new _ _) _) _⟩
  have HY : Aside0 ((((w.alloc (.cells #[.int .i64 a0, .int .i64 a1] 69)).alloc (.cells #[.int .i64 c0, .int .i64 c1] 69)).alloc (.cells #[.int .i64 0, .int .i64 0] 69)).heap[w.heap.size + 1]? = some (.cells #[.int .i64 c0, .int .i64 c1] 69 (0, 0))) := ⟨by
    have h := heap_alloc_new (w.alloc (.cells #[.int .i64 a0, .int .i64 a1] 69)) (.cells #[.int .i64 c0, .int .i64 c1] 69)
    rw [World.size_alloc] at h
    exact blk_alloc h _⟩
  have HZ : Aside0 ((((w.alloc (.cells #[.int .i64 a0, .int .i64 a1] 69)).alloc (.cells #[.int .i64 c0, .int .i64 c1] 69)).alloc (.cells #[.int .i64 0, .int .i64 0] 69)).heap[w.heap.size + 1 + 1]? = some (.cells #[.int .i64 0, .int .i64 0] 69 (0, 0))) := ⟨by
    have h := heap_alloc_new ((w.alloc (.cells #[.int .i64 a0, .int .i64 a1] 69)).alloc (.cells #[.int .i64 c0, .int .i64 c1] 69)) (.cells #[.int .i64 0, .int .i64 0] 69)
    rwa [World.size_alloc, World.size_alloc] at h⟩
  have HI : Aside0 ((Tryd.prog.info? 69).map (·.size) = some 2) := ⟨by kernel_rfl⟩
  have HEr := Aside0.mk (prodF_err a0 a1 c0 c1)
  have HR := Aside0.mk hr
  have HTl : Aside0 (∀ W, W.heap[w.heap.size]? = some (.cells #[.int .i64 a0, .int .i64 a1] 69 (0, 0)) → W.heap[w.heap.size + 1]? = some (.cells #[.int .i64 c0, .int .i64 c1] 69 (0, 0)) → TellsAt 68 #[] #[.pointer (some ⟨w.heap.size, 0, none⟩), .pointer (some ⟨w.heap.size + 1, 0, none⟩)] (prodF a0 a1 c0 c1) 4 W) := ⟨fun W hx hy k hk V hb => by
    have hx' := (hb.block _ (blk_lt hx)).trans hx
    have hy' := (hb.block _ (blk_lt hy)).trans hy
    match k, hk with
    | 0, _ => exact turn1_0 a0 c0 w.heap.size (w.heap.size + 1) V ha0 hc0 (blk_cell hx' 0) (blk_cell hy' 0)
    | 1, _ => exact turn1_1 a0 c1 w.heap.size (w.heap.size + 1) V ha0 hc1 (blk_cell hx' 0) (blk_cell hy' 1)
    | 2, _ => exact turn1_2 a1 c0 w.heap.size (w.heap.size + 1) V ha1 hc0 (blk_cell hx' 1) (blk_cell hy' 0)
    | 3, _ => exact turn1_3 a1 c1 w.heap.size (w.heap.size + 1) V ha1 hc1 (blk_cell hx' 1) (blk_cell hy' 1)⟩
  have HIn : Aside0 (∀ a b : Int, -2147483648 ≤ (mulT a b).1 ∧ (mulT a b).1 ≤ 2147483647) := ⟨fun a b => mulT_in a b⟩
  clear ha0 ha1 hc0 hc1 hr
  go_enter Tryd.func57, Tryd.ntmps57
  go_wp2_with (fail)
  generalize ((w.alloc (.cells #[.int .i64 a0, .int .i64 a1] 69)).alloc (.cells #[.int .i64 c0, .int .i64 c1] 69)).alloc (.cells #[.int .i64 0, .int .i64 0] 69) = w1 at *
  refine (each_calls 68 #[] #[.pointer (some ⟨w.heap.size, 0, none⟩), .pointer (some ⟨w.heap.size + 1, 0, none⟩)] (prodF a0 a1 c0 c1) 4 w1 (by decide) (enters_ Tryd.func68 (by kernel_rfl) rfl) (HTl.out w1 HX.out HY.out)).mono ?_
  rintro e w2 ⟨h1, h2, hb⟩
  have HB2 := Aside0.mk (below_step HB0.out hb)
  have HZ2 : Aside0 (w2.heap[w.heap.size + 1 + 1]? = some (.cells #[.int .i64 0, .int .i64 0] 69 (0, 0))) := ⟨(hb.block _ (blk_lt HZ.out)).trans HZ.out⟩
  clear hb HX HY HZ HTl
  rcases HEr.out with ⟨hz, e0, e3, e1, e2⟩ | ⟨hz, hT⟩
  · obtain ⟨v, rfl, hR⟩ := h2 hz
    obtain ⟨A3, c3, hv, hC3, hle3⟩ := own_slice_le hR
    rw [outL_length] at hv
    subst hv
    have HC3 : Aside0 (Kd.C (Kd.int .i64) w2 A3 4 [(mulT a0 c0).1, (mulT a0 c1).1, (mulT a1 c0).1, (mulT a1 c1).1]) := ⟨hC3⟩
    have HTv : Aside0 (turnV a0 a1 c0 c1 = if inR ((mulT a0 c0).1 - (mulT a1 c1).1) = true ∧ inR ((mulT a0 c1).1 + (mulT a1 c0).1) = true then ((mulT a0 c0).1 - (mulT a1 c1).1, (mulT a0 c1).1 + (mulT a1 c0).1, 0) else (0, 0, 17)) := ⟨by unfold turnV; simp [e0, e1, e2, e3]⟩
    have i0 := HIn.out a0 c0
    have i1 := HIn.out a0 c1
    have i2 := HIn.out a1 c0
    have i3 := HIn.out a1 c1
    have hR' := HR.out
    rw [HTv.out] at hR'
    clear h1 h2 hR hC3 hle3 e0 e1 e2 e3 HIn HTv HR HEr hz
    generalize (mulT a0 c0).1 = m0 at *
    generalize (mulT a0 c1).1 = m1 at *
    generalize (mulT a1 c0).1 = m2 at *
    generalize (mulT a1 c1).1 = m3 at *
    obtain ⟨s, hs⟩ : ∃ s, s = m0 - m3 := ⟨_, rfl⟩
    obtain ⟨t, ht⟩ : ∃ t, t = m1 + m2 := ⟨_, rfl⟩
    rw [← hs, ← ht] at hR'
    have hw1 : IntKind.i64.wrap (m0 - m3) = s := by rw [hs, IntKind.wrap_i64]; omega
    have hw2 : IntKind.i64.wrap (m1 + m2) = t := by rw [ht, IntKind.wrap_i64]; omega
    have HR := Aside0.mk hR'
    obtain ⟨ad, hA, hx0⟩ := int_at HC3.out 0 (by decide)
    subst hA
    have c0' : w2.drew.cell? ad = some (.int .i64 m0) := hx0
    have c1' : w2.drew.cell? ⟨ad.block, ad.off + 1, none⟩ = some (.int .i64 m1) := int_cell HC3.out (below_drew (Below.refl _ _)) 1 (by decide)
    have c2' : w2.drew.cell? ⟨ad.block, ad.off + 2, none⟩ = some (.int .i64 m2) := int_cell HC3.out (below_drew (Below.refl _ _)) 2 (by decide)
    have c3' : w2.drew.cell? ⟨ad.block, ad.off + 3, none⟩ = some (.int .i64 m3) := int_cell HC3.out (below_drew (Below.refl _ _)) 3 (by decide)
    clear hs ht i0 i1 i2 i3 hR' hx0 HC3
    go_upto_region 4 with (fail)
    refine start_ (n := 17) (S := fun w' => w'.cell? ad = some (.int .i64 m0) ∧ w'.cell? ⟨ad.block, ad.off + 1, none⟩ = some (.int .i64 m1) ∧ w'.cell? ⟨ad.block, ad.off + 2, none⟩ = some (.int .i64 m2) ∧ w'.cell? ⟨ad.block, ad.off + 3, none⟩ = some (.int .i64 m3)) (ds := [16]) #[false, false, false, false, false, false, false, false, false, false, false, false, false, false, false, false, false] (by kernel_rfl) rfl rfl ⟨c0', c1', c2', c3'⟩ (fun hHeld => ?_)
    refine pure_ (i := 0) (N := some 18) (v := ?_) (a' := ?_) #[true, false, false, false, false, false, false, false, false, false, false, false, false, false, false, false, false] rfl rfl (by kernel_rfl) (fun _ _ _ h => h) (Or.inl ⟨by rfl, ?_⟩) ?_ ?_
    rotate_left
    · intro w'
      go_simp
      with_reducible rfl
    rotate_left
    · simp only [Act.put, List.setIfInBounds_toArray, List.set_cons_zero, List.set_cons_succ]
      rfl
    refine pure_ (i := 1) (N := some 19) (v := ?_) (a' := ?_) #[true, true, false, false, false, false, false, false, false, false, false, false, false, false, false, false, false] rfl rfl (by kernel_rfl) (fun _ _ _ h => h) (Or.inl ⟨by rfl, ?_⟩) ?_ ?_
    rotate_left
    · intro w'
      go_simp
      with_reducible rfl
    rotate_left
    · simp only [Act.put, List.setIfInBounds_toArray, List.set_cons_zero, List.set_cons_succ]
      rfl
    refine pure_ (i := 3) (N := some 21) (v := ?_) (a' := ?_) #[true, true, false, true, false, false, false, false, false, false, false, false, false, false, false, false, false] rfl rfl (by kernel_rfl) (fun _ _ _ h => h) (Or.inl ⟨by rfl, ?_⟩) ?_ ?_
    rotate_left
    · intro w'
      go_simp
      with_reducible rfl
    rotate_left
    · simp only [Act.put, List.setIfInBounds_toArray, List.set_cons_zero, List.set_cons_succ]
      rfl
    refine pure_ (i := 4) (N := some 22) (v := ?_) (a' := ?_) #[true, true, false, true, true, false, false, false, false, false, false, false, false, false, false, false, false] rfl rfl (by kernel_rfl) (fun _ _ _ h => h) (Or.inl ⟨by rfl, ?_⟩) ?_ ?_
    rotate_left
    · intro w'
      go_simp
      with_reducible rfl
    rotate_left
    · simp only [Act.put, List.setIfInBounds_toArray, List.set_cons_zero, List.set_cons_succ]
      rfl
    refine pure_ (i := 7) (N := some 25) (v := ?_) (a' := ?_) #[true, true, false, true, true, false, false, true, false, false, false, false, false, false, false, false, false] rfl rfl (by kernel_rfl) (fun _ _ _ h => h) (Or.inl ⟨by rfl, ?_⟩) ?_ ?_
    rotate_left
    · intro w'
      go_simp
      with_reducible rfl
    rotate_left
    · simp only [Act.put, List.setIfInBounds_toArray, List.set_cons_zero, List.set_cons_succ]
      rfl
    refine pure_ (i := 8) (N := some 26) (v := ?_) (a' := ?_) #[true, true, false, true, true, false, false, true, true, false, false, false, false, false, false, false, false] rfl rfl (by kernel_rfl) (fun _ _ _ h => h) (Or.inl ⟨by rfl, ?_⟩) ?_ ?_
    rotate_left
    · intro w'
      go_simp
      with_reducible rfl
    rotate_left
    · simp only [Act.put, List.setIfInBounds_toArray, List.set_cons_zero, List.set_cons_succ]
      rfl
    refine pure_ (i := 10) (N := some 28) (v := ?_) (a' := ?_) #[true, true, false, true, true, false, false, true, true, false, true, false, false, false, false, false, false] rfl rfl (by kernel_rfl) (fun _ _ _ h => h) (Or.inl ⟨by rfl, ?_⟩) ?_ ?_
    rotate_left
    · intro w'
      go_simp
      with_reducible rfl
    rotate_left
    · simp only [Act.put, List.setIfInBounds_toArray, List.set_cons_zero, List.set_cons_succ]
      rfl
    refine pure_ (i := 11) (N := some 29) (v := ?_) (a' := ?_) #[true, true, false, true, true, false, false, true, true, false, true, true, false, false, false, false, false] rfl rfl (by kernel_rfl) (fun _ _ _ h => h) (Or.inl ⟨by rfl, ?_⟩) ?_ ?_
    rotate_left
    · intro w'
      go_simp
      with_reducible rfl
    rotate_left
    · simp only [Act.put, List.setIfInBounds_toArray, List.set_cons_zero, List.set_cons_succ]
      rfl
    refine take_ (i := 2) (N := some 20) (v := ?_) (a' := ?_) #[true, true, true, true, true, false, false, true, true, false, true, true, false, false, false, false, false] rfl rfl (by kernel_rfl) (fun _ _ _ h => h) (Or.inl ⟨by rfl, ?_⟩) hHeld ?_ ?_
    rotate_left
    · rintro w' ⟨s0, s1, s2, s3⟩
      go_simp
      with_reducible rfl
    rotate_left
    · simp only [Act.put, List.setIfInBounds_toArray, List.set_cons_zero, List.set_cons_succ]
      rfl
    refine take_ (i := 5) (N := some 23) (v := ?_) (a' := ?_) #[true, true, true, true, true, true, false, true, true, false, true, true, false, false, false, false, false] rfl rfl (by kernel_rfl) (fun _ _ _ h => h) (Or.inl ⟨by rfl, ?_⟩) hHeld ?_ ?_
    rotate_left
    · rintro w' ⟨s0, s1, s2, s3⟩
      go_simp
      with_reducible rfl
    rotate_left
    · simp only [Act.put, List.setIfInBounds_toArray, List.set_cons_zero, List.set_cons_succ]
      rfl
    refine pure_ (i := 6) (N := some 24) (v := ?_) (a' := ?_) #[true, true, true, true, true, true, true, true, true, false, true, true, false, false, false, false, false] rfl rfl (by kernel_rfl) (fun _ _ _ h => h) (Or.inl ⟨by rfl, ?_⟩) ?_ ?_
    rotate_left
    · intro w'
      go_simp
      with_reducible rfl
    rotate_left
    · simp only [Act.put, List.setIfInBounds_toArray, List.set_cons_zero, List.set_cons_succ]
      rfl
    refine take_ (i := 9) (N := some 27) (v := ?_) (a' := ?_) #[true, true, true, true, true, true, true, true, true, true, true, true, false, false, false, false, false] rfl rfl (by kernel_rfl) (fun _ _ _ h => h) (Or.inl ⟨by rfl, ?_⟩) hHeld ?_ ?_
    rotate_left
    · rintro w' ⟨s0, s1, s2, s3⟩
      go_simp
      with_reducible rfl
    rotate_left
    · simp only [Act.put, List.setIfInBounds_toArray, List.set_cons_zero, List.set_cons_succ]
      rfl
    refine take_ (i := 12) (N := some 30) (v := ?_) (a' := ?_) #[true, true, true, true, true, true, true, true, true, true, true, true, true, false, false, false, false] rfl rfl (by kernel_rfl) (fun _ _ _ h => h) (Or.inl ⟨by rfl, ?_⟩) hHeld ?_ ?_
    rotate_left
    · rintro w' ⟨s0, s1, s2, s3⟩
      go_simp
      with_reducible rfl
    rotate_left
    · simp only [Act.put, List.setIfInBounds_toArray, List.set_cons_zero, List.set_cons_succ]
      rfl
    refine pure_ (i := 13) (N := some 31) (v := ?_) (a' := ?_) #[true, true, true, true, true, true, true, true, true, true, true, true, true, true, false, false, false] rfl rfl (by kernel_rfl) (fun _ _ _ h => h) (Or.inl ⟨by rfl, ?_⟩) ?_ ?_
    rotate_left
    · intro w'
      go_simp
      with_reducible rfl
    rotate_left
    · simp only [Act.put, List.setIfInBounds_toArray, List.set_cons_zero, List.set_cons_succ]
      rfl
    refine pure_ (i := 14) (N := some 32) (v := ?_) (a' := ?_) #[true, true, true, true, true, true, true, true, true, true, true, true, true, true, true, false, false] rfl rfl (by kernel_rfl) (fun _ _ _ h => h) (Or.inl ⟨by rfl, ?_⟩) ?_ ?_
    rotate_left
    · intro w'
      go_simp
      with_reducible rfl
    rotate_left
    · simp only [Act.put, List.setIfInBounds_toArray, List.set_cons_zero, List.set_cons_succ]
      rfl
    refine one_ (i := 15) (N := some 8) #[true, true, true, true, true, true, true, true, true, true, true, true, true, true, true, true, false] rfl rfl (by kernel_rfl) (by decide) (fun K hK => ?_)
    refine value_ (w1 := ?_) (v := ?_) (by rfl) rfl ?_ ?_
    rotate_left 2
    · go_simp
      constructor
      · rfl
      · rfl
    refine hK.out _ _ ⟨cell_keep (bel_alloc (Below.refl _ _) _) c0', cell_keep (bel_alloc (Below.refl _ _) _) c1', cell_keep (bel_alloc (Below.refl _ _) _) c2', cell_keep (bel_alloc (Below.refl _ _) _) c3'⟩ (fun hHeld => ?_)
    clear hK K
    refine norm_ (a' := ?_) ?_ ?_
    rotate_left
    · show Act.put _ (some 8) _ = _
      simp only [Act.put, List.setIfInBounds_toArray, List.set_cons_zero, List.set_cons_succ]
      rfl
    refine last_ (i := 16) (N := none) #[true, true, true, true, true, true, true, true, true, true, true, true, true, true, true, true, true] rfl rfl (by kernel_rfl) (by decide) (fun K hK => ?_)
    refine skip_ (w1 := ?_) (by rfl) rfl ?_ ?_
    rotate_left
    · go_simp
      rfl
    refine hK.out _ _ ?_
    clear hK K
    refine done_ (by kernel_rfl) ?_
    clear hHeld
    have HB3 : Aside0 (Below w.heap.size w (w2.alloc (.cells #[.int .i64 s, .int .i64 t] 69)).drew) := ⟨below_drew (bel_alloc HB2.out _)⟩
    have HO3 : Aside0 ((w2.alloc (.cells #[.int .i64 s, .int .i64 t] 69)).drew.heap[w2.heap.size]? = some (.cells #[.int .i64 s, .int .i64 t] 69 (0, 0))) := ⟨heap_alloc_new _ _⟩
    have HZ3 : Aside0 ((w2.alloc (.cells #[.int .i64 s, .int .i64 t] 69)).drew.heap[w.heap.size + 1 + 1]? = some (.cells #[.int .i64 0, .int .i64 0] 69 (0, 0))) := ⟨blk_alloc HZ2.out _⟩
    have HAl := Aside0.mk (all_calls 36 #[] #[] inR (some ⟨w2.heap.size, 0, none⟩) 2 [s, t] (w2.alloc (.cells #[.int .i64 s, .int .i64 t] 69)).drew (two_C HO3.out) (enters_ Tryd.func36 (by kernel_rfl) rfl) (fun x W hb => tnumber_calls x W))
    generalize (w2.alloc (.cells #[.int .i64 s, .int .i64 t] 69)).drew = w3 at *
    clear c0' c1' c2' c3' hw1 hw2
    go_wp2_with (fail)
    refine HAl.out.mono ?_
    rintro e w4 ⟨he, hb⟩
    have HB4 := Aside0.mk (below_step HB3.out hb)
    have HO4 : Aside0 (w4.heap[w2.heap.size]? = some (.cells #[.int .i64 s, .int .i64 t] 69 (0, 0))) := ⟨(hb.block _ (blk_lt HO3.out)).trans HO3.out⟩
    have HZ4 : Aside0 (w4.heap[w.heap.size + 1 + 1]? = some (.cells #[.int .i64 0, .int .i64 0] 69 (0, 0))) := ⟨(hb.block _ (blk_lt HZ3.out)).trans HZ3.out⟩
    have z0 : w4.cell? ⟨w.heap.size + 1 + 1, 0, none⟩ = some (.int .i64 0) := blk_cell HZ4.out 0
    have z1 : w4.cell? ⟨w.heap.size + 1 + 1, 1, none⟩ = some (.int .i64 0) := blk_cell HZ4.out 1
    have g0 : w4.frozen? ⟨w.heap.size + 1 + 1, 0, none⟩ = false := blk_frozen HZ4.out 0
    have g1 : w4.frozen? ⟨w.heap.size + 1 + 1, 1, none⟩ = false := blk_frozen HZ4.out 1
    have y0 : w4.cell? ⟨w2.heap.size, 0, none⟩ = some (.int .i64 s) := blk_cell HO4.out 0
    have y1 : w4.cell? ⟨w2.heap.size, 1, none⟩ = some (.int .i64 t) := blk_cell HO4.out 1
    clear hb HAl HO3 HZ3 HZ2
    by_cases hst : inR s = true ∧ inR t = true
    · have hall : ([s, t].all inR) = true := by simp [hst.1, hst.2]
      rw [hall] at he
      subst he
      have hx := HR.out
      rw [if_pos hst] at hx
      cases hx
      clear hst hall HR
      go_wp2_with (fail)
      exact bodyPost_ret (results_ct Tryd.results57 _ _ (w.heap.size + 1 + 1) 69 #[.int .i64 x, .int .i64 y] (0, 0) _ rfl (blk_set (blk_set HZ4.out 0 (.int .i64 x)) 1 (.int .i64 y)) Tryd.underlying69 rfl HI.out) rfl ⟨rfl, (HB4.out.setCell (show w.heap.size ≤ w.heap.size + 1 + 1 by omega) _).setCell (show w.heap.size ≤ w.heap.size + 1 + 1 by omega) _⟩
    · have hall : ([s, t].all inR) = false := by
        rw [List.all_eq_false]
        by_cases h : inR s = true
        · exact ⟨t, by simp, fun h2 => hst ⟨h, h2⟩⟩
        · exact ⟨s, by simp, h⟩
      rw [hall] at he
      subst he
      have hx := HR.out
      rw [if_neg hst] at hx
      cases hx
      clear hst hall HR
      go_wp2_with (fail)
      exact bodyPost_ret (results_ct Tryd.results57 _ _ (w.heap.size + 1 + 1) 69 #[.int .i64 0, .int .i64 0] (0, 0) _ rfl (blk_set (blk_set HZ4.out 0 (.int .i64 0)) 1 (.int .i64 0)) Tryd.underlying69 rfl HI.out) rfl ⟨rfl, (HB4.out.setCell (show w.heap.size ≤ w.heap.size + 1 + 1 by omega) _).setCell (show w.heap.size ≤ w.heap.size + 1 + 1 by omega) _⟩
  · have he := h1 (by rw [hz]; decide)
    rw [hz] at he
    subst he
    have hx : (x, y, z) = ((0 : Int), (0 : Int), (17 : Int)) := HR.out.symm.trans hT
    cases hx
    have z0 : w2.cell? ⟨w.heap.size + 1 + 1, 0, none⟩ = some (.int .i64 0) := blk_cell HZ2.out 0
    have z1 : w2.cell? ⟨w.heap.size + 1 + 1, 1, none⟩ = some (.int .i64 0) := blk_cell HZ2.out 1
    have g0 : w2.frozen? ⟨w.heap.size + 1 + 1, 0, none⟩ = false := blk_frozen HZ2.out 0
    have g1 : w2.frozen? ⟨w.heap.size + 1 + 1, 1, none⟩ = false := blk_frozen HZ2.out 1
    clear h1 h2 hz hT HIn HR HEr
    go_wp2_with (fail)
    exact bodyPost_ret (results_ct Tryd.results57 _ _ (w.heap.size + 1 + 1) 69 #[.int .i64 0, .int .i64 0] (0, 0) _ rfl (blk_set (blk_set HZ2.out 0 (.int .i64 0)) 1 (.int .i64 0)) Tryd.underlying69 rfl HI.out) rfl ⟨rfl, (HB2.out.setCell (show w.heap.size ≤ w.heap.size + 1 + 1 by omega) _).setCell (show w.heap.size ≤ w.heap.size + 1 + 1 by omega) _⟩
end Go.Proofs.YtfameghednapkaaDoor.Ten
namespace Go.Proofs.YtfameghednapkaaDoor.Ten
open Go.RowKit Go.Proofs.YtfameghednapkaaDoorW.PrintWords Go.Proofs.YtfameghednapkaaDoorW.PrintLast Go.Proofs.YtfameghednapkaaDoorW.PrintMore Go.Proofs.YtfameghednapkaaDoor.K Go.Proofs.YtfameghednapkaaDoor.RI Go.Proofs.YtfameghednapkaaDoor.Fixed
set_option linter.unusedVariables false
set_option linter.unusedSimpArgs false
def anglesA : Array Value := #[.int .i64 39322, .int .i64 52429, .int .i64 60495, .int .i64 25206, .int .i64 57826, .int .i64 30840, .int .i64 62915, .int .i64 18350]
theorem angles_at {W : World} {G : Nat} (h : LaidAt W G anglesA) (r : Nat) (hr : r < 4) : W.cell? ⟨G, r * 2, none⟩ = some (.int .i64 (stepT r).1) ∧ W.cell? ⟨G, r * 2 + 1, none⟩ = some (.int .i64 (stepT r).2) := by
  obtain ⟨t, fr, h⟩ := h
  have hc : ∀ j, W.cell? ⟨G, j, none⟩ = anglesA[j]? := fun j => by
    simp [World.cell?, h]
  rw [hc, hc]
  match r, hr with
  | 0, _ => exact ⟨rfl, rfl⟩
  | 1, _ => exact ⟨rfl, rfl⟩
  | 2, _ => exact ⟨rfl, rfl⟩
  | 3, _ => exact ⟨rfl, rfl⟩
set_option maxHeartbeats 16000000 in
set_option maxRecDepth 100000 in
theorem angle_calls (pair n : Nat) (w : World) (hp : pair ≤ 100000) (hn : n ≤ 1023) (hA : LaidAt w 1 anglesA) (x y z : Int) (hr : angN (stepT (pair % 4)).1 (stepT (pair % 4)).2 n = (x, y, z)) :
    Calls Tryd.prog 56 #[.int .i64 (pair : Int), .int .i64 (n : Int)] w fun e w' => e = .returned (.tuple #[.agg #[.int .i64 x, .int .i64 y], .int .i64 z]) ∧ Below w.heap.size w w' := by
  have HB0 : Aside0 (Below w.heap.size w ((w.alloc (.cells #[.int .i64 0, .int .i64 0] 69)).alloc (.cells #[.int .i64 65536, .int .i64 0] 69))) := ⟨bel_alloc (bel_alloc (Below.refl _ _) _) _⟩
  have HZ0 : Aside0 (((w.alloc (.cells #[.int .i64 0, .int .i64 0] 69)).alloc (.cells #[.int .i64 65536, .int .i64 0] 69)).heap[w.heap.size]? = some (.cells #[.int .i64 0, .int .i64 0] 69 (0, 0))) := ⟨blk_alloc (heap_alloc_new _ _) _⟩
  have HX0 : Aside0 (((w.alloc (.cells #[.int .i64 0, .int .i64 0] 69)).alloc (.cells #[.int .i64 65536, .int .i64 0] 69)).heap[w.heap.size + 1]? = some (.cells #[.int .i64 65536, .int .i64 0] 69 (0, 0))) := ⟨by
    have h := heap_alloc_new (w.alloc (.cells #[.int .i64 0, .int .i64 0] 69)) (.cells #[.int .i64 65536, .int .i64 0] 69)
    rwa [World.size_alloc] at h⟩
  have HI : Aside0 ((Tryd.prog.info? 69).map (·.size) = some 2) := ⟨by kernel_rfl⟩
  have HA := Aside0.mk hA
  have HR := Aside0.mk hr
  obtain ⟨r, hrr⟩ : ∃ r, r = pair % 4 := ⟨_, rfl⟩
  have hr4 : r < 4 := by omega
  have hr4I : (r : Int) < 4 := by omega
  have hmod : (pair : Int).tmod 4 = (r : Int) := by rw [Int.tmod_eq_emod_of_nonneg (by omega)]; omega
  have hmodN : ((pair % 4 : Nat) : Int) = (r : Int) := by omega
  rw [← hrr] at HR
  have HSt := Aside0.mk (stepT_in r)
  have HAt : Aside0 (∀ W, Below w.heap.size w W → W.cell? ⟨1, r * 2, none⟩ = some (.int .i64 (stepT r).1) ∧ W.cell? ⟨1, r * 2 + 1, none⟩ = some (.int .i64 (stepT r).2)) := ⟨fun W hb => angles_at (HA.out.below hb) r hr4⟩
  obtain ⟨c0, hc0⟩ : ∃ c0, c0 = (stepT r).1 := ⟨_, rfl⟩
  obtain ⟨c1, hc1⟩ : ∃ c1, c1 = (stepT r).2 := ⟨_, rfl⟩
  rw [← hc0, ← hc1] at HR HSt HAt
  have hnI : (n : Int) ≤ 1023 := by omega
  clear hA hr hrr hc0 hc1 HA
  go_enter Tryd.func56, Tryd.ntmps56
  go_wp2_with (fail)
  generalize (w.alloc (.cells #[.int .i64 0, .int .i64 0] 69)).alloc (.cells #[.int .i64 65536, .int .i64 0] 69) = w1 at *
  go_loopw [7, 10] (fun v7 v10 wr => ∃ k : Nat, k ≤ n ∧ v10 = .int .i64 (k : Int) ∧ v7 = .int .i64 0 ∧ Aside0 (∃ x0 y0, angN c0 c1 k = (x0, y0, 0) ∧ wr.heap[w.heap.size + 1]? = some (.cells #[.int .i64 x0, .int .i64 y0] 69 (0, 0)) ∧ wr.heap[w.heap.size]? = some (.cells #[.int .i64 0, .int .i64 0] 69 (0, 0)) ∧ Below w.heap.size w wr)) (fun _ v10 _ => n - (intOf v10).toNat)
  case atStart => exact ⟨0, Nat.zero_le _, rfl, rfl, ⟨65536, 0, rfl, HX0.out, HZ0.out, HB0.out⟩⟩
  case round =>
    obtain ⟨k, hk, rfl, rfl, HO⟩ := hrel
    clear HB0 HZ0 HX0
    obtain ⟨x0, y0, hN, hX, hZ, hB⟩ := HO.out
    have HN := Aside0.mk hN
    by_cases hlt : k < n
    · have HX : Aside0 (wr.drew.heap[w.heap.size + 1]? = some (.cells #[.int .i64 x0, .int .i64 y0] 69 (0, 0))) := ⟨hX⟩
      have HZ : Aside0 (wr.drew.heap[w.heap.size]? = some (.cells #[.int .i64 0, .int .i64 0] 69 (0, 0))) := ⟨hZ⟩
      have HBd : Aside0 (Below w.heap.size w wr.drew) := ⟨below_drew hB⟩
      have hin := angN_in c0 c1 k
      rw [hN] at hin
      obtain ⟨q2, q3⟩ := HAt.out wr.drew HBd.out
      have q0 : wr.drew.cell? ⟨w.heap.size + 1, 0, none⟩ = some (.int .i64 x0) := blk_cell HX.out 0
      have q1 : wr.drew.cell? ⟨w.heap.size + 1, 1, none⟩ = some (.int .i64 y0) := blk_cell HX.out 1
      obtain ⟨x1, y1, z1, hT⟩ : ∃ x1 y1 z1, turnV x0 y0 c0 c1 = (x1, y1, z1) := ⟨_, _, _, rfl⟩
      have HTu := Aside0.mk (turn_calls x0 y0 c0 c1 wr.drew hin.1 hin.2 HSt.out.1 HSt.out.2 x1 y1 z1 hT)
      have HT := Aside0.mk hT
      have hwk : IntKind.i64.wrap ((k : Int) + 1) = (k : Int) + 1 := by rw [IntKind.wrap_i64]; omega
      clear hin hX hZ hB hN hT HO
      go_upto_region 4 with (fail)
      refine start_ (n := 11) (S := fun w' => w'.cell? ⟨w.heap.size + 1, 0, none⟩ = some (.int .i64 x0) ∧ w'.cell? ⟨w.heap.size + 1, 1, none⟩ = some (.int .i64 y0) ∧ w'.cell? ⟨1, r * 2, none⟩ = some (.int .i64 c0) ∧ w'.cell? ⟨1, r * 2 + 1, none⟩ = some (.int .i64 c1)) (ds := [9]) #[false, false, false, false, false, false, false, false, false, false, false] (by kernel_rfl) rfl rfl ⟨q0, q1, q2, q3⟩ (fun hHeld => ?_)
      refine pure_ (i := 1) (N := some 14) (v := ?_) (a' := ?_) #[false, true, false, false, false, false, false, false, false, false, false] rfl rfl (by kernel_rfl) (fun _ _ _ h => h) (Or.inl ⟨by rfl, ?_⟩) ?_ ?_
      rotate_left
      · intro w'
        go_simp
        with_reducible rfl
      rotate_left
      · simp only [Act.put, List.setIfInBounds_toArray, List.set_cons_zero, List.set_cons_succ]
        rfl
      refine pure_ (i := 2) (N := some 15) (v := ?_) (a' := ?_) #[false, true, true, false, false, false, false, false, false, false, false] rfl rfl (by kernel_rfl) (fun _ _ _ h => h) (Or.inl ⟨by rfl, ?_⟩) ?_ ?_
      rotate_left
      · intro w'
        go_simp
        with_reducible rfl
      rotate_left
      · simp only [Act.put, List.setIfInBounds_toArray, List.set_cons_zero, List.set_cons_succ]
        rfl
      refine pure_ (i := 3) (N := some 16) (v := ?_) (a' := ?_) #[false, true, true, true, false, false, false, false, false, false, false] rfl rfl (by kernel_rfl) (fun _ _ _ h => h) (Or.inl ⟨by rfl, ?_⟩) ?_ ?_
      rotate_left
      · intro w'
        go_simp
        with_reducible rfl
      rotate_left
      · simp only [Act.put, List.setIfInBounds_toArray, List.set_cons_zero, List.set_cons_succ]
        rfl
      refine take_ (i := 0) (N := some 13) (v := ?_) (a' := ?_) #[true, true, true, true, false, false, false, false, false, false, false] rfl rfl (by kernel_rfl) (fun _ _ _ h => h) (Or.inl ⟨by rfl, ?_⟩) hHeld ?_ ?_
      rotate_left
      · rintro w' ⟨s0, s1, s2, s3⟩
        go_simp
        with_reducible rfl
      rotate_left
      · simp only [Act.put, List.setIfInBounds_toArray, List.set_cons_zero, List.set_cons_succ]
        rfl
      refine take_ (i := 4) (N := some 17) (v := ?_) (a' := ?_) #[true, true, true, true, true, false, false, false, false, false, false] rfl rfl (by kernel_rfl) (fun _ _ _ h => h) (Or.inl ⟨by rfl, ?_⟩) hHeld ?_ ?_
      rotate_left
      · rintro w' ⟨s0, s1, s2, s3⟩
        go_simp
        with_reducible rfl
      rotate_left
      · simp only [Act.put, List.setIfInBounds_toArray, List.set_cons_zero, List.set_cons_succ]
        rfl
      refine one_ (i := 5) (N := some 18) #[true, true, true, true, true, true, false, false, false, false, false] rfl rfl (by kernel_rfl) (by decide) (fun K hK => ?_)
      refine goes_ Tryd.func57 (by kernel_rfl) rfl #[.agg #[.int .i64 x0, .int .i64 y0], .agg #[.int .i64 c0, .int .i64 c1]] (by rfl) rfl rfl (by simp only [List.map_toArray, List.map_cons, List.map_nil]; rfl) ?_
      with_reducible refine (HTu.out).mono ?_
      rintro e w3 ⟨rfl, hb3⟩
      refine ⟨_, rfl, ?_⟩
      have HB3 := Aside0.mk (below_step HBd.out hb3)
      have HX3 : Aside0 (w3.heap[w.heap.size + 1]? = some (.cells #[.int .i64 x0, .int .i64 y0] 69 (0, 0))) := ⟨(hb3.block _ (blk_lt HX.out)).trans HX.out⟩
      have HZ3 : Aside0 (w3.heap[w.heap.size]? = some (.cells #[.int .i64 0, .int .i64 0] 69 (0, 0))) := ⟨(hb3.block _ (blk_lt HZ.out)).trans HZ.out⟩
      have j0 : w3.cell? ⟨w.heap.size + 1, 0, none⟩ = some (.int .i64 x0) := blk_cell HX3.out 0
      have j1 : w3.cell? ⟨w.heap.size + 1, 1, none⟩ = some (.int .i64 y0) := blk_cell HX3.out 1
      have f0 : w3.frozen? ⟨w.heap.size + 1, 0, none⟩ = false := blk_frozen HX3.out 0
      have f1 : w3.frozen? ⟨w.heap.size + 1, 1, none⟩ = false := blk_frozen HX3.out 1
      refine hK.out _ _ ⟨j0, j1, cell_keep hb3 q2, cell_keep hb3 q3⟩ (fun hHeld => ?_)
      clear hK K
      refine norm_ (a' := ?_) ?_ ?_
      rotate_left
      · show Act.put _ (some 18) _ = _
        simp only [Act.put, List.setIfInBounds_toArray, List.set_cons_zero, List.set_cons_succ]
        rfl
      refine pure_ (i := 6) (N := some 12) (v := ?_) (a' := ?_) #[true, true, true, true, true, true, true, false, false, false, false] rfl rfl (by kernel_rfl) (fun _ _ _ h => h) (Or.inl ⟨by rfl, ?_⟩) ?_ ?_
      rotate_left
      · intro w'
        go_simp
        with_reducible rfl
      rotate_left
      · simp only [Act.put, List.setIfInBounds_toArray, List.set_cons_zero, List.set_cons_succ]
        rfl
      refine pure_ (i := 7) (N := some 19) (v := ?_) (a' := ?_) #[true, true, true, true, true, true, true, true, false, false, false] rfl rfl (by kernel_rfl) (fun _ _ _ h => h) (Or.inl ⟨by rfl, ?_⟩) ?_ ?_
      rotate_left
      · intro w'
        go_simp
        with_reducible rfl
      rotate_left
      · simp only [Act.put, List.setIfInBounds_toArray, List.set_cons_zero, List.set_cons_succ]
        rfl
      refine pure_ (i := 8) (N := some 20) (v := ?_) (a' := ?_) #[true, true, true, true, true, true, true, true, true, false, false] rfl rfl (by kernel_rfl) (fun _ _ _ h => h) (Or.inl ⟨by rfl, ?_⟩) ?_ ?_
      rotate_left
      · intro w'
        go_simp
        with_reducible rfl
      rotate_left
      · simp only [Act.put, List.setIfInBounds_toArray, List.set_cons_zero, List.set_cons_succ]
        rfl
      refine last_ (i := 9) (N := none) #[true, true, true, true, true, true, true, true, true, true, false] rfl rfl (by kernel_rfl) (by decide) (fun K hK => ?_)
      refine skip_ (w1 := ?_) (by rfl) rfl ?_ ?_
      rotate_left
      · go_simp
        rfl
      refine hK.out _ _ ?_
      clear hK K
      refine pure_ (i := 10) (N := some 7) (v := ?_) (a' := ?_) #[true, true, true, true, true, true, true, true, true, true, true] rfl rfl (by kernel_rfl) (fun _ _ _ h => h) (Or.inl ⟨by rfl, ?_⟩) ?_ ?_
      rotate_left
      · intro w'
        go_simp
        with_reducible rfl
      rotate_left
      · simp only [Act.put, List.setIfInBounds_toArray, List.set_cons_zero, List.set_cons_succ]
        rfl
      refine done_ (by kernel_rfl) ?_
      clear hHeld q0 q1 q2 q3 j0 j1 f0 f1
      have HX4 : Aside0 (((w3.setCell ⟨w.heap.size + 1, 0, none⟩ (.int .i64 x1)).setCell ⟨w.heap.size + 1, 1, none⟩ (.int .i64 y1)).heap[w.heap.size + 1]? = some (.cells #[.int .i64 x1, .int .i64 y1] 69 (0, 0))) := ⟨blk_set (blk_set HX3.out 0 _) 1 _⟩
      have HZ4 : Aside0 (((w3.setCell ⟨w.heap.size + 1, 0, none⟩ (.int .i64 x1)).setCell ⟨w.heap.size + 1, 1, none⟩ (.int .i64 y1)).heap[w.heap.size]? = some (.cells #[.int .i64 0, .int .i64 0] 69 (0, 0))) := ⟨(((KeepBut.refl w3 (w.heap.size + 1) none).set_ 0 _).set_ 1 _).blk HZ3.out (by omega) (by simp)⟩
      have HB4 : Aside0 (Below w.heap.size w ((w3.setCell ⟨w.heap.size + 1, 0, none⟩ (.int .i64 x1)).setCell ⟨w.heap.size + 1, 1, none⟩ (.int .i64 y1))) := ⟨(HB3.out.setCell (show w.heap.size ≤ w.heap.size + 1 by omega) _).setCell (show w.heap.size ≤ w.heap.size + 1 by omega) _⟩
      generalize (w3.setCell ⟨w.heap.size + 1, 0, none⟩ (.int .i64 x1)).setCell ⟨w.heap.size + 1, 1, none⟩ (.int .i64 y1) = w4 at *
      by_cases hz : z1 = 0
      · subst hz
        have HN2 : Aside0 (angN c0 c1 (k + 1) = (x1, y1, 0)) := ⟨by rw [angN_succ HN.out, HT.out]⟩
        go_wp2_with (fail)
        go_roundw
        case rel => exact ⟨k + 1, by omega, by go_num, rfl, ⟨x1, y1, HN2.out, HX4.out, HZ4.out, HB4.out⟩⟩
        case measure => simp [intOf]; omega
      · have dz : (z1 != 0) = true := by simpa using hz
        have hE : (x, y, z) = ((0 : Int), (0 : Int), z1) := by
          have h1 := angN_stop HN.out (by rw [HT.out]; exact hz) hlt
          rw [HT.out] at h1
          exact HR.out.symm.trans h1
        cases hE
        have z0 : w4.cell? ⟨w.heap.size, 0, none⟩ = some (.int .i64 0) := blk_cell HZ4.out 0
        have z2 : w4.cell? ⟨w.heap.size, 1, none⟩ = some (.int .i64 0) := blk_cell HZ4.out 1
        have g0 : w4.frozen? ⟨w.heap.size, 0, none⟩ = false := blk_frozen HZ4.out 0
        have g1 : w4.frozen? ⟨w.heap.size, 1, none⟩ = false := blk_frozen HZ4.out 1
        clear hz
        go_wp2_with (fail)
        exact bodyPost_ret (results_ct Tryd.results56 _ _ w.heap.size 69 #[.int .i64 0, .int .i64 0] (0, 0) _ rfl (blk_set (blk_set HZ4.out 0 (.int .i64 0)) 1 (.int .i64 0)) Tryd.underlying69 rfl HI.out) rfl ⟨rfl, (HB4.out.setCell (Nat.le_refl _) _).setCell (Nat.le_refl _) _⟩
    · obtain rfl : k = n := by omega
      have hE : (x, y, z) = (x0, y0, (0 : Int)) := HR.out.symm.trans hN
      cases hE
      have HX := Aside0.mk hX
      have HZ := Aside0.mk hZ
      have HB := Aside0.mk hB
      have y2 : wr.cell? ⟨w.heap.size + 1, 0, none⟩ = some (.int .i64 x) := blk_cell hX 0
      have y3 : wr.cell? ⟨w.heap.size + 1, 1, none⟩ = some (.int .i64 y) := blk_cell hX 1
      have z0 : wr.cell? ⟨w.heap.size, 0, none⟩ = some (.int .i64 0) := blk_cell hZ 0
      have z2 : wr.cell? ⟨w.heap.size, 1, none⟩ = some (.int .i64 0) := blk_cell hZ 1
      have g0 : wr.frozen? ⟨w.heap.size, 0, none⟩ = false := blk_frozen hZ 0
      have g1 : wr.frozen? ⟨w.heap.size, 1, none⟩ = false := blk_frozen hZ 1
      clear hX hZ hB hN HO
      go_wp2_with (fail)
      exact bodyPost_ret (results_ct Tryd.results56 _ _ w.heap.size 69 #[.int .i64 x, .int .i64 y] (0, 0) _ rfl (blk_set (blk_set HZ.out 0 (.int .i64 x)) 1 (.int .i64 y)) Tryd.underlying69 rfl HI.out) rfl ⟨rfl, (HB.out.setCell (Nat.le_refl _) _).setCell (Nat.le_refl _) _⟩
end Go.Proofs.YtfameghednapkaaDoor.Ten
namespace Go.Proofs.YtfameghednapkaaDoor.Ten
open Go.RowKit Go.Proofs.YtfameghednapkaaDoorW.PrintWords Go.Proofs.YtfameghednapkaaDoorW.PrintLast Go.Proofs.YtfameghednapkaaDoorW.PrintMore Go.Proofs.YtfameghednapkaaDoor.K Go.Proofs.YtfameghednapkaaDoor.RI Go.Proofs.YtfameghednapkaaDoor.Fixed
set_option linter.unusedVariables false
set_option linter.unusedSimpArgs false
def rotA (n k : Nat) : Int × Int × Int := angN (stepT (k % 4)).1 (stepT (k % 4)).2 n
def rotF (vs : List Int) (n k : Nat) : Int × Int × Int :=
  if (rotA n k).2.2 = 0 then turnV (vs.getD (2 * k) 0) (vs.getD (2 * k + 1) 0) (rotA n k).1 (rotA n k).2.1 else (0, 0, (rotA n k).2.2)
theorem angN_err (c0 c1 : Int) : ∀ n, (angN c0 c1 n).2.2 ≠ 0 → angN c0 c1 n = (0, 0, (angN c0 c1 n).2.2)
  | 0, h => absurd rfl h
  | n + 1, h => by
    unfold angN at h ⊢
    split
    · rename_i h2
      rw [if_pos h2] at h
      exact turnV_err _ _ _ _ h
    · rfl
set_option maxHeartbeats 16000000 in
set_option maxRecDepth 100000 in
theorem rot1_calls (A : Option Addr) (cv : Nat) (vs : List Int) (n k B2 B3 : Nat) (w : World) (hC : Kd.C (Kd.int .i64) w A vs.length vs) (hk : 2 * k + 1 < vs.length) (hn : n ≤ 1023) (hv : vs.length ≤ 100000) (hin : ∀ x ∈ vs, inR x = true)
    (hb2 : w.heap[B2]? = some (.cells #[.slice A vs.length cv] 22 (0, 0))) (hb3 : w.heap[B3]? = some (.cells #[.int .i64 (n : Int)] 3 (0, 0))) (hA : LaidAt w 1 anglesA) :
    Calls Tryd.prog 55 #[.int .i64 (k : Int), .pointer (some ⟨B3, 0, none⟩), .pointer (some ⟨B2, 0, none⟩)] w fun e w' => e = .returned (.tuple #[.agg #[.int .i64 (rotF vs n k).1, .int .i64 (rotF vs n k).2.1], .int .i64 (rotF vs n k).2.2]) ∧ Below w.heap.size w w' := by
  have HI : Aside0 ((Tryd.prog.info? 69).map (·.size) = some 2) := ⟨by kernel_rfl⟩
  obtain ⟨ad, rfl, hxa⟩ := int_at hC (2 * k) (by omega)
  obtain ⟨ad2, had, hxb⟩ := int_at hC (2 * k + 1) hk
  cases had
  have hia : inR (vs.getD (2 * k) 0) = true := by
    rw [List.getD_eq_getElem?_getD, List.getElem?_eq_getElem (show 2 * k < vs.length by omega)]
    exact hin _ (List.getElem_mem _)
  have hib : inR (vs.getD (2 * k + 1) 0) = true := by
    rw [List.getD_eq_getElem?_getD, List.getElem?_eq_getElem hk]
    exact hin _ (List.getElem_mem _)
  obtain ⟨m, hm⟩ : ∃ m, m = 2 * k := ⟨_, rfl⟩
  obtain ⟨m1, hm1⟩ : ∃ m1, m1 = 2 * k + 1 := ⟨_, rfl⟩
  have hF : rotF vs n k = if (rotA n k).2.2 = 0 then turnV (vs.getD m 0) (vs.getD m1 0) (rotA n k).1 (rotA n k).2.1 else (0, 0, (rotA n k).2.2) := by rw [hm, hm1]; rfl
  rw [← hm] at hxa hia
  rw [← hm1] at hxb hib hk
  have hwm : IntKind.i64.wrap (2 * (k : Int)) = (m : Int) := by rw [IntKind.wrap_i64]; omega
  have hwm1 : IntKind.i64.wrap ((m : Int) + 1) = (m1 : Int) := by rw [IntKind.wrap_i64]; omega
  have hml : m < vs.length := by omega
  have hkb : k ≤ 100000 := by omega
  generalize vs.getD m 0 = xa at *
  generalize vs.getD m1 0 = xb at *
  generalize rotF vs n k = pF at *
  have hcv := hC.2.1
  clear hC hin hm hm1
  generalize vs.length = nv at *
  obtain ⟨c0, c1, z, hr⟩ : ∃ c0 c1 z, rotA n k = (c0, c1, z) := ⟨_, _, _, rfl⟩
  have HAi := Aside0.mk (angN_in (stepT (k % 4)).1 (stepT (k % 4)).2 n)
  have HAe := Aside0.mk (angN_err (stepT (k % 4)).1 (stepT (k % 4)).2 n)
  have HAn : Aside0 (∀ W, Below w.heap.size w W → Calls Tryd.prog 56 #[.int .i64 (k : Int), .int .i64 (n : Int)] W fun e w' => e = .returned (.tuple #[.agg #[.int .i64 c0, .int .i64 c1], .int .i64 z]) ∧ Below W.heap.size W w') := ⟨fun W hb => angle_calls k n W hkb hn (hA.below hb) c0 c1 z hr⟩
  have hr2 : angN (stepT (k % 4)).1 (stepT (k % 4)).2 n = (c0, c1, z) := hr
  rw [hr] at hF
  rw [hr2] at HAi HAe
  have HF := Aside0.mk hF
  have HIn := Aside0.mk (And.intro hia hib)
  have HXa := Aside0.mk hxa
  have HXb := Aside0.mk hxb
  have H2 := Aside0.mk hb2
  have H3 := Aside0.mk hb3
  have HB0 : Aside0 (Below w.heap.size w (w.alloc (.cells #[.int .i64 0, .int .i64 0] 69))) := ⟨bel_alloc (Below.refl _ _) _⟩
  have HZ0 : Aside0 ((w.alloc (.cells #[.int .i64 0, .int .i64 0] 69)).heap[w.heap.size]? = some (.cells #[.int .i64 0, .int .i64 0] 69 (0, 0))) := ⟨heap_alloc_new _ _⟩
  clear hF hia hib hxa hxb hb2 hb3 hr hr2 hA
  go_enter Tryd.func55, Tryd.ntmps55
  have hcn : (w.alloc (.cells #[.int .i64 0, .int .i64 0] 69)).cell? ⟨B3, 0, none⟩ = some (.int .i64 (n : Int)) := blk_cell (blk_alloc H3.out _) 0
  go_wp2_with (fail)
  refine (HAn.out _ HB0.out).mono ?_
  clear hcn
  rintro e w1 ⟨rfl, hb1⟩
  have HB1 := Aside0.mk (below_step HB0.out hb1)
  have HZ1 : Aside0 (w1.heap[w.heap.size]? = some (.cells #[.int .i64 0, .int .i64 0] 69 (0, 0))) := ⟨(hb1.block _ (blk_lt HZ0.out)).trans HZ0.out⟩
  generalize w.alloc (.cells #[.int .i64 0, .int .i64 0] 69) = w0 at *
  clear hb1 HZ0 HB0 HAn
  have HB3 : Aside0 (Below w.heap.size w (w1.alloc (.cells #[.int .i64 c0, .int .i64 c1] 69))) := ⟨below_step HB1.out (bel_alloc (Below.refl _ _) _)⟩
  have HZ3 : Aside0 ((w1.alloc (.cells #[.int .i64 c0, .int .i64 c1] 69)).heap[w.heap.size]? = some (.cells #[.int .i64 0, .int .i64 0] 69 (0, 0))) := ⟨blk_alloc HZ1.out _⟩
  have HG3 : Aside0 ((w1.alloc (.cells #[.int .i64 c0, .int .i64 c1] 69)).heap[w1.heap.size]? = some (.cells #[.int .i64 c0, .int .i64 c1] 69 (0, 0))) := ⟨heap_alloc_new _ _⟩
  by_cases hz : z = 0
  · subst hz
    have HF2 : Aside0 (pF = turnV xa xb c0 c1) := ⟨by rw [HF.out]; rfl⟩
    obtain ⟨x1, y1, z1, hT⟩ : ∃ x1 y1 z1, turnV xa xb c0 c1 = (x1, y1, z1) := ⟨_, _, _, rfl⟩
    have HT := Aside0.mk hT
    have HTu0 : Aside0 (∀ W, Calls Tryd.prog 57 #[.agg #[.int .i64 xa, .int .i64 xb], .agg #[.int .i64 c0, .int .i64 c1]] W fun e w' => e = .returned (.tuple #[.agg #[.int .i64 x1, .int .i64 y1], .int .i64 z1]) ∧ Below W.heap.size W w') := ⟨fun W => turn_calls xa xb c0 c1 W HIn.out.1 HIn.out.2 HAi.out.1 HAi.out.2 x1 y1 z1 hT⟩
    clear hT
    go_upto_region 4 with (fail)
    have HB3 : Aside0 (Below w.heap.size w (w1.alloc (.cells #[.int .i64 c0, .int .i64 c1] 69)).drew) := ⟨below_drew HB3.out⟩
    have HZ3 : Aside0 ((w1.alloc (.cells #[.int .i64 c0, .int .i64 c1] 69)).drew.heap[w.heap.size]? = some (.cells #[.int .i64 0, .int .i64 0] 69 (0, 0))) := ⟨HZ3.out⟩
    have HG3 : Aside0 ((w1.alloc (.cells #[.int .i64 c0, .int .i64 c1] 69)).drew.heap[w1.heap.size]? = some (.cells #[.int .i64 c0, .int .i64 c1] 69 (0, 0))) := ⟨HG3.out⟩
    have HTu := Aside0.mk (HTu0.out (w1.alloc (.cells #[.int .i64 c0, .int .i64 c1] 69)).drew)
    have q0 : (w1.alloc (.cells #[.int .i64 c0, .int .i64 c1] 69)).drew.cell? ⟨B2, 0, none⟩ = some (.slice (some ad) nv cv) := cell_keep HB3.out (blk_cell H2.out 0)
    have q1 : (w1.alloc (.cells #[.int .i64 c0, .int .i64 c1] 69)).drew.cell? (ad.add m) = some (.int .i64 xa) := cell_keep HB3.out HXa.out
    have q2 : (w1.alloc (.cells #[.int .i64 c0, .int .i64 c1] 69)).drew.cell? (ad.add m1) = some (.int .i64 xb) := cell_keep HB3.out HXb.out
    have q3 : (w1.alloc (.cells #[.int .i64 c0, .int .i64 c1] 69)).drew.cell? ⟨w1.heap.size, 0, none⟩ = some (.int .i64 c0) := blk_cell HG3.out 0
    have q4 : (w1.alloc (.cells #[.int .i64 c0, .int .i64 c1] 69)).drew.cell? ⟨w1.heap.size, 1, none⟩ = some (.int .i64 c1) := blk_cell HG3.out 1
    refine start_ (n := 18) (S := fun w' => w'.cell? ⟨B2, 0, none⟩ = some (.slice (some ad) nv cv) ∧ w'.cell? (ad.add m) = some (.int .i64 xa) ∧ w'.cell? (ad.add m1) = some (.int .i64 xb) ∧ w'.cell? ⟨w1.heap.size, 0, none⟩ = some (.int .i64 c0) ∧ w'.cell? ⟨w1.heap.size, 1, none⟩ = some (.int .i64 c1)) (ds := [16]) #[false, false, false, false, false, false, false, false, false, false, false, false, false, false, false, false, false, false] (by kernel_rfl) rfl rfl ⟨q0, q1, q2, q3, q4⟩ (fun hHeld => ?_)
    refine pure_ (i := 1) (N := some 19) (v := ?_) (a' := ?_) #[false, true, false, false, false, false, false, false, false, false, false, false, false, false, false, false, false, false] rfl rfl (by kernel_rfl) (fun _ _ _ h => h) (Or.inl ⟨by rfl, ?_⟩) ?_ ?_
    rotate_left
    · intro w'
      go_simp
      with_reducible rfl
    rotate_left
    · simp only [Act.put, List.setIfInBounds_toArray, List.set_cons_zero, List.set_cons_succ]
      rfl
    refine pure_ (i := 2) (N := some 20) (v := ?_) (a' := ?_) #[false, true, true, false, false, false, false, false, false, false, false, false, false, false, false, false, false, false] rfl rfl (by kernel_rfl) (fun _ _ _ h => h) (Or.inl ⟨by rfl, ?_⟩) ?_ ?_
    rotate_left
    · intro w'
      go_simp
      with_reducible rfl
    rotate_left
    · simp only [Act.put, List.setIfInBounds_toArray, List.set_cons_zero, List.set_cons_succ]
      rfl
    refine pure_ (i := 6) (N := some 24) (v := ?_) (a' := ?_) #[false, true, true, false, false, false, true, false, false, false, false, false, false, false, false, false, false, false] rfl rfl (by kernel_rfl) (fun _ _ _ h => h) (Or.inl ⟨by rfl, ?_⟩) ?_ ?_
    rotate_left
    · intro w'
      go_simp
      with_reducible rfl
    rotate_left
    · simp only [Act.put, List.setIfInBounds_toArray, List.set_cons_zero, List.set_cons_succ]
      rfl
    refine pure_ (i := 7) (N := some 25) (v := ?_) (a' := ?_) #[false, true, true, false, false, false, true, true, false, false, false, false, false, false, false, false, false, false] rfl rfl (by kernel_rfl) (fun _ _ _ h => h) (Or.inl ⟨by rfl, ?_⟩) ?_ ?_
    rotate_left
    · intro w'
      go_simp
      with_reducible rfl
    rotate_left
    · simp only [Act.put, List.setIfInBounds_toArray, List.set_cons_zero, List.set_cons_succ]
      rfl
    refine pure_ (i := 8) (N := some 26) (v := ?_) (a' := ?_) #[false, true, true, false, false, false, true, true, true, false, false, false, false, false, false, false, false, false] rfl rfl (by kernel_rfl) (fun _ _ _ h => h) (Or.inl ⟨by rfl, ?_⟩) ?_ ?_
    rotate_left
    · intro w'
      go_simp
      with_reducible rfl
    rotate_left
    · simp only [Act.put, List.setIfInBounds_toArray, List.set_cons_zero, List.set_cons_succ]
      rfl
    refine take_ (i := 0) (N := some 18) (v := ?_) (a' := ?_) #[true, true, true, false, false, false, true, true, true, false, false, false, false, false, false, false, false, false] rfl rfl (by kernel_rfl) (fun _ _ _ h => h) (Or.inl ⟨by rfl, ?_⟩) hHeld ?_ ?_
    rotate_left
    · rintro w' ⟨s0, s1, s2, s3, s4⟩
      go_simp
      with_reducible rfl
    rotate_left
    · simp only [Act.put, List.setIfInBounds_toArray, List.set_cons_zero, List.set_cons_succ]
      rfl
    refine pure_ (i := 3) (N := some 21) (v := ?_) (a' := ?_) #[true, true, true, true, false, false, true, true, true, false, false, false, false, false, false, false, false, false] rfl rfl (by kernel_rfl) (fun _ _ _ h => h) (Or.inl ⟨by rfl, ?_⟩) ?_ ?_
    rotate_left
    · intro w'
      go_simp
      with_reducible rfl
    rotate_left
    · simp only [Act.put, List.setIfInBounds_toArray, List.set_cons_zero, List.set_cons_succ]
      rfl
    refine take_ (i := 4) (N := some 22) (v := ?_) (a' := ?_) #[true, true, true, true, true, false, true, true, true, false, false, false, false, false, false, false, false, false] rfl rfl (by kernel_rfl) (fun _ _ _ h => h) (Or.inl ⟨by rfl, ?_⟩) hHeld ?_ ?_
    rotate_left
    · rintro w' ⟨s0, s1, s2, s3, s4⟩
      go_simp
      with_reducible rfl
    rotate_left
    · simp only [Act.put, List.setIfInBounds_toArray, List.set_cons_zero, List.set_cons_succ]
      rfl
    refine take_ (i := 5) (N := some 23) (v := ?_) (a' := ?_) #[true, true, true, true, true, true, true, true, true, false, false, false, false, false, false, false, false, false] rfl rfl (by kernel_rfl) (fun _ _ _ h => h) (Or.inl ⟨by rfl, ?_⟩) hHeld ?_ ?_
    rotate_left
    · rintro w' ⟨s0, s1, s2, s3, s4⟩
      go_simp
      with_reducible rfl
    rotate_left
    · simp only [Act.put, List.setIfInBounds_toArray, List.set_cons_zero, List.set_cons_succ]
      rfl
    refine pure_ (i := 9) (N := some 27) (v := ?_) (a' := ?_) #[true, true, true, true, true, true, true, true, true, true, false, false, false, false, false, false, false, false] rfl rfl (by kernel_rfl) (fun _ _ _ h => h) (Or.inl ⟨by rfl, ?_⟩) ?_ ?_
    rotate_left
    · intro w'
      go_simp
      with_reducible rfl
    rotate_left
    · simp only [Act.put, List.setIfInBounds_toArray, List.set_cons_zero, List.set_cons_succ]
      rfl
    refine take_ (i := 10) (N := some 28) (v := ?_) (a' := ?_) #[true, true, true, true, true, true, true, true, true, true, true, false, false, false, false, false, false, false] rfl rfl (by kernel_rfl) (fun _ _ _ h => h) (Or.inl ⟨by rfl, ?_⟩) hHeld ?_ ?_
    rotate_left
    · rintro w' ⟨s0, s1, s2, s3, s4⟩
      go_simp
      with_reducible rfl
    rotate_left
    · simp only [Act.put, List.setIfInBounds_toArray, List.set_cons_zero, List.set_cons_succ]
      rfl
    refine pure_ (i := 11) (N := some 29) (v := ?_) (a' := ?_) #[true, true, true, true, true, true, true, true, true, true, true, true, false, false, false, false, false, false] rfl rfl (by kernel_rfl) (fun _ _ _ h => h) (Or.inl ⟨by rfl, ?_⟩) ?_ ?_
    rotate_left
    · intro w'
      go_simp
      with_reducible rfl
    rotate_left
    · simp only [Act.put, List.setIfInBounds_toArray, List.set_cons_zero, List.set_cons_succ]
      rfl
    refine take_ (i := 12) (N := some 30) (v := ?_) (a' := ?_) #[true, true, true, true, true, true, true, true, true, true, true, true, true, false, false, false, false, false] rfl rfl (by kernel_rfl) (fun _ _ _ h => h) (Or.inl ⟨by rfl, ?_⟩) hHeld ?_ ?_
    rotate_left
    · rintro w' ⟨s0, s1, s2, s3, s4⟩
      go_simp
      with_reducible rfl
    rotate_left
    · simp only [Act.put, List.setIfInBounds_toArray, List.set_cons_zero, List.set_cons_succ]
      rfl
    refine one_ (i := 13) (N := some 31) #[true, true, true, true, true, true, true, true, true, true, true, true, true, true, false, false, false, false] rfl rfl (by kernel_rfl) (by decide) (fun K hK => ?_)
    refine goes_ Tryd.func57 (by kernel_rfl) rfl #[.agg #[.int .i64 xa, .int .i64 xb], .agg #[.int .i64 c0, .int .i64 c1]] (by rfl) rfl rfl (by simp only [List.map_toArray, List.map_cons, List.map_nil]; rfl) ?_
    with_reducible refine (HTu.out).mono ?_
    rintro e w4 ⟨rfl, hb4⟩
    refine ⟨_, rfl, ?_⟩
    have HB4 := Aside0.mk (below_step HB3.out hb4)
    have HZ4 : Aside0 (w4.heap[w.heap.size]? = some (.cells #[.int .i64 0, .int .i64 0] 69 (0, 0))) := ⟨(hb4.block _ (blk_lt HZ3.out)).trans HZ3.out⟩
    have z0 : w4.cell? ⟨w.heap.size, 0, none⟩ = some (.int .i64 0) := blk_cell HZ4.out 0
    have z2 : w4.cell? ⟨w.heap.size, 1, none⟩ = some (.int .i64 0) := blk_cell HZ4.out 1
    have g0 : w4.frozen? ⟨w.heap.size, 0, none⟩ = false := blk_frozen HZ4.out 0
    have g1 : w4.frozen? ⟨w.heap.size, 1, none⟩ = false := blk_frozen HZ4.out 1
    refine hK.out _ _ ⟨cell_keep hb4 q0, cell_keep hb4 q1, cell_keep hb4 q2, cell_keep hb4 q3, cell_keep hb4 q4⟩ (fun hHeld => ?_)
    clear hK K
    refine norm_ (a' := ?_) ?_ ?_
    rotate_left
    · show Act.put _ (some 31) _ = _
      simp only [Act.put, List.setIfInBounds_toArray, List.set_cons_zero, List.set_cons_succ]
      rfl
    refine pure_ (i := 14) (N := some 32) (v := ?_) (a' := ?_) #[true, true, true, true, true, true, true, true, true, true, true, true, true, true, true, false, false, false] rfl rfl (by kernel_rfl) (fun _ _ _ h => h) (Or.inl ⟨by rfl, ?_⟩) ?_ ?_
    rotate_left
    · intro w'
      go_simp
      with_reducible rfl
    rotate_left
    · simp only [Act.put, List.setIfInBounds_toArray, List.set_cons_zero, List.set_cons_succ]
      rfl
    refine pure_ (i := 15) (N := some 33) (v := ?_) (a' := ?_) #[true, true, true, true, true, true, true, true, true, true, true, true, true, true, true, true, false, false] rfl rfl (by kernel_rfl) (fun _ _ _ h => h) (Or.inl ⟨by rfl, ?_⟩) ?_ ?_
    rotate_left
    · intro w'
      go_simp
      with_reducible rfl
    rotate_left
    · simp only [Act.put, List.setIfInBounds_toArray, List.set_cons_zero, List.set_cons_succ]
      rfl
    refine last_ (i := 16) (N := none) #[true, true, true, true, true, true, true, true, true, true, true, true, true, true, true, true, true, false] rfl rfl (by kernel_rfl) (by decide) (fun K hK => ?_)
    refine skip_ (w1 := ?_) (by rfl) rfl ?_ ?_
    rotate_left
    · go_simp
      rfl
    refine hK.out _ _ ?_
    clear hK K
    refine pure_ (i := 17) (N := some 5) (v := ?_) (a' := ?_) #[true, true, true, true, true, true, true, true, true, true, true, true, true, true, true, true, true, true] rfl rfl (by kernel_rfl) (fun _ _ _ h => h) (Or.inl ⟨by rfl, ?_⟩) ?_ ?_
    rotate_left
    · intro w'
      go_simp
      with_reducible rfl
    rotate_left
    · simp only [Act.put, List.setIfInBounds_toArray, List.set_cons_zero, List.set_cons_succ]
      rfl
    refine done_ (by kernel_rfl) ?_
    go_wp2_with (fail)
    have hE : pF = (x1, y1, z1) := HF2.out.trans HT.out
    rw [hE]
    exact bodyPost_ret (results_ct Tryd.results55 _ _ w.heap.size 69 #[.int .i64 x1, .int .i64 y1] (0, 0) _ rfl (blk_set (blk_set HZ4.out 0 (.int .i64 x1)) 1 (.int .i64 y1)) Tryd.underlying69 rfl HI.out) rfl ⟨rfl, (HB4.out.setCell (Nat.le_refl _) _).setCell (Nat.le_refl _) _⟩
  · have dz : (z != 0) = true := by simpa using hz
    have hE : pF = ((0 : Int), (0 : Int), z) := by rw [HF.out, if_neg hz]
    have h0 := HAe.out hz
    cases h0
    have y0 : (w1.alloc (.cells #[.int .i64 0, .int .i64 0] 69)).cell? ⟨w1.heap.size, 0, none⟩ = some (.int .i64 0) := blk_cell HG3.out 0
    have y1 : (w1.alloc (.cells #[.int .i64 0, .int .i64 0] 69)).cell? ⟨w1.heap.size, 1, none⟩ = some (.int .i64 0) := blk_cell HG3.out 1
    have z0 : (w1.alloc (.cells #[.int .i64 0, .int .i64 0] 69)).cell? ⟨w.heap.size, 0, none⟩ = some (.int .i64 0) := blk_cell HZ3.out 0
    have z2 : (w1.alloc (.cells #[.int .i64 0, .int .i64 0] 69)).cell? ⟨w.heap.size, 1, none⟩ = some (.int .i64 0) := blk_cell HZ3.out 1
    have g0 : (w1.alloc (.cells #[.int .i64 0, .int .i64 0] 69)).frozen? ⟨w.heap.size, 0, none⟩ = false := blk_frozen HZ3.out 0
    have g1 : (w1.alloc (.cells #[.int .i64 0, .int .i64 0] 69)).frozen? ⟨w.heap.size, 1, none⟩ = false := blk_frozen HZ3.out 1
    clear hz
    go_wp2_with (fail)
    rw [hE]
    exact bodyPost_ret (results_ct Tryd.results55 _ _ w.heap.size 69 #[.int .i64 0, .int .i64 0] (0, 0) _ rfl (blk_set (blk_set HZ3.out 0 (.int .i64 0)) 1 (.int .i64 0)) Tryd.underlying69 rfl HI.out) rfl ⟨rfl, (HB3.out.setCell (Nat.le_refl _) _).setCell (Nat.le_refl _) _⟩
end Go.Proofs.YtfameghednapkaaDoor.Ten
namespace Go.Proofs.YtfameghednapkaaDoor.Ten
open Go.RowKit Go.Proofs.YtfameghednapkaaDoorW.PrintWords Go.Proofs.YtfameghednapkaaDoorW.PrintLast Go.Proofs.YtfameghednapkaaDoorW.PrintMore Go.Proofs.YtfameghednapkaaDoor.K Go.Proofs.YtfameghednapkaaDoor.Fixed
set_option linter.unusedVariables false
set_option linter.unusedSimpArgs false
abbrev kP : Kd (Int × Int) := Kd.pair (Kd.int .i64) (Kd.int .i64)
theorem info_p2 : (Tryd.prog.info? 69).map (fun i => (i.zero, i.size, i.bytes)) = some (some (.agg #[.int .i64 0, .int .i64 0]), 2, 16) := by kernel_rfl
def errP (f : Nat → Int × Int × Int) : Nat → Nat → Int := errF (fun k => (0, (f k).2.2))
def outP (f : Nat → Int × Int × Int) (n : Nat) : List (Int × Int) := (List.range n).map fun k => ((f k).1, (f k).2.1)
theorem outP_length (f : Nat → Int × Int × Int) (n : Nat) : (outP f n).length = n := by simp [outP]
theorem outP_succ (f : Nat → Int × Int × Int) (n : Nat) : outP f (n + 1) = outP f n ++ [((f n).1, (f n).2.1)] := by simp [outP, List.range_succ]
def TellsP (fid : Nat) (fa lb : Array Value) (f : Nat → Int × Int × Int) (n : Nat) (w : World) : Prop := ∀ k, k < n → ∀ W, Below w.heap.size w W → Calls Tryd.prog fid (fa ++ #[.int .i64 (k : Int)] ++ lb) W fun e W' => e = .returned (.tuple #[.agg #[.int .i64 (f k).1, .int .i64 (f k).2.1], .int .i64 (f k).2.2]) ∧ Below W.heap.size W W'
def EachPEnd (f : Nat → Int × Int × Int) (n : Nat) (w : World) (e : Ending) (w' : World) : Prop :=
  (errP f n 0 ≠ 0 → e = .returned (.tuple #[.slice none 0 0, .int .i64 (errP f n 0)])) ∧ (errP f n 0 = 0 → ∃ v, e = .returned (.tuple #[v, .int .i64 0]) ∧ Kd.R kP 69 w' w.heap.size (fun _ => True) v (outP f n)) ∧ Below w.heap.size w w'
theorem R_lenP {W : World} {g : Nat} {v : Value} {xs : List (Int × Int)} (h : Kd.R kP 69 W g (fun _ => True) v xs) : ∃ A c, v = .slice A xs.length c := Kd.R_slice h
set_option maxHeartbeats 4000000 in
set_option maxRecDepth 100000 in
theorem eachP_calls (fid : Nat) (fa lb : Array Value) (f : Nat → Int × Int × Int) (n : Nat) (w : World) (hn : n ≤ 1000000) (eg : ∀ args w, (callFunc fid args).run Tryd.prog w = .ok (.enter fid args) w) (ht : TellsP fid fa lb f n w) :
    Calls Tryd.prog 54 #[.int .i64 (n : Int), .func (.func fid) fa lb] w (EachPEnd f n w) := by
  have HT := Aside0.mk ht
  have HN := Aside0.mk hn
  clear ht hn
  go_enter Tryd.func54, Tryd.ntmps54
  go_wp2_with (fail)
  go_step3
  go_wp2
  go_step3
  go_wp2_with (fail)
  have HSm : Aside0 (∀ k, k < n → errP f (n - k) k = if (f k).2.2 = 0 then errP f (n - (k + 1)) (k + 1) else (f k).2.2) := ⟨fun k hk => by
    rw [show n - k = (n - (k + 1)) + 1 by omega]
    rfl⟩
  go_loopw [6, 7, 12] (fun o z i wr => ∃ k : Nat, k ≤ n ∧ i = .int .i64 (k : Int) ∧ z = .int .i64 0 ∧ Aside0 (errP f n 0 = errP f (n - k) k ∧ Kd.R kP 69 wr w.heap.size (fun _ => True) o (outP f k) ∧ Below w.heap.size w wr)) (fun _ _ i _ => n - (intOf i).toNat)
  case atStart => exact ⟨0, Nat.zero_le _, rfl, rfl, ⟨rfl, Kd.R_nil _ _ _ _ _, Below.refl _ _⟩⟩
  case round =>
    obtain ⟨k, hk, rfl, rfl, HO⟩ := hrel
    by_cases hlt : k < n
    · have HE := Aside0.mk (HT.out k hlt wr HO.out.2.2)
      have HS := Aside0.mk (HSm.out k hlt)
      have HX := Aside0.mk (outP_succ f k)
      have HLen := Aside0.mk (outP_length f k)
      have HF : ∃ p, p = f k := ⟨_, rfl⟩
      obtain ⟨p, hp⟩ := HF
      rw [← hp] at HE HS HX
      clear hp
      obtain ⟨x, y, z⟩ := p
      obtain ⟨A3, c3, rfl⟩ := R_lenP HO.out.2.1
      generalize outP f k = es at *
      go_wp2_with (fail)
      refine HE.out.mono ?_
      rintro e w1 ⟨rfl, hb⟩
      have HB1 := Aside0.mk (below_step HO.out.2.2 (bel_alloc hb (.cells #[.int .i64 x, .int .i64 y] 69)))
      have HO1 : Aside0 (Kd.R kP 69 (w1.alloc (.cells #[.int .i64 x, .int .i64 y] 69)) w.heap.size (fun _ => True) (.slice A3 es.length c3) es) := ⟨Kd.R_below HO.out.2.1 (bel_alloc hb _)⟩
      have HG1 := Aside0.mk (heap_alloc_new w1 (.cells #[.int .i64 x, .int .i64 y] 69))
      have HSz := Aside0.mk (World.size_alloc w1 (.cells #[.int .i64 x, .int .i64 y] 69))
      clear hb
      have hwk : IntKind.i64.wrap ((k : Int) + 1) = (k : Int) + 1 := by have := HN.out; rw [IntKind.wrap_i64]; omega
      by_cases hz : z = 0
      · subst hz
        have HE2 : Aside0 (errP f n 0 = errP f (n - (k + 1)) (k + 1)) := ⟨by rw [HO.out.1, HS.out, if_pos rfl]⟩
        have HLn : Aside0 ((es.length + 1) * 16 ≤ 140737488355328) := ⟨by
          have := HLen.out
          have := HN.out
          omega⟩
        have y0 : (w1.alloc (.cells #[.int .i64 x, .int .i64 y] 69)).cell? ⟨w1.heap.size, 0, none⟩ = some (.int .i64 x) := blk_cell HG1.out 0
        have y1 : (w1.alloc (.cells #[.int .i64 x, .int .i64 y] 69)).cell? ⟨w1.heap.size, 1, none⟩ = some (.int .i64 y) := blk_cell HG1.out 1
        go_wp2_with (at_builtin; refine Kd.R_append kP (w0 := w) (W := w1.alloc (.cells #[.int .i64 x, .int .i64 y] 69)) w.heap.size rfl (.tmp 24) (.tmp 26) 66 69 (.agg #[.int .i64 0, .int .i64 0]) 16 rfl Tryd.underlying66 info_p2 rfl (by decide) (by decide) (.slice A3 es.length c3) es (x, y) [.int .i64 x, .int .i64 y] (fun _ => True) (fun _ => False) rfl (by rw [HSz.out]; rfl) ⟨[.int .i64 x], [.int .i64 y], rfl, rfl, rfl⟩ (fun _ h => h.elim) (fun _ _ => trivial) HO1.out HB1.out HB1.out.size HLn.out ?_; intro v1 w2 hown hbw hgr hat; have HA := Aside0.mk (And.intro hown hbw); clear hown hbw hgr hat)
        go_roundw
        case rel => exact ⟨k + 1, by omega, by go_num, rfl, ⟨HE2.out, by rw [HX.out]; exact HA.out.1, HA.out.2⟩⟩
        case measure => simp [intOf]; omega
      · have hzd : (z != 0) = true := by simpa using hz
        have HE2 : Aside0 (errP f n 0 = z) := ⟨by rw [HO.out.1, HS.out, if_neg hz]⟩
        have HZ := Aside0.mk hz
        clear hz
        go_wp2
        rw [Exit.noGoto_ret]
        go_ret2
        exact ⟨fun _ => by rw [HE2.out]; rfl, fun h => absurd (HE2.out.symm.trans h) HZ.out, HB1.out⟩
    · obtain rfl : k = n := by omega
      have HE2 : Aside0 (errP f k 0 = 0) := ⟨by rw [HO.out.1, Nat.sub_self]; rfl⟩
      go_wp2
      rw [Exit.noGoto_ret]
      go_ret2
      exact ⟨fun h => absurd HE2.out h, fun _ => ⟨_, rfl, HO.out.2.1⟩, HO.out.2.2⟩
end Go.Proofs.YtfameghednapkaaDoor.Ten
