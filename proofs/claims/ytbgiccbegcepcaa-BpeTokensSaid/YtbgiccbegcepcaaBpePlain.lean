/- bpe's laws: Plain. -/
import Derived.Test.YtbgiccbegcepcaaBpeRNew
namespace Go.Proofs.Ytbgiccbegcepcaa.Bpe
open Go.RowKit Go.Proofs.YtbgiccbegcepcaaW.PrintWords Go.Proofs.YtbgiccbegcepcaaW.PrintLast Go.Proofs.YtbgiccbegcepcaaW.PrintMore Go.Proofs.Ytbgiccbegcepcaa.K
set_option linter.unusedVariables false
set_option linter.unusedSimpArgs false
def PSt (w : World) (A : Option Addr) (c n : Nat) (A2 : Option Addr) (c2 n2 : Nat) (wr : World) : Prop :=
  wr.heap[w.heap.size]? = some (.cells #[.slice A n c, .slice A2 n2 c2] 25 (0, 0)) ∧ wr.heap[w.heap.size + 1]? = some (.cells #[.slice none 0 0, .slice none 0 0, .int .i64 0] 35 (0, 0)) ∧ Below w.heap.size w wr
set_option maxHeartbeats 8000000 in
set_option maxRecDepth 100000 in
theorem plain_calls (A : Option Addr) (c : Nat) (al : List Int) (A2 : Option Addr) (c2 : Nat) (prs : List Pr) (w : World) (hC : Kd.C (Kd.int .u8) w A al.length al) (hC2 : Kd.C kP w A2 prs.length prs) (hby : ∀ x ∈ al, 0 ≤ x ∧ x < 256) (hm : al.length ≤ 1000000) (hm2 : prs.length ≤ 1000000) :
    Calls Try.prog 12 #[.agg #[.slice A al.length c, .slice A2 prs.length c2]] w (RNewEnd w al prs) := by
  have HC := Aside0.mk hC
  have HC2 := Aside0.mk hC2
  have HBy := Aside0.mk hby
  have HP0 : Aside0 (PSt w A c al.length A2 c2 prs.length ((w.alloc (.cells #[.slice A al.length c, .slice A2 prs.length c2] 25)).alloc (.cells #[.slice none 0 0, .slice none 0 0, .int .i64 0] 35))) := ⟨by
    have ho := heap_alloc_new w (.cells #[.slice A al.length c, .slice A2 prs.length c2] 25)
    have hn := heap_alloc_new (w.alloc (.cells #[.slice A al.length c, .slice A2 prs.length c2] 25)) (.cells #[.slice none 0 0, .slice none 0 0, .int .i64 0] 35)
    rw [World.size_alloc] at hn
    exact ⟨((bel_alloc (Below.refl _ _) _).block _ (blk_lt ho)).trans ho, hn, bel_alloc (bel_alloc (Below.refl _ _) _) _⟩⟩
  clear hC hC2 hby
  go_enter Try.func12, Try.ntmps12
  go_wp2
  generalize (w.alloc (.cells #[.slice A al.length c, .slice A2 prs.length c2] 25)).alloc (.cells #[.slice none 0 0, .slice none 0 0, .int .i64 0] 35) = w0 at *
  obtain ⟨gr, hgr⟩ : ∃ gr, gr = w.heap.size + 1 := ⟨_, rfl⟩
  have HGr := Aside0.mk hgr
  rw [← hgr]
  clear hgr
  go_loopw [4, 5] (fun o i wr => ∃ k : Nat, k ≤ prs.length ∧ i = .int .i64 (k : Int) ∧ Aside0 (kP.R 50 wr w.heap.size (fun _ => True) o (prs.take k) ∧ PSt w A c al.length A2 c2 prs.length wr)) (fun _ i _ => prs.length - (intOf i).toNat)
  case atStart => exact ⟨0, Nat.zero_le _, rfl, ⟨⟨Kd.R_nil _ _ _ _ _, HP0.out⟩⟩⟩
  case round =>
    clear HP0
    obtain ⟨k, hk, rfl, HO⟩ := hrel
    obtain ⟨hR, hP⟩ := HO.out
    have HR := Aside0.mk hR
    have HP := Aside0.mk hP
    have hx0 : wr.cell? ⟨w.heap.size, 0, none⟩ = some (.slice A al.length c) := blk_cell hP.1 0
    have hx1 : wr.cell? ⟨w.heap.size, 1, none⟩ = some (.slice A2 prs.length c2) := blk_cell hP.1 1
    have HTl : Aside0 ((prs.take k).length = k) := ⟨by rw [List.length_take]; omega⟩
    obtain ⟨Ao, co, hvo⟩ := Kd.R_slice hR
    rw [HTl.out] at hvo
    subst hvo
    clear hR hP HO
    by_cases hlt : k < prs.length
    · obtain ⟨adp, rfl, hp1, hp2⟩ := pair_at (Kd.C_below HC2.out HP.out.2.2) k hlt
      have HTk : Aside0 (prs.take (k + 1) = prs.take k ++ [prs.getD k (0, 0)]) := ⟨by
        rw [List.take_succ_eq_append_getElem hlt, List.getD_eq_getElem?_getD, List.getElem?_eq_getElem hlt]; rfl⟩
      obtain ⟨p, hp⟩ : ∃ p, p = prs.getD k (0, 0) := ⟨_, rfl⟩
      rw [← hp] at hp1 hp2 HTk
      clear hp
      obtain ⟨x, y⟩ := p
      have hk0 : (0 : Int) ≤ (k : Int) := Int.natCast_nonneg _
      have hkI : (k : Int) < (prs.length : Int) := by omega
      have HLn : Aside0 (((prs.take k).length + 1) * 16 ≤ 140737488355328) := ⟨by have := HTl.out; omega⟩
      go_wp2_with (fail)
      have HR2 : Aside0 (kP.R 50 wr.drew w.heap.size (fun _ => True) (.slice Ao k co) (prs.take k)) := ⟨HR.out⟩
      have HP2 : Aside0 (PSt w A c al.length (some adp) c2 prs.length wr.drew) := ⟨⟨HP.out.1, HP.out.2.1, below_drew HP.out.2.2⟩⟩
      have k0 : wr.drew.cell? ⟨w.heap.size, 1, none⟩ = some (.slice (some adp) prs.length c2) := hx1
      have k1 : wr.drew.cell? (adp.add (k * 2)) = some (.int .i64 x) := hp1
      have k2 : wr.drew.cell? ⟨(adp.add (k * 2)).block, (adp.add (k * 2)).off + 1, none⟩ = some (.int .i64 y) := hp2
      refine start_ (n := 17) (S := fun w' => w'.cell? ⟨w.heap.size, 1, none⟩ = some (.slice (some adp) prs.length c2) ∧ w'.cell? (adp.add (k * 2)) = some (.int .i64 x) ∧ w'.cell? ⟨(adp.add (k * 2)).block, (adp.add (k * 2)).off + 1, none⟩ = some (.int .i64 y)) (ds := [15]) #[false, false, false, false, false, false, false, false, false, false, false, false, false, false, false, false, false] (by kernel_rfl) rfl rfl ⟨k0, k1, k2⟩ (fun hHeld => ?_)
      refine pure_ (i := 0) (N := some 13) (v := ?_) (a' := ?_) #[true, false, false, false, false, false, false, false, false, false, false, false, false, false, false, false, false] rfl rfl (by kernel_rfl) (fun _ _ _ h => h) (Or.inl ⟨by rfl, ?_⟩) ?_ ?_
      rotate_left
      · intro w'
        go_simp
        with_reducible rfl
      rotate_left
      · simp only [Act.put, List.setIfInBounds_toArray, List.set_cons_zero, List.set_cons_succ]
        rfl
      refine pure_ (i := 1) (N := some 14) (v := ?_) (a' := ?_) #[true, true, false, false, false, false, false, false, false, false, false, false, false, false, false, false, false] rfl rfl (by kernel_rfl) (fun _ _ _ h => h) (Or.inl ⟨by rfl, ?_⟩) ?_ ?_
      rotate_left
      · intro w'
        go_simp
        with_reducible rfl
      rotate_left
      · simp only [Act.put, List.setIfInBounds_toArray, List.set_cons_zero, List.set_cons_succ]
        rfl
      refine pure_ (i := 3) (N := some 16) (v := ?_) (a' := ?_) #[true, true, false, true, false, false, false, false, false, false, false, false, false, false, false, false, false] rfl rfl (by kernel_rfl) (fun _ _ _ h => h) (Or.inl ⟨by rfl, ?_⟩) ?_ ?_
      rotate_left
      · intro w'
        go_simp
        with_reducible rfl
      rotate_left
      · simp only [Act.put, List.setIfInBounds_toArray, List.set_cons_zero, List.set_cons_succ]
        rfl
      refine pure_ (i := 7) (N := some 20) (v := ?_) (a' := ?_) #[true, true, false, true, false, false, false, true, false, false, false, false, false, false, false, false, false] rfl rfl (by kernel_rfl) (fun _ _ _ h => h) (Or.inl ⟨by rfl, ?_⟩) ?_ ?_
      rotate_left
      · intro w'
        go_simp
        with_reducible rfl
      rotate_left
      · simp only [Act.put, List.setIfInBounds_toArray, List.set_cons_zero, List.set_cons_succ]
        rfl
      refine pure_ (i := 9) (N := some 22) (v := ?_) (a' := ?_) #[true, true, false, true, false, false, false, true, false, true, false, false, false, false, false, false, false] rfl rfl (by kernel_rfl) (fun _ _ _ h => h) (Or.inl ⟨by rfl, ?_⟩) ?_ ?_
      rotate_left
      · intro w'
        go_simp
        with_reducible rfl
      rotate_left
      · simp only [Act.put, List.setIfInBounds_toArray, List.set_cons_zero, List.set_cons_succ]
        rfl
      refine take_ (i := 2) (N := some 15) (v := ?_) (a' := ?_) #[true, true, true, true, false, false, false, true, false, true, false, false, false, false, false, false, false] rfl rfl (by kernel_rfl) (fun _ _ _ h => h) (Or.inl ⟨by rfl, ?_⟩) hHeld ?_ ?_
      rotate_left
      · rintro w' ⟨s0, s1, s2⟩
        go_simp
        with_reducible rfl
      rotate_left
      · simp only [Act.put, List.setIfInBounds_toArray, List.set_cons_zero, List.set_cons_succ]
        rfl
      refine pure_ (i := 4) (N := some 17) (v := ?_) (a' := ?_) #[true, true, true, true, true, false, false, true, false, true, false, false, false, false, false, false, false] rfl rfl (by kernel_rfl) (fun _ _ _ h => h) (Or.inl ⟨by rfl, ?_⟩) ?_ ?_
      rotate_left
      · intro w'
        go_simp
        with_reducible rfl
      rotate_left
      · simp only [Act.put, List.setIfInBounds_toArray, List.set_cons_zero, List.set_cons_succ]
        rfl
      refine pure_ (i := 5) (N := some 18) (v := ?_) (a' := ?_) #[true, true, true, true, true, true, false, true, false, true, false, false, false, false, false, false, false] rfl rfl (by kernel_rfl) (fun _ _ _ h => h) (Or.inl ⟨by rfl, ?_⟩) ?_ ?_
      rotate_left
      · intro w'
        go_simp
        with_reducible rfl
      rotate_left
      · simp only [Act.put, List.setIfInBounds_toArray, List.set_cons_zero, List.set_cons_succ]
        rfl
      refine take_ (i := 6) (N := some 19) (v := ?_) (a' := ?_) #[true, true, true, true, true, true, true, true, false, true, false, false, false, false, false, false, false] rfl rfl (by kernel_rfl) (fun _ _ _ h => h) (Or.inl ⟨by rfl, ?_⟩) hHeld ?_ ?_
      rotate_left
      · rintro w' ⟨s0, s1, s2⟩
        go_simp
        with_reducible rfl
      rotate_left
      · simp only [Act.put, List.setIfInBounds_toArray, List.set_cons_zero, List.set_cons_succ]
        rfl
      refine take_ (i := 8) (N := some 21) (v := ?_) (a' := ?_) #[true, true, true, true, true, true, true, true, true, true, false, false, false, false, false, false, false] rfl rfl (by kernel_rfl) (fun _ _ _ h => h) (Or.inl ⟨by rfl, ?_⟩) hHeld ?_ ?_
      rotate_left
      · rintro w' ⟨s0, s1, s2⟩
        go_simp
        with_reducible rfl
      rotate_left
      · simp only [Act.put, List.setIfInBounds_toArray, List.set_cons_zero, List.set_cons_succ]
        rfl
      refine pure_ (i := 10) (N := some 23) (v := ?_) (a' := ?_) #[true, true, true, true, true, true, true, true, true, true, true, false, false, false, false, false, false] rfl rfl (by kernel_rfl) (fun _ _ _ h => h) (Or.inl ⟨by rfl, ?_⟩) ?_ ?_
      rotate_left
      · intro w'
        go_simp
        with_reducible rfl
      rotate_left
      · simp only [Act.put, List.setIfInBounds_toArray, List.set_cons_zero, List.set_cons_succ]
        rfl
      refine pure_ (i := 11) (N := some 24) (v := ?_) (a' := ?_) #[true, true, true, true, true, true, true, true, true, true, true, true, false, false, false, false, false] rfl rfl (by kernel_rfl) (fun _ _ _ h => h) (Or.inl ⟨by rfl, ?_⟩) ?_ ?_
      rotate_left
      · intro w'
        go_simp
        with_reducible rfl
      rotate_left
      · simp only [Act.put, List.setIfInBounds_toArray, List.set_cons_zero, List.set_cons_succ]
        rfl
      refine take_ (i := 12) (N := some 25) (v := ?_) (a' := ?_) #[true, true, true, true, true, true, true, true, true, true, true, true, true, false, false, false, false] rfl rfl (by kernel_rfl) (fun _ _ _ h => h) (Or.inl ⟨by rfl, ?_⟩) hHeld ?_ ?_
      rotate_left
      · rintro w' ⟨s0, s1, s2⟩
        go_simp
        with_reducible rfl
      rotate_left
      · simp only [Act.put, List.setIfInBounds_toArray, List.set_cons_zero, List.set_cons_succ]
        rfl
      refine pure_ (i := 13) (N := some 26) (v := ?_) (a' := ?_) #[true, true, true, true, true, true, true, true, true, true, true, true, true, true, false, false, false] rfl rfl (by kernel_rfl) (fun _ _ _ h => h) (Or.inl ⟨by rfl, ?_⟩) ?_ ?_
      rotate_left
      · intro w'
        go_simp
        with_reducible rfl
      rotate_left
      · simp only [Act.put, List.setIfInBounds_toArray, List.set_cons_zero, List.set_cons_succ]
        rfl
      refine one_ (i := 14) (N := some 27) #[true, true, true, true, true, true, true, true, true, true, true, true, true, true, true, false, false] rfl rfl (by kernel_rfl) (by decide) (fun K hK => ?_)
      refine value_ (w1 := ?_) (v := ?_) (by rfl) rfl ?_ ?_
      rotate_left 2
      · go_simp
        constructor
        · rfl
        · rfl
      refine hK.out _ _ ⟨cell_keep (bel_alloc (Below.refl _ _) _) k0, cell_keep (bel_alloc (Below.refl _ _) _) k1, cell_keep (bel_alloc (Below.refl _ _) _) k2⟩ (fun hHeld => ?_)
      clear hK K
      refine norm_ (a' := ?_) ?_ ?_
      rotate_left
      · show Act.put _ (some 27) _ = _
        simp only [Act.put, List.setIfInBounds_toArray, List.set_cons_zero, List.set_cons_succ]
        rfl
      refine last_ (i := 15) (N := some 28) #[true, true, true, true, true, true, true, true, true, true, true, true, true, true, true, true, false] rfl rfl (by kernel_rfl) (by decide) (fun K hK => ?_)
      refine Kd.R_append_step kP (w0 := w) (W := wr.drew) w.heap.size (by rfl) (.tmp 13) (.tmp 27) 33 50 (.agg #[.int .i64 0, .int .i64 0]) 16 rfl Try.underlying33 info_p2 rfl (by decide) (by decide) (.slice Ao k co) (prs.take k) (x, y) [.int .i64 x, .int .i64 y] (fun _ => True) (fun _ => False) rfl rfl ⟨[.int .i64 x], [.int .i64 y], rfl, rfl, rfl⟩ (fun _ h => h.elim) (fun _ _ => trivial) HR2.out HP2.out.2.2 HP2.out.2.2.size HLn.out ?_
      intro v1 w2 ho hb hg hat
      have HA := Aside0.mk (And.intro ho hb)
      have HP3 : Aside0 (PSt w A c al.length (some adp) c2 prs.length w2) := ⟨⟨blk_grown HP2.out.1 hg (Kd.R_ne HR2.out HP2.out.1 (by decide)), blk_grown HP2.out.2.1 hg (Kd.R_ne HR2.out HP2.out.2.1 (by decide)), hb⟩⟩
      clear ho hb hg hat
      refine hK.out _ _ ?_
      clear hK K
      refine norm_ (a' := ?_) ?_ ?_
      rotate_left
      · show Act.put _ (some 28) _ = _
        simp only [Act.put, List.setIfInBounds_toArray, List.set_cons_zero, List.set_cons_succ]
        rfl
      refine pure_ (i := 16) (N := some 4) (v := ?_) (a' := ?_) #[true, true, true, true, true, true, true, true, true, true, true, true, true, true, true, true, true] rfl rfl (by kernel_rfl) (fun _ _ _ h => h) (Or.inl ⟨by rfl, ?_⟩) ?_ ?_
      rotate_left
      · intro w'
        go_simp
        with_reducible rfl
      rotate_left
      · simp only [Act.put, List.setIfInBounds_toArray, List.set_cons_zero, List.set_cons_succ]
        rfl
      refine done_ (by kernel_rfl) ?_
      clear hHeld
      go_wp2
      go_roundw
      case rel => exact ⟨k + 1, by omega, by go_num, ⟨⟨by rw [HTk.out]; exact HA.out.1, HP3.out⟩⟩⟩
      case measure => simp [intOf]; omega
    · obtain rfl : k = prs.length := by omega
      have HTa : Aside0 (prs.take prs.length = prs) := ⟨List.take_of_length_le (Nat.le_refl _)⟩
      rw [HTa.out] at HR
      have HRn := Aside0.mk (rnew_calls A c al Ao co prs wr (Kd.C_below HC.out HP.out.2.2) (Kd.R_reads' HR.out).2.2 HBy.out hm hm2)
      go_wp2_with (fail)
      refine HRn.out.mono ?_
      rintro e w2 ⟨hb2, hbad, hok⟩
      have hgr2 : w2.heap[gr]? = some (.cells #[.slice none 0 0, .slice none 0 0, .int .i64 0] 35 (0, 0)) := by
        rw [HGr.out]; exact (hb2.block _ (blk_lt HP.out.2.1)).trans HP.out.2.1
      have HGr2 := Aside0.mk hgr2
      have q1 : w2.frozen? ⟨gr, 0, none⟩ = false := blk_frozen hgr2 0
      have q2 : w2.frozen? ⟨gr, 1, none⟩ = false := blk_frozen hgr2 1
      have q3 : w2.frozen? ⟨gr, 2, none⟩ = false := blk_frozen hgr2 2
      have q4 : w2.cell? ⟨gr, 0, none⟩ = some (.slice none 0 0) := blk_cell hgr2 0
      have q5 : w2.cell? ⟨gr, 1, none⟩ = some (.slice none 0 0) := blk_cell hgr2 1
      have q6 : w2.cell? ⟨gr, 2, none⟩ = some (.int .i64 0) := blk_cell hgr2 2
      have HB2 := Aside0.mk (below_step HP.out.2.2 hb2)
      have HGe : Aside0 (w.heap.size ≤ gr) := ⟨by rw [HGr.out]; omega⟩
      by_cases hE : newE al prs = 0
      · have HE := Aside0.mk hE
        obtain ⟨vt, vp, rfl, hRt, hRp⟩ := hok hE
        have hRt' := Kd.R_lower hRt HP.out.2.2.size
        have hRp' := Kd.R_lower hRp HP.out.2.2.size
        obtain ⟨At, ct, rfl⟩ := Kd.R_slice hRt'
        obtain ⟨Ap, cp, rfl⟩ := Kd.R_slice hRp'
        have HF : Aside0 (kS.R 9 (((w2.setCell ⟨gr, 0, none⟩ (.slice At (newT al prs).length ct)).setCell ⟨gr, 1, none⟩ (.slice Ap prs.length cp)).setCell ⟨gr, 2, none⟩ (.int .i64 (al.length : Int))) w.heap.size (fun _ => True) (.slice At (newT al prs).length ct) (newT al prs) ∧
            kP.R 50 (((w2.setCell ⟨gr, 0, none⟩ (.slice At (newT al prs).length ct)).setCell ⟨gr, 1, none⟩ (.slice Ap prs.length cp)).setCell ⟨gr, 2, none⟩ (.int .i64 (al.length : Int))) w.heap.size (fun _ => True) (.slice Ap prs.length cp) prs) := ⟨by
          have tS : ∀ q, q ∈ 9 :: kS.E → q ≠ 35 := fun q hq => by rw [typ_S q hq]; decide
          have tQ : ∀ q, q ∈ 50 :: kP.E → q ≠ 35 := fun q hq => by rw [typ_Q q hq]; decide
          have b1 := blk_set hgr2 0 (.slice At (newT al prs).length ct)
          have b2 := blk_set b1 1 (.slice Ap prs.length cp)
          exact ⟨Kd.R_set (Kd.R_set (Kd.R_set hRt' hgr2 tS 0 _) b1 tS 1 _) b2 tS 2 _, Kd.R_set (Kd.R_set (Kd.R_set hRp' hgr2 tQ 0 _) b1 tQ 1 _) b2 tQ 2 _⟩⟩
        clear hb2 hbad hok hRt hRp hRt' hRp' hgr2 hE hx0 hx1
        go_wp2
        exact bodyPost_ret (results_ct Try.results12 _ _ gr 35 #[.slice At (newT al prs).length ct, .slice Ap prs.length cp, .int .i64 (al.length : Int)] (0, 0) _ rfl (blk_set (blk_set (blk_set HGr2.out 0 _) 1 _) 2 _) Try.underlying35 rfl info_rc) rfl ⟨((HB2.out.setCell HGe.out _).setCell HGe.out _).setCell HGe.out _, fun h => absurd HE.out h, fun _ => ⟨_, _, rfl, HF.out.1, HF.out.2⟩⟩
      · have HE := Aside0.mk hE
        have he := hbad hE
        subst he
        clear hb2 hbad hok hgr2 hE hx0 hx1
        have HEz : ∃ z, z = newE al prs := ⟨_, rfl⟩
        obtain ⟨z, hz⟩ := HEz
        have HZ := Aside0.mk hz
        rw [← hz]
        clear hz
        go_wp2
        exact bodyPost_ret (results_ct Try.results12 _ _ gr 35 #[.slice none 0 0, .slice none 0 0, .int .i64 0] (0, 0) _ rfl (blk_set (blk_set (blk_set HGr2.out 0 _) 1 _) 2 _) Try.underlying35 rfl info_rc) rfl (rnew_bad z (by rw [HZ.out]; exact HE.out) HZ.out.symm (((HB2.out.setCell HGe.out _).setCell HGe.out _).setCell HGe.out _))
end Go.Proofs.Ytbgiccbegcepcaa.Bpe

