/- bpe: Encode. -/
import Derived.Test.YtbgiccbegcepcaaBpeMerge
import Derived.Test.YtbgiccbegcepcaaBpeNewP
import Derived.Test.YtbgiccbegcepcaaBpeCl
import Derived.StillTailTactics
namespace Go.Proofs.Ytbgiccbegcepcaa.Bpe
open Go.RowKit Go.Proofs.YtbgiccbegcepcaaW.PrintWords Go.Proofs.YtbgiccbegcepcaaW.PrintLast Go.Proofs.YtbgiccbegcepcaaW.PrintMore Go.Proofs.Ytbgiccbegcepcaa.K Go.Proofs.Ytbgiccbegcepcaa.Cat
set_option linter.unusedVariables false
set_option linter.unusedSimpArgs false
def toksL (al bs : List Int) : List Int := bs.map (tokOf al)
/-- The place of the first byte that has no token. -/
def badAt (al bs : List Int) : Option Nat := bs.findIdx? (fun x => decide (tokOf al x = -1))
theorem toksL_step (al bs : List Int) (k : Nat) (h : k < bs.length) : toksL al (bs.take (k + 1)) = toksL al (bs.take k) ++ [tokOf al (bs.getD k 0)] := by
  rw [List.take_succ_eq_append_getElem h, List.getD_eq_getElem?_getD, List.getElem?_eq_getElem h]
  unfold toksL
  rw [List.map_append]
  rfl
theorem badAt_here (al bs : List Int) (k : Nat) (h : k < bs.length) (h1 : badAt al (bs.take k) = none) (h2 : tokOf al (bs.getD k 0) = -1) : badAt al bs = some k := by
  unfold badAt at *
  rw [List.findIdx?_eq_some_iff_getElem]
  refine ⟨h, ?_, fun j hj => ?_⟩
  · rw [List.getD_eq_getElem?_getD, List.getElem?_eq_getElem h] at h2
    simpa using h2
  · rw [List.findIdx?_eq_none_iff] at h1
    have hj' : j < (bs.take k).length := by rw [List.length_take]; omega
    have := h1 ((bs.take k)[j]) (List.getElem_mem hj')
    simpa using this
theorem badAt_step (al bs : List Int) (k : Nat) (h : k < bs.length) (h1 : badAt al (bs.take k) = none) (h2 : tokOf al (bs.getD k 0) ≠ -1) : badAt al (bs.take (k + 1)) = none := by
  unfold badAt at *
  rw [List.findIdx?_eq_none_iff] at h1 ⊢
  intro x hx
  rw [List.take_succ_eq_append_getElem h] at hx
  rcases List.mem_append.1 hx with hx | hx
  · exact h1 x hx
  · rw [List.mem_singleton.1 hx]
    rw [List.getD_eq_getElem?_getD, List.getElem?_eq_getElem h] at h2
    simpa using h2
theorem tokOf_range (al : List Int) (x : Int) (h : tokOf al x ≠ -1) : 0 ≤ tokOf al x ∧ tokOf al x < al.length := by
  unfold tokOf at h ⊢
  cases hh : al.findIdx? (fun y => decide (y = x)) with
  | none => rw [hh] at h; exact absurd rfl h
  | some i => have := (List.findIdx?_eq_some_iff_getElem.1 hh).1; constructor <;> simp only <;> omega
def EncEnd (w : World) (al : List Int) (n : Int) (ps : List Pr) (bs : List Int) (e : Ending) (w' : World) : Prop :=
  Below w.heap.size w w' ∧ (4096 < bs.length → e = .returned (.tuple #[.slice none 0 0, .int .i64 0, .int .i64 20])) ∧
  (¬ 4096 < bs.length → ∀ i, badAt al bs = some i → e = .returned (.tuple #[.slice none 0 0, .int .i64 (i : Int), .int .i64 14])) ∧
  (¬ 4096 < bs.length → badAt al bs = none → ∃ v, e = .returned (.tuple #[v, .int .i64 0, .int .i64 0]) ∧ Kd.R (Kd.int .i64) 3 w' w.heap.size (fun _ => True) v (encL n ps (toksL al bs)))
/-- A row of numbers in a block of its own. -/
def RowAt (W : World) (B gr : Nat) (v : Value) (l : List Int) : Prop := W.heap[gr]? = some (.cells #[v] 65 (0, 0)) ∧ Kd.R (Kd.int .i64) 3 W B (fun _ => True) v l
theorem RowAt.ne {W : World} {B gr : Nat} {v : Value} {l : List Int} (h : RowAt W B gr v l) : some gr ≠ v.ownBlock := Kd.R_ne h.2 h.1 (by decide)
theorem RowAt.put {W : World} {B gr : Nat} {u v : Value} {l : List Int} (h : W.heap[gr]? = some (.cells #[u] 65 (0, 0))) (hr : Kd.R (Kd.int .i64) 3 W B (fun _ => True) v l) : RowAt (W.setCell ⟨gr, 0, none⟩ v) B gr v l :=
  ⟨blk_set h 0 v, Kd.R_set hr h (by intro q hq; have : q = 3 := by simpa [Kd.int, Kd.scalar] using hq
                                    subst this; decide) 0 v⟩
theorem toksL_range (al bs : List Int) (h : badAt al bs = none) (ha : al.length ≤ 1000000) : toks (toksL al bs) := by
  intro x hx
  simp only [toksL, List.mem_map] at hx
  obtain ⟨y, hy, rfl⟩ := hx
  unfold badAt at h
  rw [List.findIdx?_eq_none_iff] at h
  have h1 := h y hy
  simp only [decide_eq_false_iff_not] at h1
  have h2 := tokOf_range al y h1
  omega
theorem toks_merge {l : List Int} {p : Pr} {u : Int} (h : toks l) (hu : 0 ≤ u ∧ u ≤ 1000000) : toks (mergeL p u l) := by
  have : ∀ l : List Int, toks l → toks (mergeL p u l) := by
    intro l
    induction l using mergeL.induct p with
    | case1 a b l hc ih =>
      intro h
      unfold mergeL
      rw [if_pos hc]
      intro x hx
      rcases List.mem_cons.1 hx with rfl | hx
      · exact hu
      · exact ih (fun z hz => h z (List.mem_cons_of_mem _ (List.mem_cons_of_mem _ hz))) x hx
    | case2 a b l hc ih =>
      intro h
      unfold mergeL
      rw [if_neg hc]
      intro x hx
      rcases List.mem_cons.1 hx with rfl | hx
      · exact h _ List.mem_cons_self
      · exact ih (fun z hz => h z (List.mem_cons_of_mem _ hz)) x hx
    | case3 l hl => intro h; unfold mergeL; split <;> first | exact h | (exfalso; exact hl _ _ _ rfl)
  exact this l h
def EncLoop (w : World) (al : List Int) (n : Int) (ps : List Pr) (bs : List Int) (gr : Nat) (gk : Nat) (tv : Value) (wr : World) : Prop :=
  ∃ v l, RowAt wr w.heap.size gr v l ∧ encL n ps (toksL al bs) = encL n ps l ∧ toks l ∧ (l.length ≤ gk ∧ l.length ≤ 4096) ∧ tv = .int .i64 (tokV n (firstP ps l)) ∧ Below w.heap.size w wr
section
variable {w : World} {B g b : Nat} {vt vo : Value} {T : List (List Int)} {al : List Int} {n : Int} {ps : List Pr}
set_option maxHeartbeats 1000000 in
theorem enc_nil (A : Option Addr) (m c : Nat) (w : World) :
    Calls Try.prog 13 #[.pointer none, .slice A m c] w fun e w' => e = .returned (.tuple #[.slice none 0 0, .int .i64 0, .int .i64 2]) ∧ w = w' := by
  go_enter Try.func13, Try.ntmps13
  go_wp2
  go_ret3
  exact ⟨rfl, rfl⟩
set_option maxHeartbeats 1000000 in
theorem enc_long (A : Option Addr) (c : Nat) (bs : List Int) (g : Nat) (w : World) (hm : bs.length ≤ 1000000) (h : 4096 < bs.length) :
    Calls Try.prog 13 #[.pointer (some ⟨g, 0, none⟩), .slice A bs.length c] w (EncEnd w al n ps bs) := by
  have hd : decide (4096 < (bs.length : Int)) = true := by simp; omega
  have HL := Aside0.mk h
  clear h
  go_enter Try.func13, Try.ntmps13
  go_wp2
  go_ret3
  exact ⟨Below.refl _ _, fun _ => rfl, fun h => absurd HL.out h, fun h => absurd HL.out h⟩
set_option maxHeartbeats 8000000 in
set_option maxRecDepth 100000 in
theorem enc_rest (A : Option Addr) (c : Nat) (bs : List Int) (hC : Kd.C (Kd.int .u8) w A bs.length bs) (hby : ∀ x ∈ bs, 0 ≤ x ∧ x < 256) (h : CodAt w B g vt vo b T (ofL al) n ps ps) (hn : n = al.length) (hps : n + ps.length ≤ 100000) (hl : ¬ 4096 < bs.length) :
    Calls Try.prog 13 #[.pointer (some ⟨g, 0, none⟩), .slice A bs.length c] w (EncEnd w al n ps bs) := by
  have hd : decide (4096 < (bs.length : Int)) = false := by simp; omega
  have hm : bs.length ≤ 4096 := by omega
  have HL := Aside0.mk hl
  have HC := Aside0.mk hC
  have HBy := Aside0.mk hby
  have HH := Aside0.mk h
  have HN := Aside0.mk hn
  have HPs := Aside0.mk hps
  clear hl hC hby h hn hps
  go_enter Try.func13, Try.ntmps13
  go_wp2_with (fail)
  have HR0 : Aside0 (RowAt (w.alloc (.cells #[.slice none 0 0] 65)) w.heap.size w.heap.size (.slice none 0 0) []) := ⟨heap_alloc_new _ _, Kd.R_nil _ _ _ _ _⟩
  have HB0 : Aside0 (Below w.heap.size w (w.alloc (.cells #[.slice none 0 0] 65))) := ⟨bel_alloc (Below.refl _ _) _⟩
  generalize w.alloc (.cells #[.slice none 0 0] 65) = W0 at *
  obtain ⟨gr, hgr⟩ : ∃ gr, gr = w.heap.size := ⟨_, rfl⟩
  have HGr := Aside0.mk hgr
  have HR0 : Aside0 (RowAt W0 w.heap.size gr (.slice none 0 0) []) := ⟨by rw [hgr]; exact HR0.out⟩
  rw [← hgr]
  clear hgr
  go_loopw [23] (fun i wr => ∃ k : Nat, k ≤ bs.length ∧ i = .int .i64 (k : Int) ∧ Aside0 (∃ v, RowAt wr w.heap.size gr v (toksL al (bs.take k)) ∧ badAt al (bs.take k) = none ∧ Below w.heap.size w wr)) (fun i _ => bs.length - (intOf i).toNat)
  case atStart => exact ⟨0, Nat.zero_le _, rfl, ⟨⟨_, HR0.out, rfl, HB0.out⟩⟩⟩
  case round =>
    clear HR0 HB0
    obtain ⟨k, hk, rfl, HO⟩ := hrel
    obtain ⟨v, hr, hbad, hb⟩ := HO.out
    clear HO
    have HR := Aside0.mk hr
    have HBad := Aside0.mk hbad
    have HB := Aside0.mk hb
    clear hr hbad hb
    by_cases hlt : k < bs.length
    · obtain ⟨ad, rfl, hcell⟩ := int_at' HC.out HB.out k hlt
      have HX : Aside0 (bs.getD k 0 ∈ bs) := ⟨by
        rw [List.getD_eq_getElem?_getD, List.getElem?_eq_getElem hlt]; exact List.getElem_mem hlt⟩
      obtain ⟨m, hm2⟩ : ∃ m : Nat, bs.getD k 0 = (m : Int) := ⟨(bs.getD k 0).toNat, by have := HBy.out _ HX.out; omega⟩
      have hmb : m < 256 := by have := HBy.out _ HX.out; omega
      have HT := Aside0.mk (toksL_step al bs k hlt)
      have HBh := Aside0.mk (badAt_here al bs k hlt HBad.out)
      have HBs := Aside0.mk (badAt_step al bs k hlt HBad.out)
      rw [hm2] at hcell HT HBh HBs
      have HHr := Aside0.mk (HH.out.below HB.out)
      have hof := cdof HHr.out m hmb
      rw [ofL_get _ _ hmb] at hof
      clear hm2 HX
      generalize tokOf al (m : Int) = tk at *
      by_cases htk : tk = -1
      · have HE := Aside0.mk (HBh.out htk)
        subst htk
        go_wp2
        go_ret3
        exact ⟨HB.out, fun h => absurd h HL.out, fun _ i hi => by rw [HE.out] at hi; cases hi; rfl, fun _ hi => by rw [HE.out] at hi; cases hi⟩
      · have htd : (tk == -1) = false := by simpa using htk
        have HE := Aside0.mk (HBs.out htk)
        have hcr : wr.cell? ⟨gr, 0, none⟩ = some v := blk_cell HR.out.1 0
        obtain ⟨A3, c3, rfl⟩ := Kd.R_slice HR.out.2
        have HLn : Aside0 ((toksL al (bs.take k)).length = k) := ⟨by simp [toksL]; omega⟩
        clear htk
        have HLm : Aside0 (((toksL al (bs.take k)).length + 1) * 8 ≤ 140737488355328) := ⟨by have := HLn.out; omega⟩
        generalize toksL al (bs.take k) = es at *
        go_wp2_with (fail)
        have hmI : (m : Int) < 256 := by omega
        have hm0 : (0 : Int) ≤ (m : Int) := Int.natCast_nonneg _
        have hcr2 : wr.drew.cell? ⟨gr, 0, none⟩ = some (.slice A3 es.length c3) := hcr
        have hof2 : wr.drew.cell? ⟨g, 1 + m, none⟩ = some (.int .i64 tk) := hof
        have HR2 : Aside0 (RowAt wr.drew w.heap.size gr (.slice A3 es.length c3) es) := ⟨HR.out⟩
        have HB2 : Aside0 (Below w.heap.size w wr.drew) := ⟨below_drew HB.out⟩
        refine start_ (n := 16) (S := fun w' => w'.cell? ⟨gr, 0, none⟩ = some (.slice A3 es.length c3) ∧ w'.cell? ⟨g, 1 + m, none⟩ = some (.int .i64 tk)) (ds := [12, 15]) #[false, false, false, false, false, false, false, false, false, false, false, false, false, false, false, false] (by kernel_rfl) rfl rfl ⟨hcr2, hof2⟩ (fun hHeld => ?_)
        refine pure_ (i := 0) (N := some 36) (v := ?_) (a' := ?_) #[true, false, false, false, false, false, false, false, false, false, false, false, false, false, false, false] rfl rfl (by kernel_rfl) (fun _ _ _ h => h) (Or.inl ⟨by rfl, ?_⟩) ?_ ?_
        rotate_left
        · intro w'
          go_simp
          with_reducible rfl
        rotate_left
        · simp only [Act.put, List.setIfInBounds_toArray, List.set_cons_zero, List.set_cons_succ]
          rfl
        refine pure_ (i := 1) (N := some 37) (v := ?_) (a' := ?_) #[true, true, false, false, false, false, false, false, false, false, false, false, false, false, false, false] rfl rfl (by kernel_rfl) (fun _ _ _ h => h) (Or.inl ⟨by rfl, ?_⟩) ?_ ?_
        rotate_left
        · intro w'
          go_simp
          with_reducible rfl
        rotate_left
        · simp only [Act.put, List.setIfInBounds_toArray, List.set_cons_zero, List.set_cons_succ]
          rfl
        refine pure_ (i := 2) (N := some 38) (v := ?_) (a' := ?_) #[true, true, true, false, false, false, false, false, false, false, false, false, false, false, false, false] rfl rfl (by kernel_rfl) (fun _ _ _ h => h) (Or.inl ⟨by rfl, ?_⟩) ?_ ?_
        rotate_left
        · intro w'
          go_simp
          with_reducible rfl
        rotate_left
        · simp only [Act.put, List.setIfInBounds_toArray, List.set_cons_zero, List.set_cons_succ]
          rfl
        refine pure_ (i := 3) (N := some 39) (v := ?_) (a' := ?_) #[true, true, true, true, false, false, false, false, false, false, false, false, false, false, false, false] rfl rfl (by kernel_rfl) (fun _ _ _ h => h) (Or.inl ⟨by rfl, ?_⟩) ?_ ?_
        rotate_left
        · intro w'
          go_simp
          with_reducible rfl
        rotate_left
        · simp only [Act.put, List.setIfInBounds_toArray, List.set_cons_zero, List.set_cons_succ]
          rfl
        refine pure_ (i := 5) (N := some 41) (v := ?_) (a' := ?_) #[true, true, true, true, false, true, false, false, false, false, false, false, false, false, false, false] rfl rfl (by kernel_rfl) (fun _ _ _ h => h) (Or.inl ⟨by rfl, ?_⟩) ?_ ?_
        rotate_left
        · intro w'
          go_simp
          with_reducible rfl
        rotate_left
        · simp only [Act.put, List.setIfInBounds_toArray, List.set_cons_zero, List.set_cons_succ]
          rfl
        refine pure_ (i := 6) (N := some 42) (v := ?_) (a' := ?_) #[true, true, true, true, false, true, true, false, false, false, false, false, false, false, false, false] rfl rfl (by kernel_rfl) (fun _ _ _ h => h) (Or.inl ⟨by rfl, ?_⟩) ?_ ?_
        rotate_left
        · intro w'
          go_simp
          with_reducible rfl
        rotate_left
        · simp only [Act.put, List.setIfInBounds_toArray, List.set_cons_zero, List.set_cons_succ]
          rfl
        refine pure_ (i := 7) (N := some 43) (v := ?_) (a' := ?_) #[true, true, true, true, false, true, true, true, false, false, false, false, false, false, false, false] rfl rfl (by kernel_rfl) (fun _ _ _ h => h) (Or.inl ⟨by rfl, ?_⟩) ?_ ?_
        rotate_left
        · intro w'
          go_simp
          with_reducible rfl
        rotate_left
        · simp only [Act.put, List.setIfInBounds_toArray, List.set_cons_zero, List.set_cons_succ]
          rfl
        refine pure_ (i := 8) (N := some 44) (v := ?_) (a' := ?_) #[true, true, true, true, false, true, true, true, true, false, false, false, false, false, false, false] rfl rfl (by kernel_rfl) (fun _ _ _ h => h) (Or.inl ⟨by rfl, ?_⟩) ?_ ?_
        rotate_left
        · intro w'
          go_simp
          with_reducible rfl
        rotate_left
        · simp only [Act.put, List.setIfInBounds_toArray, List.set_cons_zero, List.set_cons_succ]
          rfl
        refine pure_ (i := 9) (N := some 45) (v := ?_) (a' := ?_) #[true, true, true, true, false, true, true, true, true, true, false, false, false, false, false, false] rfl rfl (by kernel_rfl) (fun _ _ _ h => h) (Or.inl ⟨by rfl, ?_⟩) ?_ ?_
        rotate_left
        · intro w'
          go_simp
          with_reducible rfl
        rotate_left
        · simp only [Act.put, List.setIfInBounds_toArray, List.set_cons_zero, List.set_cons_succ]
          rfl
        refine take_ (i := 4) (N := some 40) (v := ?_) (a' := ?_) #[true, true, true, true, true, true, true, true, true, true, false, false, false, false, false, false] rfl rfl (by kernel_rfl) (fun _ _ _ h => h) (Or.inl ⟨by rfl, ?_⟩) hHeld ?_ ?_
        rotate_left
        · rintro w' ⟨s0, s1⟩
          go_simp
          with_reducible rfl
        rotate_left
        · simp only [Act.put, List.setIfInBounds_toArray, List.set_cons_zero, List.set_cons_succ]
          rfl
        refine take_ (i := 10) (N := some 46) (v := ?_) (a' := ?_) #[true, true, true, true, true, true, true, true, true, true, true, false, false, false, false, false] rfl rfl (by kernel_rfl) (fun _ _ _ h => h) (Or.inl ⟨by rfl, ?_⟩) hHeld ?_ ?_
        rotate_left
        · rintro w' ⟨s0, s1⟩
          go_simp
          with_reducible rfl
        rotate_left
        · simp only [Act.put, List.setIfInBounds_toArray, List.set_cons_zero, List.set_cons_succ]
          rfl
        refine one_ (i := 11) (N := some 47) #[true, true, true, true, true, true, true, true, true, true, true, true, false, false, false, false] rfl rfl (by kernel_rfl) (by decide) (fun K hK => ?_)
        refine value_ (w1 := ?_) (v := ?_) (by rfl) rfl ?_ ?_
        rotate_left 2
        · go_simp
          constructor
          · rfl
          · rfl
        refine hK.out _ _ ⟨cell_keep (bel_alloc (Below.refl _ _) _) hcr2, cell_keep (bel_alloc (Below.refl _ _) _) hof2⟩ (fun hHeld => ?_)
        clear hK K
        refine norm_ (a' := ?_) ?_ ?_
        rotate_left
        · show Act.put _ (some 47) _ = _
          simp only [Act.put, List.setIfInBounds_toArray, List.set_cons_zero, List.set_cons_succ]
          rfl
        refine last_ (i := 12) (N := some 48) #[true, true, true, true, true, true, true, true, true, true, true, true, true, false, false, false] rfl rfl (by kernel_rfl) (by decide) (fun K hK => ?_)
        refine Kd.R_append_step (Kd.int .i64) (w0 := w) (W := wr.drew) w.heap.size (by rfl) (.tmp 40) (.tmp 47) 38 3 (.int .i64 0) 8 rfl Try.underlying38 info_int rfl (by decide) (by decide) (.slice A3 es.length c3) es tk [.int .i64 tk] (fun _ => True) (fun _ => False) rfl rfl rfl (fun _ h => h.elim) (fun _ _ => trivial) HR2.out.2 HB2.out HB2.out.size HLm.out ?_
        intro v1 w2 ho hb hg hat
        obtain ⟨A1, c1, rfl⟩ := Kd.R_slice ho
        have HA := Aside0.mk (And.intro ho hb)
        have HR3 := Aside0.mk (blk_grown HR2.out.1 hg HR2.out.ne)
        have h0 : w2.cell? ⟨gr, 0, none⟩ = some (.slice A3 es.length c3) := blk_cell HR3.out 0
        have f0 : w2.frozen? ⟨gr, 0, none⟩ = false := blk_frozen HR3.out 0
        clear ho hb hg hat
        refine hK.out _ _ ?_
        clear hK K
        refine norm_ (a' := ?_) ?_ ?_
        rotate_left
        · show Act.put _ (some 48) _ = _
          simp only [Act.put, List.setIfInBounds_toArray, List.set_cons_zero, List.set_cons_succ]
          rfl
        refine pure_ (i := 13) (N := some 49) (v := ?_) (a' := ?_) #[true, true, true, true, true, true, true, true, true, true, true, true, true, true, false, false] rfl rfl (by kernel_rfl) (fun _ _ _ h => h) (Or.inl ⟨by rfl, ?_⟩) ?_ ?_
        rotate_left
        · intro w'
          go_simp
          with_reducible rfl
        rotate_left
        · simp only [Act.put, List.setIfInBounds_toArray, List.set_cons_zero, List.set_cons_succ]
          rfl
        refine pure_ (i := 14) (N := some 50) (v := ?_) (a' := ?_) #[true, true, true, true, true, true, true, true, true, true, true, true, true, true, true, false] rfl rfl (by kernel_rfl) (fun _ _ _ h => h) (Or.inl ⟨by rfl, ?_⟩) ?_ ?_
        rotate_left
        · intro w'
          go_simp
          with_reducible rfl
        rotate_left
        · simp only [Act.put, List.setIfInBounds_toArray, List.set_cons_zero, List.set_cons_succ]
          rfl
        refine last_ (i := 15) (N := none) #[true, true, true, true, true, true, true, true, true, true, true, true, true, true, true, true] rfl rfl (by kernel_rfl) (by decide) (fun K hK => ?_)
        refine skip_ (w1 := ?_) (by rfl) rfl ?_ ?_
        rotate_left
        · go_simp
          rfl
        refine hK.out _ _ ?_
        clear hK K
        refine done_ (by kernel_rfl) ?_
        clear hHeld
        have HP : Aside0 (RowAt (w2.setCell ⟨gr, 0, none⟩ (.slice A1 (es.length + 1) c1)) w.heap.size gr (.slice A1 (es.length + 1) c1) (es ++ [tk])) := ⟨by
          have h := RowAt.put HR3.out HA.out.1
          rwa [List.length_append, List.length_singleton] at h⟩
        have HB3 : Aside0 (Below w.heap.size w (w2.setCell ⟨gr, 0, none⟩ (.slice A1 (es.length + 1) c1))) := ⟨HA.out.2.setCell (by show w.heap.size ≤ gr; have := HGr.out; omega) _⟩
        go_wp2
        go_roundw
        case rel => exact ⟨k + 1, by omega, by go_num, ⟨⟨_, by rw [HT.out]; exact HP.out, HE.out, HB3.out⟩⟩⟩
        case measure => simp [intOf]; omega
    · obtain rfl : k = bs.length := by omega
      have HTa : Aside0 (bs.take bs.length = bs) := ⟨List.take_of_length_le (Nat.le_refl _)⟩
      rw [HTa.out] at HR HBad
      have HTk := Aside0.mk (toksL_range al bs HBad.out (by have := HPs.out; have := HN.out; omega))
      have HLn : Aside0 ((toksL al bs).length = bs.length) := ⟨by simp [toksL]⟩
      have HFin : Aside0 (encL n ps (toksL al bs) = encL n ps (toksL al bs)) := ⟨rfl⟩
      obtain ⟨A3, c3, rfl⟩ := Kd.R_slice HR.out.2
      have HLs := Aside0.mk (least_calls A3 c3 (toksL al bs) (Kd.R_reads' HR.out.2).2.2 (HH.out.below HB.out) (by have := HN.out; omega) HTk.out (by have := HLn.out; omega))
      have hcr : wr.cell? ⟨gr, 0, none⟩ = some (.slice A3 (toksL al bs).length c3) := blk_cell HR.out.1 0
      obtain ⟨l0, hl0⟩ : ∃ l0, l0 = toksL al bs := ⟨_, rfl⟩
      have HL0 := Aside0.mk hl0
      rw [← hl0] at HR HTk HLn HLs hcr
      clear hl0 HFin HTa
      go_wp2_with (fail)
      refine HLs.out.mono ?_
      rintro e w1 ⟨rfl, hdr⟩
      have HB1 : Aside0 (Below w.heap.size w w1) := ⟨by obtain ⟨q, rfl⟩ := hdr.out; exact pw_below_drewN HB.out q⟩
      have HR1 : Aside0 (RowAt w1 w.heap.size gr (.slice A3 l0.length c3) l0) := ⟨by obtain ⟨q, rfl⟩ := hdr.out; exact HR.out⟩
      clear hdr hcr HR HB HLs
      go_wp2_with (fail)
      go_loopg [10] bs.length (fun gk tv wr => Aside0 (EncLoop w al n ps bs gr gk tv wr))
      case atStart => exact ⟨⟨_, l0, HR1.out, by rw [HL0.out], HTk.out, ⟨by rw [HLn.out]; exact Nat.le_refl _, by rw [HLn.out]; exact hm⟩, rfl, HB1.out⟩⟩
      case round =>
        clear HR1 HB1 HTk HLn HL0
        obtain ⟨v, l, hr, heq, htk, hgk, rfl, hb⟩ := hrel.out
        clear hrel
        have HR := Aside0.mk hr
        have HEq := Aside0.mk heq
        have HTk := Aside0.mk htk
        have HGk := Aside0.mk hgk
        have HB := Aside0.mk hb
        clear hr heq htk hgk hb
        obtain ⟨A3, c3, rfl⟩ := Kd.R_slice HR.out.2
        have hcr : wr.cell? ⟨gr, 0, none⟩ = some (.slice A3 l.length c3) := blk_cell HR.out.1 0
        cases hf : firstP ps l with
        | none =>
          have HE : Aside0 (encL n ps (toksL al bs) = l) := ⟨by rw [HEq.out, encL_none hf]⟩
          clear hf
          have HTv : Aside0 (tokV n none = -1) := ⟨rfl⟩
          rw [HTv.out]
          go_wp2
          go_ret3
          exact ⟨HB.out, fun h => absurd h HL.out, fun _ i hi => absurd (HBad.out.symm.trans hi) (by simp), fun _ _ => ⟨_, rfl, by rw [HE.out]; exact HR.out.2⟩⟩
        | some j =>
          obtain ⟨hjl, hnbj⟩ := first_some hf
          have HF := Aside0.mk hf
          have HLt := Aside0.mk (mergeL_lt (ps.getD j (0, 0)) (n + j) l hnbj)
          have HTv : Aside0 (tokV n (some j) = n + j) := ⟨rfl⟩
          obtain ⟨u, hu⟩ : ∃ u, u = n + (j : Int) := ⟨_, rfl⟩
          have HU := Aside0.mk hu
          have hu0 : 0 ≤ u := by have := HN.out; omega
          have hu1 : u ≤ 1000000 := by have := HPs.out; omega
          have hund : (u != -1) = true := by rw [bne_iff_ne]; omega
          have hsub : IntKind.i64.wrap (u - n) = (j : Int) := by rw [IntWalk.i64_in _ (by have := HN.out; have := HPs.out; omega)]; omega
          rw [HTv.out, ← hu]
          rw [← hu] at HLt
          clear hf hnbj hu HTv
          have HHr := Aside0.mk (HH.out.below HB.out)
          obtain ⟨Ao, co, rfl, hco, hCo⟩ := Kd.R_reads HHr.out.2.2.2.2.2.2
          have hjI : (j : Int) < (ps.length : Int) := by omega
          have hj0 : (0 : Int) ≤ (j : Int) := Int.natCast_nonneg _
          obtain ⟨adp, rfl, hp1, hp2⟩ := pair_at hCo j hjl
          have hco' := cdo HHr.out
          have hcn := cdn HHr.out
          obtain ⟨p, hp⟩ : ∃ p, p = ps.getD j (0, 0) := ⟨_, rfl⟩
          have HPe := Aside0.mk hp
          rw [← hp] at hp1 hp2 HLt
          clear hp hCo hco
          obtain ⟨x, y⟩ := p
          go_wp2_with (fail)
          have k1 : wr.drew.cell? ⟨g, 258, none⟩ = some (.slice (some adp) ps.length co) := hco'
          have k2 : wr.drew.cell? ⟨g, 259, none⟩ = some (.int .i64 n) := hcn
          have k3 : wr.drew.cell? (adp.add (j * 2)) = some (.int .i64 x) := hp1
          have k4 : wr.drew.cell? ⟨(adp.add (j * 2)).block, (adp.add (j * 2)).off + 1, none⟩ = some (.int .i64 y) := hp2
          refine start_ (n := 14) (S := fun w' => w'.cell? ⟨g, 258, none⟩ = some (.slice (some adp) ps.length co) ∧ w'.cell? ⟨g, 259, none⟩ = some (.int .i64 n) ∧ w'.cell? (adp.add (j * 2)) = some (.int .i64 x) ∧ w'.cell? ⟨(adp.add (j * 2)).block, (adp.add (j * 2)).off + 1, none⟩ = some (.int .i64 y)) (ds := [13]) #[false, false, false, false, false, false, false, false, false, false, false, false, false, false] (by kernel_rfl) rfl rfl ⟨k1, k2, k3, k4⟩ (fun hHeld => ?_)
          refine pure_ (i := 0) (N := some 66) (v := ?_) (a' := ?_) #[true, false, false, false, false, false, false, false, false, false, false, false, false, false] rfl rfl (by kernel_rfl) (fun _ _ _ h => h) (Or.inl ⟨by rfl, ?_⟩) ?_ ?_
          rotate_left
          · intro w'
            go_simp
            with_reducible rfl
          rotate_left
          · simp only [Act.put, List.setIfInBounds_toArray, List.set_cons_zero, List.set_cons_succ]
            rfl
          refine pure_ (i := 1) (N := some 67) (v := ?_) (a' := ?_) #[true, true, false, false, false, false, false, false, false, false, false, false, false, false] rfl rfl (by kernel_rfl) (fun _ _ _ h => h) (Or.inl ⟨by rfl, ?_⟩) ?_ ?_
          rotate_left
          · intro w'
            go_simp
            with_reducible rfl
          rotate_left
          · simp only [Act.put, List.setIfInBounds_toArray, List.set_cons_zero, List.set_cons_succ]
            rfl
          refine pure_ (i := 2) (N := some 68) (v := ?_) (a' := ?_) #[true, true, true, false, false, false, false, false, false, false, false, false, false, false] rfl rfl (by kernel_rfl) (fun _ _ _ h => h) (Or.inl ⟨by rfl, ?_⟩) ?_ ?_
          rotate_left
          · intro w'
            go_simp
            with_reducible rfl
          rotate_left
          · simp only [Act.put, List.setIfInBounds_toArray, List.set_cons_zero, List.set_cons_succ]
            rfl
          refine pure_ (i := 4) (N := some 70) (v := ?_) (a' := ?_) #[true, true, true, false, true, false, false, false, false, false, false, false, false, false] rfl rfl (by kernel_rfl) (fun _ _ _ h => h) (Or.inl ⟨by rfl, ?_⟩) ?_ ?_
          rotate_left
          · intro w'
            go_simp
            with_reducible rfl
          rotate_left
          · simp only [Act.put, List.setIfInBounds_toArray, List.set_cons_zero, List.set_cons_succ]
            rfl
          refine pure_ (i := 5) (N := some 71) (v := ?_) (a' := ?_) #[true, true, true, false, true, true, false, false, false, false, false, false, false, false] rfl rfl (by kernel_rfl) (fun _ _ _ h => h) (Or.inl ⟨by rfl, ?_⟩) ?_ ?_
          rotate_left
          · intro w'
            go_simp
            with_reducible rfl
          rotate_left
          · simp only [Act.put, List.setIfInBounds_toArray, List.set_cons_zero, List.set_cons_succ]
            rfl
          refine pure_ (i := 6) (N := some 72) (v := ?_) (a' := ?_) #[true, true, true, false, true, true, true, false, false, false, false, false, false, false] rfl rfl (by kernel_rfl) (fun _ _ _ h => h) (Or.inl ⟨by rfl, ?_⟩) ?_ ?_
          rotate_left
          · intro w'
            go_simp
            with_reducible rfl
          rotate_left
          · simp only [Act.put, List.setIfInBounds_toArray, List.set_cons_zero, List.set_cons_succ]
            rfl
          refine pure_ (i := 7) (N := some 73) (v := ?_) (a' := ?_) #[true, true, true, false, true, true, true, true, false, false, false, false, false, false] rfl rfl (by kernel_rfl) (fun _ _ _ h => h) (Or.inl ⟨by rfl, ?_⟩) ?_ ?_
          rotate_left
          · intro w'
            go_simp
            with_reducible rfl
          rotate_left
          · simp only [Act.put, List.setIfInBounds_toArray, List.set_cons_zero, List.set_cons_succ]
            rfl
          refine take_ (i := 3) (N := some 69) (v := ?_) (a' := ?_) #[true, true, true, true, true, true, true, true, false, false, false, false, false, false] rfl rfl (by kernel_rfl) (fun _ _ _ h => h) (Or.inl ⟨by rfl, ?_⟩) hHeld ?_ ?_
          rotate_left
          · rintro w' ⟨s0, s1, s2, s3⟩
            go_simp
            with_reducible rfl
          rotate_left
          · simp only [Act.put, List.setIfInBounds_toArray, List.set_cons_zero, List.set_cons_succ]
            rfl
          refine take_ (i := 8) (N := some 74) (v := ?_) (a' := ?_) #[true, true, true, true, true, true, true, true, true, false, false, false, false, false] rfl rfl (by kernel_rfl) (fun _ _ _ h => h) (Or.inl ⟨by rfl, ?_⟩) hHeld ?_ ?_
          rotate_left
          · rintro w' ⟨s0, s1, s2, s3⟩
            go_simp
            with_reducible rfl
          rotate_left
          · simp only [Act.put, List.setIfInBounds_toArray, List.set_cons_zero, List.set_cons_succ]
            rfl
          refine pure_ (i := 9) (N := some 75) (v := ?_) (a' := ?_) #[true, true, true, true, true, true, true, true, true, true, false, false, false, false] rfl rfl (by kernel_rfl) (fun _ _ _ h => h) (Or.inl ⟨by rfl, ?_⟩) ?_ ?_
          rotate_left
          · intro w'
            go_simp
            with_reducible rfl
          rotate_left
          · simp only [Act.put, List.setIfInBounds_toArray, List.set_cons_zero, List.set_cons_succ]
            rfl
          refine pure_ (i := 10) (N := some 76) (v := ?_) (a' := ?_) #[true, true, true, true, true, true, true, true, true, true, true, false, false, false] rfl rfl (by kernel_rfl) (fun _ _ _ h => h) (Or.inl ⟨by rfl, ?_⟩) ?_ ?_
          rotate_left
          · intro w'
            go_simp
            with_reducible rfl
          rotate_left
          · simp only [Act.put, List.setIfInBounds_toArray, List.set_cons_zero, List.set_cons_succ]
            rfl
          refine take_ (i := 11) (N := some 77) (v := ?_) (a' := ?_) #[true, true, true, true, true, true, true, true, true, true, true, true, false, false] rfl rfl (by kernel_rfl) (fun _ _ _ h => h) (Or.inl ⟨by rfl, ?_⟩) hHeld ?_ ?_
          rotate_left
          · rintro w' ⟨s0, s1, s2, s3⟩
            go_simp
            with_reducible rfl
          rotate_left
          · simp only [Act.put, List.setIfInBounds_toArray, List.set_cons_zero, List.set_cons_succ]
            rfl
          refine one_ (i := 12) (N := some 11) #[true, true, true, true, true, true, true, true, true, true, true, true, true, false] rfl rfl (by kernel_rfl) (by decide) (fun K hK => ?_)
          refine value_ (w1 := ?_) (v := ?_) (by rfl) rfl ?_ ?_
          rotate_left 2
          · go_simp
            constructor
            · rfl
            · rfl
          refine hK.out _ _ ⟨cell_keep (bel_alloc (Below.refl _ _) _) k1, cell_keep (bel_alloc (Below.refl _ _) _) k2, cell_keep (bel_alloc (Below.refl _ _) _) k3, cell_keep (bel_alloc (Below.refl _ _) _) k4⟩ (fun hHeld => ?_)
          clear hK K
          refine norm_ (a' := ?_) ?_ ?_
          rotate_left
          · show Act.put _ (some 11) _ = _
            simp only [Act.put, List.setIfInBounds_toArray, List.set_cons_zero, List.set_cons_succ]
            rfl
          refine last_ (i := 13) (N := none) #[true, true, true, true, true, true, true, true, true, true, true, true, true, true] rfl rfl (by kernel_rfl) (by decide) (fun K hK => ?_)
          refine skip_ (w1 := ?_) (by rfl) rfl ?_ ?_
          rotate_left
          · go_simp
            rfl
          refine hK.out _ _ ?_
          clear hK K
          refine done_ (by kernel_rfl) ?_
          clear hHeld
          have hpair : ((wr.alloc (.cells #[.int .i64 x, .int .i64 y] 44)).drew).heap[wr.heap.size]? = some (.cells #[.int .i64 x, .int .i64 y] 44 (0, 0)) := heap_alloc_new _ _
          have hq1 : ((wr.alloc (.cells #[.int .i64 x, .int .i64 y] 44)).drew).cell? ⟨wr.heap.size, 0, none⟩ = some (.int .i64 x) := blk_cell hpair 0
          have hq2 : ((wr.alloc (.cells #[.int .i64 x, .int .i64 y] 44)).drew).cell? ⟨wr.heap.size, 1, none⟩ = some (.int .i64 y) := blk_cell hpair 1
          have HBs : Aside0 (Below wr.heap.size wr (wr.alloc (.cells #[.int .i64 x, .int .i64 y] 44)).drew) := ⟨below_drew (bel_alloc (Below.refl _ _) _)⟩
          clear hpair k1 k2 k3 k4 hcr hco' hcn hp1 hp2
          generalize (wr.alloc (.cells #[.int .i64 x, .int .i64 y] 44)).drew = W3 at *
          have HB3 : Aside0 (Below w.heap.size w W3) := ⟨below_step HB.out HBs.out⟩
          have HR3 : Aside0 (RowAt W3 w.heap.size gr (.slice A3 l.length c3) l) := ⟨(HBs.out.block _ (blk_lt HR.out.1)).trans HR.out.1, Kd.R_below HR.out.2 HBs.out⟩
          obtain ⟨pb, hpb⟩ : ∃ pb, pb = wr.heap.size := ⟨_, rfl⟩
          rw [← hpb] at hq1 hq2 ⊢
          clear hpb
          have HMg := Aside0.mk (merge_calls w.heap.size gr A3 c3 l x y u W3 (Kd.R_reads' HR3.out.2).2.2 HR3.out.1 (by have := HGr.out; omega) (by have := HGk.out.2; omega))
          have HT1 : Aside0 (toks (mergeL (x, y) u l)) := ⟨toks_merge HTk.out ⟨hu0, hu1⟩⟩
          have HE1 : Aside0 (encL n ps (toksL al bs) = encL n ps (mergeL (x, y) u l)) := ⟨by rw [HEq.out, encL_some HF.out, ← HPe.out, ← HU.out]⟩
          have HL1 : Aside0 ((mergeL (x, y) u l).length < l.length) := ⟨HLt.out⟩
          clear HR HLt HF hsub hjI hj0 hHeld
          go_wp2_with (fail)
          refine HMg.out.mono ?_
          rintro e W4 ⟨rfl, v4, hr4, hR4, hb4, hk4⟩
          generalize mergeL (x, y) u l = l1 at *
          obtain ⟨A4, c4, rfl⟩ := Kd.R_slice hR4
          have HR4 : Aside0 (RowAt W4 w.heap.size gr (.slice A4 l1.length c4) l1) := ⟨hr4, Kd.R_lower hR4 HB3.out.size⟩
          have HB4 : Aside0 (Below w.heap.size w W4) := ⟨HB3.out.trans hb4⟩
          have hcr4 : W4.cell? ⟨gr, 0, none⟩ = some (.slice A4 l1.length c4) := blk_cell hr4 0
          have HLs := Aside0.mk (least_calls A4 c4 l1 (Kd.R_reads' HR4.out.2).2.2 (HH.out.below HB4.out) (by have := HN.out; omega) HT1.out (by have := HL1.out; have := HGk.out.2; omega))
          clear hr4 hR4 hb4 hk4 hq1 hq2 HMg HR3 HB3
          go_wp2_with (fail)
          refine HLs.out.mono ?_
          rintro e W5 ⟨rfl, hdr⟩
          have HB5 : Aside0 (Below w.heap.size w W5) := ⟨by obtain ⟨q, rfl⟩ := hdr.out; exact pw_below_drewN HB4.out q⟩
          have HR5 : Aside0 (RowAt W5 w.heap.size gr (.slice A4 l1.length c4) l1) := ⟨by obtain ⟨q, rfl⟩ := hdr.out; exact HR4.out⟩
          clear hdr hcr4 HR4 HB4 HLs
          go_wp2_with (fail)
          go_roundg l1.length
          case measure => have := HL1.out; have := HGk.out.1; omega
          case rel => exact ⟨⟨_, l1, HR5.out, HE1.out, HT1.out, ⟨Nat.le_refl _, by have := HL1.out; have := HGk.out.2; omega⟩, rfl, HB5.out⟩⟩
end
end Go.Proofs.Ytbgiccbegcepcaa.Bpe

