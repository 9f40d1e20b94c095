/- A region whose order is drawn, walked operation by operation: each operation is shown once, from what it waits for, whatever the order. -/
import Derived.Test.YtbgiccbegcepcaaK
import Derived.StillTail
namespace Go.Proofs.Ytbgiccbegcepcaa.RI
open Go.Proofs.YtbgiccbegcepcaaW.PrintWords Go.Proofs.YtbgiccbegcepcaaW.PrintLast Go.Proofs.Ytbgiccbegcepcaa.K
set_option linter.unusedVariables false
section
variable {P : Program} {ops : Array Oper} {Q : Exit → Act → World → Prop}
/-- Each operation waits for earlier ones alone. -/
def backB (ops : Array Oper) : Bool := (List.range ops.size).all fun j => match ops[j]? with
  | some o => o.after.all fun e => !Region.binds .any e || decide (e.on < j)
  | none => true
theorem backB_spec (hb : backB ops = true) {j : Nat} {o : Oper} (ho : ops[j]? = some o) : ∀ e ∈ o.after, Region.binds .any e = true → e.on < j := by
  intro e he hbe
  have hlt : j < ops.size := (Array.getElem?_eq_some_iff.1 ho).1
  have h1 := List.all_eq_true.1 hb j (List.mem_range.2 hlt)
  simp only [ho] at h1
  have h2 := Array.all_eq_true_iff_forall_mem.1 h1 e he
  simpa [hbe] using h2
theorem ready_empty (hb : backB ops = true) {l : Array Bool} (hl : l.size = ops.size) (hr : Region.ready .any ops l = []) : ∀ j, j < ops.size → l.getD j false = true := by
  intro j
  induction j using Nat.strongRecOn with
  | ind j ih =>
    intro hj
    cases hc : l.getD j false with
    | true => rfl
    | false =>
      exfalso
      have ho : ops[j]? = some ops[j] := Array.getElem?_eq_getElem hj
      have h1 : l.getD j true = false := by
        simp only [Array.getD_eq_getD_getElem?, Array.getElem?_eq_getElem (show j < l.size by omega), Option.getD_some] at hc ⊢
        exact hc
      have hm : j ∈ Region.ready .any ops l := mem_ready.2 ⟨h1, _, ho, fun e he hbe => ih e.on (backB_spec hb ho e he hbe) (by have := backB_spec hb ho e he hbe; omega)⟩
      rw [hr] at hm
      cases hm
theorem wpAny_all (hb : backB ops = true) (I : Array Bool → Act → World → Prop)
    (step : ∀ (l : Array Bool) a w i o, l.size = ops.size → ListedClosed .any ops l → I l a w → ops[i]? = some o → l.getD i true = false → (∀ e ∈ o.after, Region.binds .any e = true → l.getD e.on false = true) →
      ∀ K : Act → World → Prop, (∀ a' w', I (l.setIfInBounds i true) a' w' → K a' w') → if Region.wanted o (yielded ops a.tmps) = true then (Oper.wp P o a w K Q ∨ (o.asks P a w ∧ LetsOut Q)) else K (a.put o.dst undef) w)
    (fin : ∀ l a w, I l a w → (∀ j, j < ops.size → l.getD j false = true) → Q .normal a w) :
    ∀ (fuel : Nat) (l : Array Bool) (a : Act) (w : World), l.size = ops.size → l.toList.count false ≤ fuel → ListedClosed .any ops l → I l a w → wpAny P .any ops Q fuel l a w := by
  intro fuel
  induction fuel with
  | zero =>
    intro l a w hs hc hcl hI
    have hr : Region.ready .any ops l = [] := by
      refine List.eq_nil_iff_forall_not_mem.2 fun j hj => ?_
      obtain ⟨h1, o, ho, _⟩ := mem_ready.1 hj
      have hlt : j < l.size := by rw [hs]; exact (Array.getElem?_eq_some_iff.1 ho).1
      have h2 : l[j] = false := by simpa [Array.getD_eq_getD_getElem?, Array.getElem?_eq_getElem hlt] using h1
      have h3 : false ∈ l.toList := by rw [← h2]; exact Array.mem_toList_iff.2 (Array.getElem_mem hlt)
      have h4 : 0 < l.toList.count false := List.count_pos_iff.2 h3
      omega
    exact ⟨hr, fin l a w hI (ready_empty hb hs hr)⟩
  | succ fuel ih =>
    intro l a w hs hc hcl hI
    refine ⟨fun hr => fin l a w hI (ready_empty hb hs hr), fun i hi => ?_⟩
    have hcl' := hcl.set hi
    obtain ⟨h1, o, ho, hd⟩ := mem_ready.1 hi
    have hlt : i < l.size := by rw [hs]; exact (Array.getElem?_eq_some_iff.1 ho).1
    have h2 : l.toList[i]'(by simpa using hlt) = false := by simpa [Array.getD_eq_getD_getElem?, Array.getElem?_eq_getElem hlt] using h1
    have hcnt : (l.setIfInBounds i true).toList.count false ≤ fuel := by
      have h3 : 0 < l.toList.count false := List.count_pos_iff.2 (by rw [← h2]; exact List.getElem_mem _)
      rw [Array.toList_setIfInBounds, List.count_set (h := by simpa using hlt), h2]
      show l.toList.count false - 1 + 0 ≤ fuel
      omega
    have := step l a w i o hs hcl hI ho h1 hd (wpAny P .any ops Q fuel (l.setIfInBounds i true)) (fun a' w' h => ih _ _ _ (by simpa using hs) hcnt hcl' h)
    unfold wpOp
    rw [ho]
    show if Region.wanted o (yielded ops a.tmps) = true then _ else _
    split
    · rename_i hw; rw [if_pos hw] at this; exact this
    · rename_i hw; rw [if_neg hw] at this; exact this
/-! ### The frame: the slots that a region writes are variables. -/
def fillL : List Value → List Bool → (Nat → Value) → Nat → List Value
  | [], _, _, _ => []
  | x :: xs, [], _, _ => x :: xs
  | _ :: xs, true :: bs, v, k => v k :: fillL xs bs v (k + 1)
  | x :: xs, false :: bs, v, k => x :: fillL xs bs v (k + 1)
def fillA (a0 : Act) (m : List Bool) (v : Nat → Value) : Act := { a0 with tmps := (fillL a0.tmps.toList m v 0).toArray }
def upv (v : Nat → Value) (d : Nat) (x : Value) : Nat → Value := fun k => if k = d then x else v k
theorem upv_same (v : Nat → Value) (d : Nat) (x : Value) : upv v d x d = x := if_pos rfl
theorem upv_ne {v : Nat → Value} {d k : Nat} {x : Value} (h : k ≠ d) : upv v d x k = v k := if_neg h
theorem fillL_congr {v v' : Nat → Value} : ∀ (xs : List Value) (m : List Bool) (k : Nat), (∀ j, k ≤ j → v j = v' j) → fillL xs m v k = fillL xs m v' k
  | [], _, _, _ => by simp only [fillL]
  | _ :: _, [], _, _ => by simp only [fillL]
  | x :: xs, true :: bs, k, h => by simp only [fillL]; rw [h k (Nat.le_refl _), fillL_congr xs bs (k + 1) (fun j hj => h j (by omega))]
  | x :: xs, false :: bs, k, h => by simp only [fillL]; rw [fillL_congr xs bs (k + 1) (fun j hj => h j (by omega))]
theorem fillL_set {v : Nat → Value} {x : Value} : ∀ (xs : List Value) (m : List Bool) (k d : Nat), m.getD d false = true → (fillL xs m v k).set d x = fillL xs m (upv v (k + d) x) k
  | [], _, _, _, _ => by simp only [fillL, List.set_nil]
  | _ :: _, [], _, _, h => by simp at h
  | y :: xs, true :: bs, k, 0, _ => by
    simp only [fillL, List.set_cons_zero, Nat.add_zero, upv_same]
    rw [fillL_congr xs bs (k + 1) (v' := upv v k x) (fun j hj => (upv_ne (by omega)).symm)]
  | y :: xs, false :: bs, k, 0, h => by simp at h
  | y :: xs, true :: bs, k, d + 1, h => by
    simp only [fillL, List.set_cons_succ]
    rw [fillL_set xs bs (k + 1) d (by simpa using h), show k + 1 + d = k + (d + 1) by omega, upv_ne (by omega)]
  | y :: xs, false :: bs, k, d + 1, h => by
    simp only [fillL, List.set_cons_succ]
    rw [fillL_set xs bs (k + 1) d (by simpa using h), show k + 1 + d = k + (d + 1) by omega]
theorem fill_put {a0 : Act} {m : List Bool} {v : Nat → Value} {d : Nat} {x : Value} (h : m.getD d false = true) : (fillA a0 m v).put (some d) x = fillA a0 m (upv v d x) := by
  have := fillL_set (v := v) (x := x) a0.tmps.toList m 0 d h
  rw [Nat.zero_add] at this
  simp only [fillA, Act.put, List.setIfInBounds_toArray, this]
theorem fillL_start : ∀ (xs ys : List Value) (m : List Bool) (k : Nat), (∀ j, xs[j]? = ys[k + j]?) → fillL xs m (fun j => (ys[j]?).getD undef) k = xs
  | [], _, _, _, _ => by simp only [fillL]
  | _ :: _, _, [], _, _ => by simp only [fillL]
  | x :: xs, ys, true :: bs, k, h => by
    have h0 := h 0
    simp only [List.getElem?_cons_zero, Nat.add_zero] at h0
    simp only [fillL, ← h0, Option.getD_some]
    rw [fillL_start xs ys bs (k + 1) (fun j => by have := h (j + 1); simpa [Nat.add_assoc, Nat.add_comm 1 j] using this)]
  | x :: xs, ys, false :: bs, k, h => by
    simp only [fillL]
    rw [fillL_start xs ys bs (k + 1) (fun j => by have := h (j + 1); simpa [Nat.add_assoc, Nat.add_comm 1 j] using this)]
theorem fill_start (a0 : Act) (m : List Bool) : fillA a0 m (fun j => (a0.tmps.toList[j]?).getD undef) = a0 := by
  simp only [fillA, fillL_start a0.tmps.toList a0.tmps.toList m 0 (fun j => by simp)]
/-! ### The steps. -/
def AllOps (p : Nat → Oper → Prop) : List Oper → Nat → Prop
  | [], _ => True
  | o :: os, k => p k o ∧ AllOps p os (k + 1)
theorem AllOps.get {p : Nat → Oper → Prop} : ∀ {os : List Oper} {k : Nat}, AllOps p os k → ∀ {i : Nat} {o : Oper}, os[i]? = some o → p (k + i) o
  | [], _, _, _, _, h => by simp at h
  | x :: os, k, h, 0, o, hi => by
    obtain rfl : x = o := by simpa using hi
    exact h.1
  | x :: os, k, h, i + 1, o, hi => by
    have := AllOps.get h.2 (i := i) (o := o) (by simpa using hi)
    rwa [show k + 1 + i = k + (i + 1) by omega] at this
def StepOk (P : Program) (ops : Array Oper) (Q : Exit → Act → World → Prop) (o : Oper) (a : Act) (W : World) (G : Value → World → Prop) : Prop :=
  ∀ K : Act → World → Prop, (∀ x W', G x W' → K (a.put o.dst x) W') → if Region.wanted o (yielded ops a.tmps) = true then (Oper.wp P o a W K Q ∨ (o.asks P a W ∧ LetsOut Q)) else K (a.put o.dst undef) W
theorem StepOk.mono {o : Oper} {a : Act} {W : World} {G G' : Value → World → Prop} (h : StepOk P ops Q o a W G) (hg : ∀ x W', G x W' → G' x W') : StepOk P ops Q o a W G' := fun K hK => h K (fun x W' hx => hK x W' (hg x W' hx))
theorem wanted_none {o : Oper} (hg : o.guard = none) (y : Nat → Option Bool) : Region.wanted o y = true := by simp [Region.wanted, hg]
theorem step_value {o : Oper} {a : Act} {W W' : World} {x : Value} {G : Value → World → Prop} (hw : Region.wanted o (yielded ops a.tmps) = true) (hrun : (execOp a.eval o).run P W = .ok (.value x) W') (h : G x W') : StepOk P ops Q o a W G := fun K hK => by
  rw [if_pos hw]
  refine .inl ?_
  unfold Oper.wp
  rw [hrun]
  exact hK x W' h
theorem step_skip {o : Oper} {a : Act} {W W' : World} {G : Value → World → Prop} (hw : Region.wanted o (yielded ops a.tmps) = true) (hrun : (execOp a.eval o).run P W = .ok .skip W') (h : G undef W') : StepOk P ops Q o a W G := fun K hK => by
  rw [if_pos hw]
  refine .inl ?_
  unfold Oper.wp
  rw [hrun]
  exact hK undef W' h
theorem step_off {o : Oper} {a : Act} {W : World} {G : Value → World → Prop} (hw : Region.wanted o (yielded ops a.tmps) = false) (h : G undef W) : StepOk P ops Q o a W G := fun K hK => by
  rw [if_neg (by rw [hw]; simp)]
  exact hK undef W h
/-- One operation, as a walk of its own. -/
theorem step_list {o : Oper} {a : Act} {W : World} {G : Value → World → Prop} (h : ∀ K : Act → World → Prop, (∀ x W', G x W' → K (a.put o.dst x) W') → wpList P ops (Exit.then K Q) [o] a W) : StepOk P ops Q o a W G := fun K hK => by
  have h1 := h K hK
  unfold wpList at h1
  split at h1
  · rename_i hw
    rw [if_pos hw]
    refine h1.imp (fun h2 => ?_) (fun h2 => ⟨h2.1, h2.2⟩)
    unfold Oper.wp at *
    generalize (execOp a.eval o).run P W = r at *
    cases r with
    | ok n w' =>
      cases n <;> simp only [Oper.upon] at h2 ⊢ <;>
        first
          | exact h2
          | exact Calls.mono h2 (fun e w'' he => by cases e <;> exact he)
          | exact Rows.mono h2 (fun _ _ he => he)
    | halt x w' => cases x <;> simp only [Oper.upon] at h2 ⊢ <;> exact h2
  · rename_i hw
    rw [if_neg hw]
    exact h1
theorem fill_lit (xs : List Value) (ds : List Deferred) (m : List Bool) (v : Nat → Value) : fillA ⟨xs.toArray, ds⟩ m v = ⟨(fillL xs m v 0).toArray, ds⟩ := by simp only [fillA]
def dstOf (ops : Array Oper) (j : Nat) : Option Nat := (ops[j]?).bind (·.dst)
def valOf (ops : Array Oper) (v : Nat → Value) (j : Nat) : Value := match dstOf ops j with
  | some d => v d
  | none => undef
/-- The region's form: edges go back; its slots are the mask's, each written once; the last operation waits for all others. -/
def regB (ops : Array Oper) (m : List Bool) (z : Nat) : Bool :=
  backB ops && (List.range ops.size).all (fun j => (match dstOf ops j with | some d => m.getD d false | none => true) && (List.range j).all fun i => match dstOf ops i, dstOf ops j with | some d, some e => d != e | _, _ => true)
    && (List.range ops.size).all (fun j => j == z || Region.reachB .any ops j ops.size z) && (z < ops.size)
theorem regB_back {m : List Bool} {z : Nat} (h : regB ops m z = true) : backB ops = true := by
  simp only [regB, Bool.and_eq_true] at h
  exact h.1.1.1
theorem regB_in {m : List Bool} {z : Nat} (h : regB ops m z = true) {j d : Nat} (hj : dstOf ops j = some d) : m.getD d false = true := by
  simp only [regB, Bool.and_eq_true] at h
  have hlt : j < ops.size := by
    rcases Nat.lt_or_ge j ops.size with h' | h'
    · exact h'
    · simp [dstOf, Array.getElem?_eq_none h'] at hj
  have := List.all_eq_true.1 h.1.1.2 j (List.mem_range.2 hlt)
  simp only [hj, Bool.and_eq_true] at this
  exact this.1
theorem regB_ne {m : List Bool} {z : Nat} (h : regB ops m z = true) {i j d e : Nat} (hi : dstOf ops i = some d) (hj : dstOf ops j = some e) (hne : i ≠ j) : d ≠ e := by
  simp only [regB, Bool.and_eq_true] at h
  have lt : ∀ {i d}, dstOf ops i = some d → i < ops.size := fun {i d} hi => by
    rcases Nat.lt_or_ge i ops.size with h' | h'
    · exact h'
    · simp [dstOf, Array.getElem?_eq_none h'] at hi
  have go : ∀ {i j d e : Nat}, dstOf ops i = some d → dstOf ops j = some e → i < j → d ≠ e := fun {i j d e} hi hj hlt => by
    have h1 := List.all_eq_true.1 h.1.1.2 j (List.mem_range.2 (lt hj))
    simp only [Bool.and_eq_true] at h1
    have h2 := List.all_eq_true.1 h1.2 i (List.mem_range.2 hlt)
    simp only [hi, hj] at h2
    simpa using h2
  rcases Nat.lt_or_ge i j with h' | h'
  · exact go hi hj h'
  · exact (go hj hi (by omega)).symm
theorem regB_last {m : List Bool} {z : Nat} (h : regB ops m z = true) {j : Nat} (hj : j < ops.size) (hne : j ≠ z) : Region.reachB .any ops j ops.size z = true := by
  simp only [regB, Bool.and_eq_true] at h
  have := List.all_eq_true.1 h.1.2 j (List.mem_range.2 hj)
  simpa [hne] using this
theorem valOf_up {m : List Bool} {z : Nat} (h : regB ops m z = true) {v : Nat → Value} {i j d : Nat} {x : Value} (hi : dstOf ops i = some d) (hne : j ≠ i) : valOf ops (upv v d x) j = valOf ops v j := by
  unfold valOf
  cases hj : dstOf ops j with
  | none => rfl
  | some e => exact upv_ne (regB_ne h hj hi hne)
/-- A region that draws, with a last operation: each operation from what it waits for. -/
theorem wp_region_mono {id : Nat} {a0 : Act} {w : World} (z : Nat) (m : List Bool) (hm : P.follows .mixedOrders = true) (hr : regB ops m z = true) (B : World → Prop) (M : World → World → Prop) (F : Nat → Value → World → Prop)
    (hM : ∀ i x W W', B W → M W W' → F i x W → F i x W') (hB : B w.drew)
    (step : AllOps (fun i o => ∀ v W, B W → (∀ j, Region.reachB .any ops j ops.size i = true → F j (valOf ops v j) W) →
      StepOk P ops Q o (fillA a0 m v) W (fun x W' => if i = z then Q .normal ((fillA a0 m v).put o.dst x) W' else B W' ∧ M W W' ∧ F i (match o.dst with | some _ => x | none => undef) W')) ops.toList 0) :
    (Code.region id ops true).wp P Q a0 w := by
  refine wp_region_any hm ?_
  refine wpAny_all (regB_back hr) (fun l a W => if l.getD z false = true then Q .normal a W else ∃ v, a = fillA a0 m v ∧ B W ∧ ∀ j, l.getD j false = true → F j (valOf ops v j) W) ?_ ?_ ops.size _ _ _ (by simp) ?_ ?_ ?_
  · intro l a W i o hs hcl hI ho hun hd K hK
    have hlt : i < ops.size := (Array.getElem?_eq_some_iff.1 ho).1
    have hzf : l.getD z false = false := by
      cases hz : l.getD z false with
      | false => rfl
      | true =>
        have hi : l.getD i false = true := by
          by_cases h : i = z
          · rw [h]; exact hz
          · exact Region.reach_listed hcl _ _ (regB_last hr hlt h) hz
        have h1 : l.getD i false = l.getD i true := by
          simp only [Array.getD_eq_getD_getElem?, Array.getElem?_eq_getElem (show i < l.size by omega), Option.getD_some]
        rw [h1, hun] at hi
        cases hi
    rw [if_neg (by rw [hzf]; simp)] at hI
    obtain ⟨v, rfl, hBW, hF⟩ := hI
    have hst := AllOps.get step (i := i) (o := o) (by simpa using ho) v W hBW (fun j hj => hF j (by
      rw [Nat.zero_add] at hj
      have hdone : ListedClosed .any ops (l.setIfInBounds i true) := hcl.set (mem_ready.2 ⟨hun, o, ho, hd⟩)
      have h1 := Region.reach_listed hdone _ _ hj (by
        simp only [Array.getD_eq_getD_getElem?, Array.getElem?_setIfInBounds_self_of_lt (show i < l.size by omega), Option.getD_some])
      by_cases h : j = i
      · subst h
        exfalso
        have back : ∀ (fuel d : Nat), Region.reachB .any ops j fuel d = true → j < d := by
          intro fuel
          induction fuel with
          | zero => intro d h; simp [Region.reachB] at h
          | succ fuel ih =>
            intro d h
            unfold Region.reachB at h
            cases hod : ops[d]? with
            | none => rw [hod] at h; simp at h
            | some od =>
              rw [hod] at h
              obtain ⟨e, he, h1⟩ := Array.any_eq_true'.1 h
              simp only [Bool.and_eq_true, Bool.or_eq_true, beq_iff_eq] at h1
              have h2 := backB_spec (regB_back hr) hod e he h1.1
              rcases h1.2 with h3 | h3
              · omega
              · have := ih _ h3; omega
        have := back _ _ hj
        omega
      · rwa [getD_set_ne false (Ne.symm h)] at h1))
    rw [Nat.zero_add] at hst
    refine hst K fun x W' hg => hK _ _ ?_
    dsimp only at hg
    by_cases hiz : i = z
    · subst hiz
      rw [if_pos (by simp only [Array.getD_eq_getD_getElem?, Array.getElem?_setIfInBounds_self_of_lt (show i < l.size by omega), Option.getD_some])]
      rwa [if_pos rfl] at hg
    · rw [if_neg (by rw [getD_set_ne false hiz, hzf]; simp)]
      rw [if_neg hiz] at hg
      obtain ⟨hB', hMW, hFx⟩ := hg
      cases hdst : o.dst with
      | none =>
        refine ⟨v, rfl, hB', fun j hj => ?_⟩
        by_cases h : j = i
        · subst h
          have hv : valOf ops v j = undef := by simp [valOf, dstOf, ho, hdst]
          rw [hv]
          rw [hdst] at hFx
          exact hFx
        · rw [getD_set_ne false (Ne.symm h)] at hj
          exact hM j _ W W' hBW hMW (hF j hj)
      | some d =>
        have hdo : dstOf ops i = some d := by simp [dstOf, ho, hdst]
        refine ⟨upv v d x, fill_put (regB_in hr hdo), hB', fun j hj => ?_⟩
        by_cases h : j = i
        · subst h
          have hv : valOf ops (upv v d x) j = x := by simp only [valOf, hdo, upv_same]
          rw [hv]
          rw [hdst] at hFx
          exact hFx
        · rw [getD_set_ne false (Ne.symm h)] at hj
          rw [valOf_up hr hdo h]
          exact hM j _ W W' hBW hMW (hF j hj)
  · intro l a W hI hall
    have hz : z < ops.size := by
      simp only [regB, Bool.and_eq_true, decide_eq_true_eq] at hr
      exact hr.2
    rwa [if_pos (hall z hz)] at hI
  · simp
  · intro j oj _ hl
    rw [getD_replicate_false] at hl
    cases hl
  · rw [if_neg (by rw [getD_replicate_false]; simp)]
    exact ⟨_, (fill_start a0 m).symm, hB, fun j hj => by rw [getD_replicate_false] at hj; cases hj⟩
/-- The form of a region without a last operation. -/
def regB0 (ops : Array Oper) (m : List Bool) : Bool :=
  backB ops && (List.range ops.size).all (fun j => (match dstOf ops j with | some d => m.getD d false | none => true) && (List.range j).all fun i => match dstOf ops i, dstOf ops j with | some d, some e => d != e | _, _ => true)
theorem regB0_back {m : List Bool} (h : regB0 ops m = true) : backB ops = true := by
  simp only [regB0, Bool.and_eq_true] at h
  exact h.1
theorem regB0_in {m : List Bool} (h : regB0 ops m = true) {j d : Nat} (hj : dstOf ops j = some d) : m.getD d false = true := by
  simp only [regB0, Bool.and_eq_true] at h
  have hlt : j < ops.size := by
    rcases Nat.lt_or_ge j ops.size with h' | h'
    · exact h'
    · simp [dstOf, Array.getElem?_eq_none h'] at hj
  have := List.all_eq_true.1 h.2 j (List.mem_range.2 hlt)
  simp only [hj, Bool.and_eq_true] at this
  exact this.1
theorem regB0_ne {m : List Bool} (h : regB0 ops m = true) {i j d e : Nat} (hi : dstOf ops i = some d) (hj : dstOf ops j = some e) (hne : i ≠ j) : d ≠ e := by
  simp only [regB0, Bool.and_eq_true] at h
  have lt : ∀ {i d}, dstOf ops i = some d → i < ops.size := fun {i d} hi => by
    rcases Nat.lt_or_ge i ops.size with h' | h'
    · exact h'
    · simp [dstOf, Array.getElem?_eq_none h'] at hi
  have go : ∀ {i j d e : Nat}, dstOf ops i = some d → dstOf ops j = some e → i < j → d ≠ e := fun {i j d e} hi hj hlt => by
    have h1 := List.all_eq_true.1 h.2 j (List.mem_range.2 (lt hj))
    simp only [Bool.and_eq_true] at h1
    have h2 := List.all_eq_true.1 h1.2 i (List.mem_range.2 hlt)
    simp only [hi, hj] at h2
    simpa using h2
  rcases Nat.lt_or_ge i j with h' | h'
  · exact go hi hj h'
  · exact (go hj hi (by omega)).symm
theorem valOf_up0 {m : List Bool} (h : regB0 ops m = true) {v : Nat → Value} {i j d : Nat} {x : Value} (hi : dstOf ops i = some d) (hne : j ≠ i) : valOf ops (upv v d x) j = valOf ops v j := by
  unfold valOf
  cases hj : dstOf ops j with
  | none => rfl
  | some e => exact upv_ne (regB0_ne h hj hi hne)
/-- A region that draws, whatever comes last. -/
theorem wp_region_fin {id : Nat} {a0 : Act} {w : World} (m : List Bool) (hm : P.follows .mixedOrders = true) (hr : regB0 ops m = true) (B : World → Prop) (M : World → World → Prop) (F : Nat → Value → World → Prop)
    (hM : ∀ i x W W', B W → M W W' → F i x W → F i x W') (hB : B w.drew)
    (step : AllOps (fun i o => ∀ v W, B W → (∀ j, Region.reachB .any ops j ops.size i = true → F j (valOf ops v j) W) →
      StepOk P ops Q o (fillA a0 m v) W (fun x W' => B W' ∧ M W W' ∧ F i (match o.dst with | some _ => x | none => undef) W')) ops.toList 0)
    (fin : ∀ v W, B W → (∀ j, j < ops.size → F j (valOf ops v j) W) → Q .normal (fillA a0 m v) W) :
    (Code.region id ops true).wp P Q a0 w := by
  refine wp_region_any hm ?_
  refine wpAny_all (regB0_back hr) (fun l a W => ∃ v, a = fillA a0 m v ∧ B W ∧ ∀ j, l.getD j false = true → F j (valOf ops v j) W) ?_ ?_ ops.size _ _ _ (by simp) ?_ ?_ ?_
  · intro l a W i o hs hcl hI ho hun hd K hK
    have hlt : i < ops.size := (Array.getElem?_eq_some_iff.1 ho).1
    obtain ⟨v, rfl, hBW, hF⟩ := hI
    have hst := AllOps.get step (i := i) (o := o) (by simpa using ho) v W hBW (fun j hj => hF j (by
      rw [Nat.zero_add] at hj
      have hdone : ListedClosed .any ops (l.setIfInBounds i true) := hcl.set (mem_ready.2 ⟨hun, o, ho, hd⟩)
      have h1 := Region.reach_listed hdone _ _ hj (by
        simp only [Array.getD_eq_getD_getElem?, Array.getElem?_setIfInBounds_self_of_lt (show i < l.size by omega), Option.getD_some])
      by_cases h : j = i
      · subst h
        exfalso
        have back : ∀ (fuel d : Nat), Region.reachB .any ops j fuel d = true → j < d := by
          intro fuel
          induction fuel with
          | zero => intro d h; simp [Region.reachB] at h
          | succ fuel ih =>
            intro d h
            unfold Region.reachB at h
            cases hod : ops[d]? with
            | none => rw [hod] at h; simp at h
            | some od =>
              rw [hod] at h
              obtain ⟨e, he, h1⟩ := Array.any_eq_true'.1 h
              simp only [Bool.and_eq_true, Bool.or_eq_true, beq_iff_eq] at h1
              have h2 := backB_spec (regB0_back hr) hod e he h1.1
              rcases h1.2 with h3 | h3
              · omega
              · have := ih _ h3; omega
        have := back _ _ hj
        omega
      · rwa [getD_set_ne false (Ne.symm h)] at h1))
    rw [Nat.zero_add] at hst
    refine hst K fun x W' hg => hK _ _ ?_
    dsimp only at hg
    obtain ⟨hB', hMW, hFx⟩ := hg
    cases hdst : o.dst with
    | none =>
      refine ⟨v, rfl, hB', fun j hj => ?_⟩
      by_cases h : j = i
      · subst h
        have hv : valOf ops v j = undef := by simp [valOf, dstOf, ho, hdst]
        rw [hv]
        rw [hdst] at hFx
        exact hFx
      · rw [getD_set_ne false (Ne.symm h)] at hj
        exact hM j _ W W' hBW hMW (hF j hj)
    | some d =>
      have hdo : dstOf ops i = some d := by simp [dstOf, ho, hdst]
      refine ⟨upv v d x, fill_put (regB0_in hr hdo), hB', fun j hj => ?_⟩
      by_cases h : j = i
      · subst h
        have hv : valOf ops (upv v d x) j = x := by simp only [valOf, hdo, upv_same]
        rw [hv]
        rw [hdst] at hFx
        exact hFx
      · rw [getD_set_ne false (Ne.symm h)] at hj
        rw [valOf_up0 hr hdo h]
        exact hM j _ W W' hBW hMW (hF j hj)
  · intro l a W hI hall
    obtain ⟨v, rfl, hBW, hF⟩ := hI
    exact fin v W hBW (fun j hj => hF j (hall j hj))
  · simp
  · intro j oj _ hl
    rw [getD_replicate_false] at hl
    cases hl
  · exact ⟨_, (fill_start a0 m).symm, hB, fun j hj => by rw [getD_replicate_false] at hj; cases hj⟩
/-- A composite value, by its own run. -/
theorem wpList_build {rest : List Oper} {o : Oper} {a : Act} {w : World} (hg : o.guard = none) (t : TypeId) (ps : Array (Nat × Operand)) (ho : o.op = .build t ps) (vs : Array (Nat × Value)) (hv : (ps.map fun (i, x) => (i, a.eval x)) = vs) (x : Value)
    (hrun : (Instr.build t vs).run P w = .ok x w) (h : wpList P ops Q rest (a.put o.dst x) w) : wpList P ops Q (o :: rest) a w :=
  wpList_plain hg fun K hK => by
    have h1 : (execOp a.eval o).run P w = .ok (.value x) w := by
      unfold execOp
      simp only [ho, hv, Sem.run_bind, Sem.run_pure, Result.andThen_ok, hrun]
    unfold Oper.wp
    rw [h1]
    exact hK _ _ h
end
end Go.Proofs.Ytbgiccbegcepcaa.RI
