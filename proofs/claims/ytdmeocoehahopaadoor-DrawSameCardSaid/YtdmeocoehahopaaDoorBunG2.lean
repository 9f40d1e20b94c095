/- Texts put together: QuietTail, Ten1, Top, Top2, ShaPure, ArrEq, ShaTurn, Queue. -/
import Derived.Test.YtdmeocoehahopaaDoorBunG1
import Derived.Deep.QuietTactic
import Derived.BigQuiet
import Derived.Deep.MidRow
import Derived.Laws.EntriesVeiled
import Derived.Laws.StructEq
import Derived.StillTailTactics
set_option linter.unusedVariables false
set_option linter.unusedSimpArgs false
namespace Go.Proofs.YtdmeocoehahopaaDoor.K
open Go
section
variable {P : Program} {Q : Exit → Act → World → Prop} {C : World → Prop}
/-- The store's stand-in: it waits as the store does, and does nothing. -/
def stood (o : Oper) : Oper := { dst := none, op := .assign (.const (.bool true)), type := 0, pos := "", after := o.after, guard := none }
theorem snoc_at (l : List Oper) (o : Oper) (i : Nat) (hi : i < l.length) : (l ++ [o]).toArray[i]? = l[i]? := by
  rw [List.getElem?_toArray, List.getElem?_append_left hi]
theorem snoc_last (l : List Oper) (o : Oper) : (l ++ [o]).toArray[l.length]? = some o := by
  rw [List.getElem?_toArray, List.getElem?_append_right (Nat.le_refl _), Nat.sub_self]
  rfl
theorem stood_ready (l : List Oper) (o : Oper) (listed : Array Bool) : Region.ready .any (l ++ [stood o]).toArray listed = Region.ready .any (l ++ [o]).toArray listed := by
  unfold Region.ready
  have hs : (l ++ [stood o]).toArray.size = (l ++ [o]).toArray.size := by simp
  rw [hs]
  refine List.filter_congr fun i hi => ?_
  have hi' : i < l.length + 1 := by simpa using hi
  rcases Nat.lt_or_ge i l.length with h | h
  · rw [snoc_at _ _ _ h, snoc_at _ _ _ h]
  · obtain rfl : i = l.length := by omega
    rw [snoc_last, snoc_last]
    rfl
theorem stood_yielded (l : List Oper) (o : Oper) (hd : o.dst = none) (tmps : Array Value) : yielded (l ++ [stood o]).toArray tmps = yielded (l ++ [o]).toArray tmps := by
  funext j
  unfold yielded
  rcases Nat.lt_or_ge j l.length with h | h
  · rw [snoc_at _ _ _ h, snoc_at _ _ _ h]
  · rcases Nat.lt_or_ge l.length j with h2 | h2
    · rw [Array.getElem?_eq_none (by simp; omega), Array.getElem?_eq_none (by simp; omega)]
    · obtain rfl : j = l.length := by omega
      rw [snoc_last, snoc_last, Option.bind_some, Option.bind_some, hd]
      rfl
/-- The store comes up behind all others. -/
theorem last_ready (l : List Oper) (o : Oper) (listed : Array Bool) (hall : ((List.range l.length).all fun i => o.after.any fun e => Region.binds .any e && e.on == i) = true) (hr : l.length ∈ Region.ready .any (l ++ [o]).toArray listed) :
    ∀ i, i < l.length → listed.getD i false = true := by
  intro i hi
  unfold Region.ready at hr
  rw [List.mem_filter, snoc_last] at hr
  obtain ⟨_, h2⟩ := hr
  simp only [Option.map_some, Option.getD_some, Bool.and_eq_true] at h2
  have h3 := List.all_eq_true.1 hall i (List.mem_range.2 hi)
  obtain ⟨j, hj, h4⟩ := Array.any_eq_true.1 h3
  have h5 := Array.all_eq_true.1 h2.2 j hj
  simp only [Bool.and_eq_true, beq_iff_eq] at h4
  rw [h4.1, h4.2] at h5
  simpa using h5
theorem none_ready (l : List Oper) (o : Oper) (listed : Array Bool) (h : ∀ i, i < l.length → listed.getD i false = true) (h2 : listed.getD l.length true = true) : Region.ready .any (l ++ [o]).toArray listed = [] := by
  unfold Region.ready
  rw [List.filter_eq_nil_iff]
  intro i hi
  have hi' : i < l.length + 1 := by simpa using hi
  rcases Nat.lt_or_ge i l.length with h3 | h3
  · have h4 := h i h3
    have h5 : listed.getD i true = true := by
      rcases Nat.lt_or_ge i listed.size with h6 | h6
      · simpa [h6] using h4
      · simp [Array.getElem?_eq_none h6] at h4
    simp [h5]
  · obtain rfl : i = l.length := by omega
    simp [h2]
theorem set_getD (listed : Array Bool) (i j : Nat) (d : Bool) (h : listed.getD j d = true) : (listed.setIfInBounds i true).getD j d = true := by
  by_cases hij : i = j
  · subst hij
    rcases Nat.lt_or_ge i listed.size with h6 | h6
    · simp [h6]
    · simpa [Array.getElem?_eq_none h6, h6] using h
  · simpa [Array.getElem?_setIfInBounds_ne hij] using h
theorem set_getD_self (listed : Array Bool) (i : Nat) : (listed.setIfInBounds i true).getD i true = true := by
  rcases Nat.lt_or_ge i listed.size with h6 | h6
  · simp [h6]
  · simp [h6]
/-- Every operation waits for elder ones alone. -/
def ordered (l : List Oper) : Bool := (List.range l.length).all fun i => ((l[i]?).map fun o => o.after.all fun e => !Region.binds .any e || decide (e.on < i)).getD true
theorem some_ready (l : List Oper) (ho : ordered l = true) (listed : Array Bool) (hs : listed.size = l.length) : ∀ k, k ≤ l.length → (∀ i, i < k → listed.getD i false = true) ∨ ∃ i, i < k ∧ i ∈ Region.ready .any l.toArray listed := by
  intro k
  induction k with
  | zero => intro _; exact .inl fun i hi => absurd hi (Nat.not_lt_zero _)
  | succ k ih =>
    intro hk
    rcases ih (by omega) with h | ⟨i, hi, hr⟩
    · cases hb : listed.getD k false with
      | true =>
        refine .inl fun i hi => ?_
        rcases Nat.lt_or_ge i k with h1 | h1
        · exact h i h1
        · obtain rfl : i = k := by omega
          exact hb
      | false =>
        refine .inr ⟨k, Nat.lt_succ_self k, ?_⟩
        unfold Region.ready
        rw [List.mem_filter]
        have hkl : k < l.length := by omega
        have h1 := List.all_eq_true.1 ho k (List.mem_range.2 hkl)
        rw [List.getElem?_eq_getElem hkl] at h1
        simp only [Option.map_some, Option.getD_some] at h1
        refine ⟨by rw [List.mem_range]; simpa using hkl, ?_⟩
        rw [List.getElem?_toArray, List.getElem?_eq_getElem hkl]
        simp only [Option.map_some, Option.getD_some, Bool.and_eq_true]
        have hks : k < listed.size := by omega
        refine ⟨?_, ?_⟩
        · have h2 : listed[k] = false := by simpa [hks] using hb
          simp [hks, h2]
        · rw [Array.all_eq_true]
          intro j hj
          have h2 := Array.all_eq_true.1 h1 j hj
          simp only [Bool.or_eq_true, decide_eq_true_eq] at h2 ⊢
          exact h2.imp id fun h3 => h _ h3
    · exact .inr ⟨i, by omega, hr⟩
theorem wpAny_stood (l : List Oper) (o : Oper) (hd : o.dst = none) (ho : ordered (l ++ [stood o]) = true) (hall : ((List.range l.length).all fun i => o.after.any fun e => Region.binds .any e && e.on == i) = true) :
    ∀ (fuel : Nat) (listed : Array Bool) (a : Act) (w : World), C w → listed.size = l.length + 1 → listed.getD l.length true = false →
      wpAnyQ P .any (l ++ [stood o]).toArray C (fun a' => ∀ w', C w' → wpList P (l ++ [o]).toArray Q [o] a' w') fuel listed a → wpAny P .any (l ++ [o]).toArray Q fuel listed a w := by
  intro fuel
  induction fuel with
  | zero =>
    intro listed a w hC hs hun h
    exfalso
    rcases some_ready _ ho listed (by simpa using hs) (l.length + 1) (by simp) with h1 | ⟨i, _, h1⟩
    · have h2 := h1 l.length (Nat.lt_succ_self _)
      have hks : l.length < listed.size := by omega
      simp [hks] at hun h2
      rw [hun] at h2
      cases h2
    · rw [h.1] at h1
      cases h1
  | succ fuel ih =>
    intro listed a w hC hs hun h
    have hrd := stood_ready l o listed
    have hlast : ∀ i, i ∈ Region.ready .any (l ++ [o]).toArray listed → i < l.length ∨ i = l.length := fun i hi => by
      unfold Region.ready at hi
      have := List.mem_range.1 (List.mem_filter.1 hi).1
      simp at this
      omega
    refine ⟨fun hr => ?_, fun i hi => ?_⟩
    · exfalso
      rcases some_ready _ ho listed (by simpa using hs) (l.length + 1) (by simp) with h1 | ⟨i, _, h1⟩
      · have h2 := h1 l.length (Nat.lt_succ_self _)
        have hks : l.length < listed.size := by omega
        simp [hks] at hun h2
        rw [hun] at h2
        cases h2
      · rw [hrd, hr] at h1
        cases h1
    · have hq := h.2 i (by rw [hrd]; exact hi)
      rcases hlast i hi with hlt | rfl
      · have hw := wpOp_of_qOp (Q' := Q) (K' := wpAny P .any (l ++ [o]).toArray Q fuel (listed.setIfInBounds i true)) hC
          (fun a' w' hC' hk => ih _ a' w' hC' (by simpa using hs) (by simpa [Array.getElem?_setIfInBounds_ne (show i ≠ l.length by omega)] using hun) hk) hq
        unfold wpOp at hw ⊢
        rw [snoc_at _ _ _ hlt] at hw ⊢
        rw [stood_yielded _ _ hd] at hw
        exact hw
      · have hl := last_ready l o listed hall hi
        have hnone : Region.ready .any (l ++ [o]).toArray (listed.setIfInBounds l.length true) = [] := none_ready l o _ (fun i hi => set_getD _ _ _ _ (hl i hi)) (set_getD_self _ _)
        have hnone' : Region.ready .any (l ++ [stood o]).toArray (listed.setIfInBounds l.length true) = [] := by rw [stood_ready, hnone]
        have hQ : ∀ w', C w' → wpList P (l ++ [o]).toArray Q [o] a w' := by
          unfold qOp at hq
          rw [snoc_last] at hq
          have hwt : Region.wanted (stood o) (yielded (l ++ [stood o]).toArray a.tmps) = true := rfl
          simp only [hwt, if_true] at hq
          obtain ⟨v, _, h2⟩ := hq
          have h3 : wpAnyQ P .any (l ++ [stood o]).toArray C (fun a' => ∀ w', C w' → wpList P (l ++ [o]).toArray Q [o] a' w') fuel (listed.setIfInBounds l.length true) a := h2
          cases fuel with
          | zero => exact h3.2
          | succ fuel => exact h3.1 hnone'
        have hK : ∀ a' w', Q .normal a' w' → wpAny P .any (l ++ [o]).toArray Q fuel (listed.setIfInBounds l.length true) a' w' := by
          intro a' w' hn
          cases fuel with
          | zero => exact ⟨hnone, hn⟩
          | succ fuel => exact ⟨fun _ => hn, fun i hi => by rw [hnone] at hi; cases hi⟩
        have hl2 := hQ w hC
        unfold wpOp
        rw [snoc_last]
        unfold wpList at hl2
        simp only at hl2 ⊢
        split at hl2
        · rename_i hw
          simp only [hw, if_true]
          exact hl2.imp (Oper.wp_mono hK) id
        · rename_i hw
          simp only [hw]
          exact hK _ _ hl2
theorem wpQuiet_append {ops : Array Oper} {Q : Act → Prop} : ∀ (l1 l2 : List Oper) (a : Act), wpQuiet P ops C (wpQuiet P ops C Q l2) l1 a → wpQuiet P ops C Q (l1 ++ l2) a
  | [], _, _, h => h
  | o :: l1, l2, a, h => by
    unfold wpQuiet at h
    show wpQuiet P ops C Q (o :: (l1 ++ l2)) a
    unfold wpQuiet
    split at h
    · rename_i hw
      rw [if_pos hw]
      exact Oper.quiet_mono (fun a' h' => wpQuiet_append l1 l2 a' h') h
    · rename_i hw
      rw [if_neg hw]
      exact wpQuiet_append l1 l2 _ h
theorem wpQuiet_imp {ops : Array Oper} {Q Q' : Act → Prop} (hQ : ∀ a, Q a → Q' a) : ∀ (l : List Oper) (a : Act), wpQuiet P ops C Q l a → wpQuiet P ops C Q' l a
  | [], _, h => hQ _ h
  | o :: l, a, h => by
    unfold wpQuiet at h ⊢
    split at h
    · rename_i hw
      rw [if_pos hw]
      exact Oper.quiet_mono (fun a' h' => wpQuiet_imp hQ l a' h') h
    · rename_i hw
      rw [if_neg hw]
      exact wpQuiet_imp hQ l _ h
theorem stood_quiet (o : Oper) (ops : Array Oper) {Q : Act → Prop} {a : Act} (h : Q a) : wpQuiet P ops C Q [stood o] a := by
  unfold wpQuiet
  rw [if_pos (show Region.wanted (stood o) (yielded ops a.tmps) = true from rfl)]
  refine ⟨.bool true, fun w _ => ?_, h⟩
  unfold Oper.quietAt
  show Oper.quietUpon P C w (.bool true) ((execOp a.eval (stood o)).run P w)
  simp [execOp, stood, Oper.quietUpon, go_sem]
/-- READS AND QUIET CALLS, AND ONE STORE BEHIND THEM ALL: the walk of the text's order serves every order. -/
theorem wp_region_quiet_store {id : Nat} {a : Act} {w : World} {L : List Oper} (n : Nat) (hm : P.follows .mixedOrders = true) {o : Oper} (hL : L.drop n = [o]) (hd : o.dst = none)
    (hB : (Region.lexB .any (L.take n ++ [stood o]).toArray && ordered (L.take n ++ [stood o]) && (List.range (L.take n).length).all fun i => o.after.any fun e => Region.binds .any e && e.on == i) = true)
    (h : wpQuiet P (L.take n ++ [stood o]).toArray (fun w' => ∃ n, w' = w.drewN n) (fun a' => ∀ w', (∃ n, w' = w.drewN n) → wpList P L.toArray Q [o] a' w') (L.take n) a) : (Code.region id L.toArray true).wp P Q a w := by
  simp only [Bool.and_eq_true] at hB
  obtain ⟨⟨h1, h2⟩, h3⟩ := hB
  have hLL : L = L.take n ++ [o] := by rw [← hL, List.take_append_drop]
  generalize L.take n = l at *
  subst hLL
  refine wp_region_any hm ?_
  simp only [Region.lexB, Bool.and_eq_true] at h1
  have hq := wpAnyQ_lex (C := fun w' => ∃ n, w' = w.drewN n) (md := .any) h1.1 (l ++ [stood o]) 0 (Array.replicate (l ++ [stood o]).toArray.size false) a (by simp) (by simpa using h1.2)
    (wpQuiet_append l [stood o] a (by
      refine wpQuiet_imp ?_ l a h
      exact fun a' h' => stood_quiet o _ h'))
  have := wpAny_stood (Q := Q) l o hd h2 h3 (l ++ [stood o]).length (Array.replicate (l ++ [stood o]).toArray.size false) a { w with drawn := w.drawn + 1 } ⟨1, rfl⟩ (by simp) (by simp) hq
  simpa using this
end
end Go.Proofs.YtdmeocoehahopaaDoor.K
namespace Go.Proofs.YtdmeocoehahopaaDoor.Ten
open Go.RowKit Go.Proofs.YtdmeocoehahopaaDoorW.PrintWords Go.Proofs.YtdmeocoehahopaaDoorW.PrintLast Go.Proofs.YtdmeocoehahopaaDoorW.PrintMore Go.Proofs.YtdmeocoehahopaaDoor.K Go.Proofs.YtdmeocoehahopaaDoor.Fixed
set_option linter.unusedVariables false
set_option linter.unusedSimpArgs false
set_option maxHeartbeats 1000000 in
theorem tnumber_calls (x : Int) (w : World) :
    Calls Tryd.prog 58 #[.int .i64 x] w fun e w' => e = .returned (.bool (inR x)) ∧ Below w.heap.size w w' := by
  cases hx : inR x with
  | true =>
    go_enter Tryd.func58, Tryd.ntmps58
    go_wp2_with (fail)
    refine (Check_calls x w 0 (by rw [hx]; rfl)).mono ?_
    rintro e w' ⟨rfl, hb⟩
    go_wp2
    go_ret
    exact ⟨rfl, hb⟩
  | false =>
    go_enter Tryd.func58, Tryd.ntmps58
    go_wp2_with (fail)
    refine (Check_calls x w 10 (by rw [hx]; rfl)).mono ?_
    rintro e w' ⟨rfl, hb⟩
    go_wp2
    go_ret
    exact ⟨rfl, hb⟩
/-- A function value that tells of a number whether it is so, and makes memory at the most. -/
def Tells (fid : Nat) (fa lb : Array Value) (p : Int → Bool) (w : World) : Prop := ∀ x W, Below w.heap.size w W → Calls Tryd.prog fid (fa ++ #[.int .i64 x] ++ lb) W fun e W' => e = .returned (.bool (p x)) ∧ Below W.heap.size W W'
theorem any_take_succ {p : Int → Bool} {l : List Int} {k : Nat} (h : k < l.length) (hk : (l.take k).any p = false) : (l.take (k + 1)).any p = p (l.getD k 0) := by
  rw [List.take_succ_eq_append_getElem h, List.any_append, hk, List.getD_eq_getElem?_getD, List.getElem?_eq_getElem h]
  simp
theorem any_of_take {p : Int → Bool} {l : List Int} {k : Nat} (h : (l.take k).any p = true) : l.any p = true := by
  rw [← List.take_append_drop k l, List.any_append, h, Bool.true_or]
set_option maxHeartbeats 4000000 in
set_option maxRecDepth 100000 in
theorem indexf_calls (fid : Nat) (fa lb : Array Value) (p : Int → Bool) (A : Option Addr) (c : Nat) (l : List Int) (w : World) (hC : Kd.C (Kd.int .i64) w A l.length l) (eg : ∀ args w, (callFunc fid args).run Tryd.prog w = .ok (.enter fid args) w) (ht : Tells fid fa lb p w) :
    Calls Tryd.prog 72 #[.slice A l.length c, .func (.func fid) fa lb] w fun e w' => ∃ i : Int, e = .returned (.int .i64 i) ∧ decide (0 ≤ i) = l.any p ∧ Below w.heap.size w w' := by
  have HC := Aside0.mk hC
  have HT := Aside0.mk ht
  have hm := hC.2.1
  clear hC ht
  go_enter Tryd.func72, Tryd.ntmps72
  go_wp2_with (fail)
  go_loopw [8] (fun i wr => ∃ k : Nat, k ≤ l.length ∧ i = .int .i64 k ∧ Aside0 ((l.take k).any p = false ∧ Below w.heap.size w wr)) (fun i _ => l.length - (intOf i).toNat)
  case atStart => exact ⟨0, Nat.zero_le _, rfl, ⟨by simp, Below.refl _ _⟩⟩
  case round =>
    obtain ⟨k, hk, rfl, HR⟩ := hrel
    by_cases hlt : k < l.length
    · obtain ⟨ad, rfl, hc⟩ := int_at' HC.out HR.out.2 k hlt
      have HS := Aside0.mk (any_take_succ hlt HR.out.1)
      generalize l.getD k 0 = x at *
      go_wp2_with (fail)
      refine (HT.out x wr HR.out.2).mono ?_
      rintro e w1 ⟨rfl, hb⟩
      have HB := Aside0.mk (below_step HR.out.2 hb)
      clear hb hc
      cases hp : p x with
      | true =>
        have HF : Aside0 (l.any p = true) := ⟨any_of_take (by rw [HS.out, hp])⟩
        clear hp
        go_wp2
        go_ret
        exact ⟨_, rfl, by rw [HF.out]; simp, HB.out⟩
      | false =>
        have HF : Aside0 ((l.take (k + 1)).any p = false) := ⟨by rw [HS.out, hp]⟩
        clear hp
        go_wp2
        go_roundw
        case rel => exact ⟨k + 1, by omega, by go_num, ⟨HF.out, HB.out⟩⟩
        case measure => simp [intOf]; omega
    · obtain rfl : k = l.length := by omega
      have HF : Aside0 (l.any p = false) := ⟨by have := HR.out.1; rwa [List.take_of_length_le (Nat.le_refl _)] at this⟩
      go_wp2
      go_ret
      exact ⟨_, rfl, by rw [HF.out]; rfl, HR.out.2⟩
set_option maxHeartbeats 4000000 in
theorem containsf_calls (fid : Nat) (fa lb : Array Value) (p : Int → Bool) (A : Option Addr) (c : Nat) (l : List Int) (w : World) (hC : Kd.C (Kd.int .i64) w A l.length l) (eg : ∀ args w, (callFunc fid args).run Tryd.prog w = .ok (.enter fid args) w) (ht : Tells fid fa lb p w) :
    Calls Tryd.prog 66 #[.slice A l.length c, .func (.func fid) fa lb] w fun e w' => e = .returned (.bool (l.any p)) ∧ Below w.heap.size w w' := by
  go_enter Tryd.func66, Tryd.ntmps66
  go_wp2_with (fail)
  refine (indexf_calls fid fa lb p A c l w hC eg ht).mono ?_
  rintro e w' ⟨i, rfl, hi, hb⟩
  have HI := Aside0.mk hi
  have HB := Aside0.mk hb
  clear hi hb hC ht eg
  go_wp2
  go_ret
  exact ⟨congrArg (fun b => Ending.returned (Value.bool b)) HI.out, HB.out⟩
set_option maxHeartbeats 4000000 in
theorem not1_calls (fid : Nat) (fa lb : Array Value) (p : Int → Bool) (Bx : Nat) (x : Int) (w : World) (hbx : w.heap[Bx]? = some (.cells #[.func (.func fid) fa lb] 82 (0, 0))) (eg : ∀ args w, (callFunc fid args).run Tryd.prog w = .ok (.enter fid args) w)
    (ht : Calls Tryd.prog fid (fa ++ #[.int .i64 x] ++ lb) w fun e W' => e = .returned (.bool (p x)) ∧ Below w.heap.size w W') :
    Calls Tryd.prog 67 #[.int .i64 x, .pointer (some ⟨Bx, 0, none⟩)] w fun e w' => e = .returned (.bool (!p x)) ∧ Below w.heap.size w w' := by
  have hc := blk_cell hbx 0
  simp only [List.getElem?_toArray, List.getElem?_cons_zero] at hc
  have HT := Aside0.mk ht
  clear ht hbx
  go_enter Tryd.func67, Tryd.ntmps67
  go_wp2_with (fail)
  refine HT.out.mono ?_
  rintro e w' ⟨rfl, hb⟩
  go_wp2
  go_ret
  exact ⟨rfl, hb⟩
set_option maxHeartbeats 4000000 in
theorem all_calls (fid : Nat) (fa lb : Array Value) (p : Int → Bool) (A : Option Addr) (c : Nat) (l : List Int) (w : World) (hC : Kd.C (Kd.int .i64) w A l.length l) (eg : ∀ args w, (callFunc fid args).run Tryd.prog w = .ok (.enter fid args) w) (ht : Tells fid fa lb p w) :
    Calls Tryd.prog 57 #[.slice A l.length c, .func (.func fid) fa lb] w fun e w' => e = .returned (.bool (l.all p)) ∧ Below w.heap.size w w' := by
  have HB0 : Aside0 (Below w.heap.size w (w.alloc (.cells #[.func (.func fid) fa lb] 82))) := ⟨bel_alloc (Below.refl _ _) _⟩
  have hbx : (w.alloc (.cells #[.func (.func fid) fa lb] 82)).heap[w.heap.size]? = some (.cells #[.func (.func fid) fa lb] 82 (0, 0)) := heap_alloc_new _ _
  have HC := Aside0.mk (containsf_calls 67 #[] #[.pointer (some ⟨w.heap.size, 0, none⟩)] (fun x => !p x) A c l _ (Kd.C_below hC HB0.out) (enters_ Tryd.func67 (by kernel_rfl) rfl)
    (fun x W hb => not1_calls fid fa lb p w.heap.size x W ((hb.block _ (blk_lt hbx)).trans hbx) eg (ht x W (below_step HB0.out hb))))
  have HA : Aside0 ((!(l.any fun x => !p x)) = l.all p) := ⟨by rw [List.not_any_eq_all_not]; simp⟩
  clear hC ht hbx eg
  go_enter Tryd.func57, Tryd.ntmps57
  go_wp2_with (fail)
  refine HC.out.mono ?_
  rintro e w' ⟨rfl, hb⟩
  have HB := Aside0.mk (below_step HB0.out hb)
  clear hb
  go_wp2
  go_ret
  exact ⟨congrArg (fun b => Ending.returned (Value.bool b)) HA.out, HB.out⟩
def checkV (l : List Int) : Int := if l.length = 0 ∨ 512 < l.length then 13 else if l.all inR = true then 0 else 10
theorem checkV_size {l : List Int} (h : l.length = 0 ∨ 512 < l.length) : checkV l = 13 := if_pos h
theorem checkV_ok {l : List Int} (h : ¬ (l.length = 0 ∨ 512 < l.length)) (h2 : l.all inR = true) : checkV l = 0 := by rw [checkV, if_neg h, if_pos h2]
theorem checkV_bad {l : List Int} (h : ¬ (l.length = 0 ∨ 512 < l.length)) (h2 : l.all inR = false) : checkV l = 10 := by rw [checkV, if_neg h, if_neg (by rw [h2]; simp)]
set_option maxHeartbeats 4000000 in
theorem tcheck_calls (A : Option Addr) (c : Nat) (l : List Int) (w : World) (hC : Kd.C (Kd.int .i64) w A l.length l) :
    Calls Tryd.prog 45 #[.slice A l.length c] w fun e w' => e = .returned (.int .i64 (checkV l)) ∧ Below w.heap.size w w' := by
  have HC := Aside0.mk (all_calls 58 #[] #[] inR A c l w hC (enters_ Tryd.func58 (by kernel_rfl) rfl) (fun x W hb => tnumber_calls x W))
  by_cases h0 : l.length = 0
  · have HV := Aside0.mk (checkV_size (l := l) (.inl h0))
    have hD : ((l.length : Int) == 0) = true := by simp [h0]
    clear hC
    go_enter Tryd.func45, Tryd.ntmps45
    go_wp2
    go_ret
    exact ⟨congrArg (fun x => Ending.returned (Value.int .i64 x)) HV.out.symm, Below.refl _ _⟩
  · have hD : ((l.length : Int) == 0) = false := by simp; exact fun h => h0 (by rw [h]; rfl)
    by_cases h1 : 512 < l.length
    · have HV := Aside0.mk (checkV_size (l := l) (.inr h1))
      have hD1 : decide (512 < (l.length : Int)) = true := by simp; omega
      clear hC h0
      go_enter Tryd.func45, Tryd.ntmps45
      go_wp2
      go_ret
      exact ⟨congrArg (fun x => Ending.returned (Value.int .i64 x)) HV.out.symm, Below.refl _ _⟩
    · have hD1 : decide (512 < (l.length : Int)) = false := by simp; omega
      have HN : Aside0 (¬ (l.length = 0 ∨ 512 < l.length)) := ⟨by omega⟩
      clear hC h0 h1
      go_enter Tryd.func45, Tryd.ntmps45
      go_wp2_with (fail)
      refine HC.out.mono ?_
      rintro e w' ⟨rfl, hb⟩
      have HB := Aside0.mk hb
      clear hb
      cases hp : l.all inR with
      | true =>
        have HV := Aside0.mk (checkV_ok HN.out hp)
        clear hp
        go_wp2
        go_ret
        exact ⟨congrArg (fun x => Ending.returned (Value.int .i64 x)) HV.out.symm, HB.out⟩
      | false =>
        have HV := Aside0.mk (checkV_bad HN.out hp)
        clear hp
        go_wp2
        go_ret
        exact ⟨congrArg (fun x => Ending.returned (Value.int .i64 x)) HV.out.symm, HB.out⟩
end Go.Proofs.YtdmeocoehahopaaDoor.Ten
namespace Go.Proofs.YtdmeocoehahopaaDoor.Top
open Go.RowKit Go.Proofs.YtdmeocoehahopaaDoorW.PrintWords Go.Proofs.YtdmeocoehahopaaDoorW.PrintLast Go.Proofs.YtdmeocoehahopaaDoorW.PrintMore Go.Proofs.YtdmeocoehahopaaDoor.K Go.Proofs.YtdmeocoehahopaaDoor.RI Go.Proofs.YtdmeocoehahopaaDoor.Sort Go.Proofs.YtdmeocoehahopaaDoor.CloneI Go.Proofs.YtdmeocoehahopaaDoor.Ten Go.Proofs.YtdmeocoehahopaaDoor.Fixed
set_option linter.unusedVariables false
set_option linter.unusedSimpArgs false
theorem dat_reads {W : World} {g c : Nat} {xs : List Int} (h : Dat W g c xs) (hm : xs.length ≤ 9223372036854775807) : Kd.C (Kd.int .i64) W (some ⟨g, 0, none⟩) xs.length xs := by
  refine C_int ⟨rfl, hm, fun _ => ⟨_, rfl, fun j hj => ?_⟩⟩
  rw [add_plain]
  exact (h.at_ j hj).1
/-- A row of the call's own, as a block's cells. -/
theorem R_dat {W : World} {B : Nat} {v : Value} {xs : List Int} (h : Kd.R (Kd.int .i64) 3 W B (fun _ => True) v xs) (hp : 0 < xs.length) : ∃ g c, v = .slice (some ⟨g, 0, none⟩) xs.length c ∧ B ≤ g ∧ g < W.heap.size ∧ xs.length ≤ c ∧ c ≤ maxLen ∧ Dat W g c xs := by
  have hown := own_int h
  rcases hown.2 with ⟨rfl, h0⟩ | ⟨g, cap, cur, rfl, hb, hc, hle, hmx, hsz, hcur⟩
  · omega
  · have hlen : xs.length ≤ cur.size := by rw [hsz]; omega
    refine ⟨g, cap, rfl, hb, blk_lt hc, hle, hmx, ⟨fun j hj => ⟨?_, blk_frozen hc j⟩, ⟨cur, hc, by rw [hsz, Nat.mul_one]⟩⟩⟩
    refine (blk_cell hc j).trans ?_
    have h1 : (cur.toList.take (xs.length * 1))[j]? = (nums .i64 xs)[j]? := by rw [hcur]
    rw [List.getElem?_take_of_lt (by omega)] at h1
    rw [Array.getElem?_toList] at h1
    rw [h1, nums, List.getElem?_map, List.getElem?_eq_getElem hj, List.getD_eq_getElem?_getD, List.getElem?_eq_getElem hj]
    rfl
theorem dat_below {B g c N : Nat} {w w' : World} {xs : List Int} (h : DatM B g c w w' xs) (h1 : N ≤ w.heap.size) (h2 : N ≤ g) : Below N w w' :=
  ⟨h.bel.os, h.bel.tape, h.bel.output, h.keep.1, fun k hk => h.keep.2 k (by omega) (by omega) (by simp)⟩
/-- The answer of the sort at a comparison. -/
def Sorts (fid : Nat) (fa lb : Array Value) (cf : Int → Int → Int) (D : Int → Prop) (B : Nat) (xs ys : List Int) : Prop := ∀ (g c : Nat) (w : World), Cmp fid fa lb cf D B g w → Dat w g c xs → B ≤ g →
  Calls Tryd.prog 60 #[.slice (some ⟨g, 0, none⟩) xs.length c, .func (.func fid) fa lb] w fun e w' => e = .returned (.tuple #[]) ∧ DatM B g c w w' ys
set_option maxHeartbeats 4000000 in
set_option maxRecDepth 100000 in
theorem first_calls (fid : Nat) (fa lb : Array Value) (cf : Int → Int → Int) (D : Int → Prop) (B : Nat) (A : Option Addr) (c k : Nat) (xs ys : List Int) (w : World) (hC : Kd.C (Kd.int .i64) w A xs.length xs) (hp : 0 < xs.length) (hx : xs.length ≤ 1000000) (hk : k ≤ xs.length) (hy : ys.length = xs.length) (hS : Sorts fid fa lb cf D B xs ys) (hB : B ≤ w.heap.size)
    (hCmp : ∀ g W, w.heap.size ≤ g → Below w.heap.size w W → Cmp fid fa lb cf D B g W) :
    Calls Tryd.prog 47 #[.agg #[.slice A xs.length c, .func (.func fid) fa lb], .int .i64 (k : Int)] w fun e w' => ∃ A' c', e = .returned (.slice A' k c') ∧ Kd.Q (Kd.int .i64) 3 w' w.heap.size (fun _ => True) (.slice A' k c') (ys.take k) ∧ Below w.heap.size w w' := by
  have HC := Aside0.mk hC
  have HB1 : Aside0 (∀ o : Obj, Below w.heap.size w (w.alloc o)) := ⟨fun o => bel_alloc (Below.refl _ _) _⟩
  clear hC
  go_enter Tryd.func47, Tryd.ntmps47
  go_wp2_with (fail)
  refine (clonei_calls A xs.length c xs _ (Kd.C_below HC.out (HB1.out _)) hx).mono ?_
  rintro e w2 ⟨v0, rfl, hR, hb⟩
  obtain ⟨g, c0, rfl, hg, hlt, hle, hmx, hdat⟩ := R_dat hR hp
  have hbx : w2.heap[w.heap.size]? = some (.cells #[.slice A xs.length c, .func (.func fid) fa lb] 79 (0, 0)) := (hb.block _ (blk_lt (heap_alloc_new _ _))).trans (heap_alloc_new _ _)
  have hc1 := blk_cell hbx 1
  simp only [List.getElem?_toArray, List.getElem?_cons_succ, List.getElem?_cons_zero] at hc1
  have hg0 : w.heap.size ≤ g := by rw [World.size_alloc] at hg; omega
  have HBw : Aside0 (Below w.heap.size w w2) := ⟨below_step (HB1.out _) hb⟩
  have HSort := Aside0.mk (hS g c0 w2 (hCmp g w2 hg0 HBw.out) hdat (Nat.le_trans hB hg0))
  have HG := Aside0.mk hg0
  have HLe := Aside0.mk hle
  have HMx := Aside0.mk hmx
  clear hR hb hg hlt hdat hbx hg0 hS hCmp hle hmx
  go_wp2_with (fail)
  refine HSort.out.mono ?_
  rintro e w3 ⟨rfl, hm⟩
  have HM := Aside0.mk hm
  have hkc : k ≤ c0 := by have := HLe.out; omega
  clear hm hc1
  have hk0 : (0 : Int) ≤ (k : Int) := by omega
  have hk1 : (k : Int) ≤ (c0 : Int) := by omega
  go_wp2_with (fail)
  go_ret
  refine ⟨_, _, rfl, ?_, HBw.out.trans (dat_below HM.out HBw.out.size HG.out)⟩
  have h1 := R_int (HM.out.dat.own (by have := HLe.out; omega) HMx.out)
  exact Kd.Q_take (Kd.Q_lower (Kd.Q_of_R h1) HG.out) (by omega)
theorem first_n_calls (fid : Nat) (fa lb : Array Value) (cf : Int → Int → Int) (D : Int → Prop) (B : Nat) (A : Option Addr) (n c k : Nat) (xs ys : List Int) (w : World) (hn : xs.length = n) (hC : Kd.C (Kd.int .i64) w A n xs) (hp : 0 < n) (hx : n ≤ 1000000) (hk : k ≤ n) (hy : ys.length = n) (hS : Sorts fid fa lb cf D B xs ys) (hB : B ≤ w.heap.size)
    (hCmp : ∀ g W, w.heap.size ≤ g → Below w.heap.size w W → Cmp fid fa lb cf D B g W) :
    Calls Tryd.prog 47 #[.agg #[.slice A n c, .func (.func fid) fa lb], .int .i64 (k : Int)] w fun e w' => ∃ A' c', e = .returned (.slice A' k c') ∧ Kd.Q (Kd.int .i64) 3 w' w.heap.size (fun _ => True) (.slice A' k c') (ys.take k) ∧ Below w.heap.size w w' := by
  subst hn
  exact first_calls fid fa lb cf D B A c k xs ys w hC hp hx hk hy hS hB hCmp
/-- Top's comparison: by the numbers at two places. -/
def cfV (l : List Int) (x y : Int) : Int := l.getD y.toNat 0 - l.getD x.toNat 0
def Place (n : Nat) (x : Int) : Prop := 0 ≤ x ∧ x < n
def places (n : Nat) : List Int := (List.range n).map fun (i : Nat) => (i : Int)
theorem places_length (n : Nat) : (places n).length = n := by simp [places]
theorem places_succ (n : Nat) : places (n + 1) = places n ++ [(n : Int)] := by simp [places, List.range_succ]
theorem places_in (n : Nat) : ∀ x ∈ places n, Place n x := fun x hx => by
  obtain ⟨i, hi, rfl⟩ := List.mem_map.1 hx
  have := List.mem_range.1 hi
  exact ⟨by omega, by omega⟩
theorem all_getD {l : List Int} (h : l.all inR = true) (j : Nat) : -2147483648 ≤ l.getD j 0 ∧ l.getD j 0 ≤ 2147483647 := by
  rcases Nat.lt_or_ge j l.length with h1 | h1
  · rw [List.getD_eq_getElem?_getD, List.getElem?_eq_getElem h1]
    exact inR_true (List.all_eq_true.1 h _ (List.getElem_mem h1))
  · rw [List.getD_eq_getElem?_getD, List.getElem?_eq_none h1]
    decide
end Go.Proofs.YtdmeocoehahopaaDoor.Top
namespace Go.Proofs.YtdmeocoehahopaaDoor.Top
open Go.RowKit Go.Proofs.YtdmeocoehahopaaDoorW.PrintWords Go.Proofs.YtdmeocoehahopaaDoorW.PrintLast Go.Proofs.YtdmeocoehahopaaDoorW.PrintMore Go.Proofs.YtdmeocoehahopaaDoor.K Go.Proofs.YtdmeocoehahopaaDoor.RI Go.Proofs.YtdmeocoehahopaaDoor.Sort Go.Proofs.YtdmeocoehahopaaDoor.CloneI Go.Proofs.YtdmeocoehahopaaDoor.Ten Go.Proofs.YtdmeocoehahopaaDoor.Fixed
set_option linter.unusedVariables false
set_option linter.unusedSimpArgs false
def CmpF (ad : Addr) (n c : Nat) (i j : Nat) (x y : Int) (iv : Nat) (xv : Value) : Prop := match iv with
  | 0 => xv = .slice (some ad) n c
  | 1 => xv = .int .i64 (j : Int)
  | 2 => xv = .pointer (some (ad.add j))
  | 3 => xv = .int .i64 y
  | 4 => xv = .slice (some ad) n c
  | 5 => xv = .int .i64 (i : Int)
  | 6 => xv = .pointer (some (ad.add i))
  | 7 => xv = .int .i64 x
  | 8 => xv = .int .i64 (y - x)
  | 9 => xv = .int .i64 (y - x)
  | _ => True
set_option maxHeartbeats 4000000 in
set_option maxRecDepth 100000 in
theorem top1_calls (b : Nat) (A : Option Addr) (n c : Nat) (l : List Int) (i j : Nat) (w : World) (hb : w.heap[b]? = some (.cells #[.slice A n c] 41 (0, 0))) (hC : Kd.C (Kd.int .i64) w A n l) (hi : i < n) (hj : j < n) (hl : l.all inR = true) :
    Calls Tryd.prog 46 #[.int .i64 (i : Int), .int .i64 (j : Int), .pointer (some ⟨b, 0, none⟩)] w fun e w' => e = .returned (.int .i64 (cfV l i j)) ∧ Drawn0 w w' := by
  obtain ⟨ad, rfl, hcx⟩ := int_at hC i hi
  obtain ⟨ad', he, hcy⟩ := int_at hC j hj
  cases he
  have hc0 := blk_cell hb 0
  simp only [List.getElem?_toArray, List.getElem?_cons_zero] at hc0
  have hx := all_getD hl i
  have hy := all_getD hl j
  have HV : Aside0 (cfV l i j = l.getD j 0 - l.getD i 0) := ⟨by simp [cfV]⟩
  have hm := hC.2.1
  clear hC hb hl
  generalize l.getD i 0 = x at *
  generalize l.getD j 0 = y at *
  have hx0 := hx.1
  have hx1 := hx.2
  have hy0 := hy.1
  have hy1 := hy.2
  have hw : IntKind.i64.wrap (y - x) = y - x := by rw [IntKind.wrap_i64]; omega
  have hi0 : (0 : Int) ≤ (i : Int) := by omega
  have hi1 : (i : Int) < (n : Int) := by omega
  have hj0 : (0 : Int) ≤ (j : Int) := by omega
  have hj1 : (j : Int) < (n : Int) := by omega
  clear hx hy hx0 hx1 hy0 hy1
  go_enter Tryd.func46, Tryd.ntmps46
  go_upto_region 1 with (fail)
  refine wp_region_fin [false, false, false, false, false, true, true, true, true, true, true, true, true, true, true] (by kernel_rfl) (by kernel_rfl) (fun W => Drawn0 w W) (fun W W' => True) (fun iv xv _ => CmpF ad n c i j x y iv xv) (fun _ _ _ _ _ _ h => h) ⟨⟨1, rfl⟩⟩ ?_ ?_
  · refine ⟨?_, ?_, ?_, ?_, ?_, ?_, ?_, ?_, ?_, ?_, trivial⟩
    · intro v W hb hd
      obtain ⟨⟨nd, rfl⟩⟩ := hb
      have hbx : (w.drewN nd).cell? ⟨b, 0, none⟩ = some (.slice (some ad) n c) := hc0
      refine step_list fun K hK => ?_
      simp only [fill_lit, fillL, Act.put, List.setIfInBounds_toArray, List.set_cons_zero, List.set_cons_succ, Nat.reduceAdd] at hK ⊢
      clear hd
      go_wp2
      exact ⟨⟨⟨nd, rfl⟩⟩, trivial, rfl⟩
    · intro v W hb hd
      obtain ⟨⟨nd, rfl⟩⟩ := hb
      refine step_list fun K hK => ?_
      simp only [fill_lit, fillL, Act.put, List.setIfInBounds_toArray, List.set_cons_zero, List.set_cons_succ, Nat.reduceAdd] at hK ⊢
      clear hd
      go_wp2
      exact ⟨⟨⟨nd, rfl⟩⟩, trivial, rfl⟩
    · intro v W hb hd
      obtain ⟨⟨nd, rfl⟩⟩ := hb
      have h0 : v 6 = .slice (some ad) n c := hd 0 (by kernel_rfl)
      have h1 : v 7 = .int .i64 (j : Int) := hd 1 (by kernel_rfl)
      refine step_list fun K hK => ?_
      simp only [fill_lit, fillL, Act.put, List.setIfInBounds_toArray, List.set_cons_zero, List.set_cons_succ, Nat.reduceAdd] at hK ⊢
      rw [h0, h1] at hK ⊢
      clear hd h0 h1
      go_wp2
      exact ⟨⟨⟨nd, rfl⟩⟩, trivial, rfl⟩
    · intro v W hb hd
      obtain ⟨⟨nd, rfl⟩⟩ := hb
      have hy : (w.drewN nd).cell? (ad.add j) = some (.int .i64 y) := hcy
      have h2 : v 8 = .pointer (some (ad.add j)) := hd 2 (by kernel_rfl)
      refine step_list fun K hK => ?_
      simp only [fill_lit, fillL, Act.put, List.setIfInBounds_toArray, List.set_cons_zero, List.set_cons_succ, Nat.reduceAdd] at hK ⊢
      rw [h2] at hK ⊢
      clear hd h2
      go_wp2
      exact ⟨⟨⟨nd, rfl⟩⟩, trivial, rfl⟩
    · intro v W hb hd
      obtain ⟨⟨nd, rfl⟩⟩ := hb
      have hbx : (w.drewN nd).cell? ⟨b, 0, none⟩ = some (.slice (some ad) n c) := hc0
      refine step_list fun K hK => ?_
      simp only [fill_lit, fillL, Act.put, List.setIfInBounds_toArray, List.set_cons_zero, List.set_cons_succ, Nat.reduceAdd] at hK ⊢
      clear hd
      go_wp2
      exact ⟨⟨⟨nd, rfl⟩⟩, trivial, rfl⟩
    · intro v W hb hd
      obtain ⟨⟨nd, rfl⟩⟩ := hb
      refine step_list fun K hK => ?_
      simp only [fill_lit, fillL, Act.put, List.setIfInBounds_toArray, List.set_cons_zero, List.set_cons_succ, Nat.reduceAdd] at hK ⊢
      clear hd
      go_wp2
      exact ⟨⟨⟨nd, rfl⟩⟩, trivial, rfl⟩
    · intro v W hb hd
      obtain ⟨⟨nd, rfl⟩⟩ := hb
      have h4 : v 10 = .slice (some ad) n c := hd 4 (by kernel_rfl)
      have h5 : v 11 = .int .i64 (i : Int) := hd 5 (by kernel_rfl)
      refine step_list fun K hK => ?_
      simp only [fill_lit, fillL, Act.put, List.setIfInBounds_toArray, List.set_cons_zero, List.set_cons_succ, Nat.reduceAdd] at hK ⊢
      rw [h4, h5] at hK ⊢
      clear hd h4 h5
      go_wp2
      exact ⟨⟨⟨nd, rfl⟩⟩, trivial, rfl⟩
    · intro v W hb hd
      obtain ⟨⟨nd, rfl⟩⟩ := hb
      have hx : (w.drewN nd).cell? (ad.add i) = some (.int .i64 x) := hcx
      have h6 : v 12 = .pointer (some (ad.add i)) := hd 6 (by kernel_rfl)
      refine step_list fun K hK => ?_
      simp only [fill_lit, fillL, Act.put, List.setIfInBounds_toArray, List.set_cons_zero, List.set_cons_succ, Nat.reduceAdd] at hK ⊢
      rw [h6] at hK ⊢
      clear hd h6
      go_wp2
      exact ⟨⟨⟨nd, rfl⟩⟩, trivial, rfl⟩
    · intro v W hb hd
      obtain ⟨⟨nd, rfl⟩⟩ := hb
      have h3 : v 9 = .int .i64 y := hd 3 (by kernel_rfl)
      have h7 : v 13 = .int .i64 x := hd 7 (by kernel_rfl)
      refine step_list fun K hK => ?_
      simp only [fill_lit, fillL, Act.put, List.setIfInBounds_toArray, List.set_cons_zero, List.set_cons_succ, Nat.reduceAdd] at hK ⊢
      rw [h3, h7] at hK ⊢
      clear hd h3 h7
      go_wp2
      exact ⟨⟨⟨nd, rfl⟩⟩, trivial, rfl⟩
    · intro v W hb hd
      obtain ⟨⟨nd, rfl⟩⟩ := hb
      have h8 : v 14 = .int .i64 (y - x) := hd 8 (by kernel_rfl)
      refine step_list fun K hK => ?_
      simp only [fill_lit, fillL, Act.put, List.setIfInBounds_toArray, List.set_cons_zero, List.set_cons_succ, Nat.reduceAdd] at hK ⊢
      rw [h8] at hK ⊢
      clear hd h8
      go_wp2
      exact ⟨⟨⟨nd, rfl⟩⟩, trivial, rfl⟩
  · intro v W hb hF
    have h9 : v 5 = .int .i64 (y - x) := hF 9 (of_decide_eq_true (by kernel_rfl))
    simp only [fill_lit, fillL, Nat.reduceAdd]
    rw [h9]
    clear hF h9
    go_wp2
    go_ret
    exact ⟨congrArg (fun x => Ending.returned (Value.int .i64 x)) HV.out.symm, hb⟩
theorem top_cmp (l : List Int) (b : Nat) (A : Option Addr) (n c B : Nat) (w0 : World) (hb : w0.heap[b]? = some (.cells #[.slice A n c] 41 (0, 0))) (hC : Kd.C (Kd.int .i64) w0 A n l) (hl : l.all inR = true) (hB : B = w0.heap.size) (g : Nat) (W : World) (hW : Below B w0 W) :
    Cmp 46 #[] #[.pointer (some ⟨b, 0, none⟩)] (cfV l) (Place n) B g W :=
  ⟨fun args w => enters_ Tryd.func46 (by kernel_rfl) rfl args w, fun x y W2 hx hy _ hb2 => by
    subst hB
    have h2 := hW.trans hb2
    obtain ⟨i, rfl⟩ : ∃ i : Nat, x = i := ⟨x.toNat, by have := hx.1; omega⟩
    obtain ⟨j, rfl⟩ : ∃ j : Nat, y = j := ⟨y.toNat, by have := hy.1; omega⟩
    exact top1_calls b A n c l i j W2 ((h2.block _ (blk_lt hb)).trans hb) (Kd.C_below hC h2) (by have := hx.2; omega) (by have := hy.2; omega) hl⟩
theorem info_int : (Tryd.prog.info? 3).map (fun i => (i.zero, i.size, i.bytes)) = some (some (.int .i64 0), 1, 8) := by kernel_rfl
theorem own_high {W : World} {gr n : Nat} {e : TypeId} {v : Value} {xs : List Value} (h : W.ownsRow (gr + 1) e 1 v n xs) : some gr ≠ v.ownBlock := by
  rcases h.2 with ⟨rfl, _⟩ | ⟨g, cap, cur, rfl, hb, _⟩
  · simp [Value.ownBlock]
  · simp only [Value.ownBlock, ne_eq, Option.some.injEq]
    omega
/-- What Top has collected so far. -/
def Got (w : World) (gr k : Nat) (f : Value) (W : World) : Prop := ∃ v, W.heap[gr]? = some (.cells #[v, f] 79 (0, 0)) ∧ W.ownsRow (gr + 1) 3 1 v k (nums .i64 (places k)) ∧ Below w.heap.size w W ∧ gr + 1 ≤ W.heap.size
set_option maxHeartbeats 4000000 in
set_option maxRecDepth 100000 in
theorem top_bad_calls (A : Option Addr) (c : Nat) (l : List Int) (k : Int) (w : World) (hC : Kd.C (Kd.int .i64) w A l.length l) (h : checkV l ≠ 0) :
    Calls Tryd.prog 33 #[.slice A l.length c, .int .i64 k] w fun e w' => e = .returned (.tuple #[.slice none 0 0, .int .i64 (checkV l)]) ∧ Below w.heap.size w w' := by
  have HC := Aside0.mk hC
  have HB1 : Aside0 (∀ o : Obj, Below w.heap.size w (w.alloc o)) := ⟨fun o => bel_alloc (Below.refl _ _) _⟩
  have hne : (checkV l != 0) = true := by simpa using h
  have HK := Aside0.mk (tcheck_calls A c l (w.alloc (.cells #[.slice A l.length c] 41)) (Kd.C_below HC.out (HB1.out _)))
  clear hC h
  generalize checkV l = e at *
  go_enter Tryd.func33, Tryd.ntmps33
  go_wp2_with (fail)
  refine HK.out.mono ?_
  rintro e w2 ⟨rfl, hb⟩
  have HB := Aside0.mk (below_step (HB1.out _) hb)
  clear hb
  go_wp2_with (fail)
  go_ret2
  exact ⟨rfl, HB.out⟩
set_option maxHeartbeats 4000000 in
set_option maxRecDepth 100000 in
theorem top_range_calls (A : Option Addr) (c : Nat) (l : List Int) (k : Int) (w : World) (hC : Kd.C (Kd.int .i64) w A l.length l) (h : checkV l = 0) (hk : k < 1 ∨ (l.length : Int) < k) :
    Calls Tryd.prog 33 #[.slice A l.length c, .int .i64 k] w fun e w' => e = .returned (.tuple #[.slice none 0 0, .int .i64 10]) ∧ Below w.heap.size w w' := by
  have HC := Aside0.mk hC
  have HB1 : Aside0 (∀ o : Obj, Below w.heap.size w (w.alloc o)) := ⟨fun o => bel_alloc (Below.refl _ _) _⟩
  have hR : (w.alloc (.cells #[.slice A l.length c] 41)).heap[w.heap.size]? = some (.cells #[.slice A l.length c] 41 (0, 0)) := heap_alloc_new _ _
  have HR := Aside0.mk hR
  have HK := Aside0.mk (tcheck_calls A c l (w.alloc (.cells #[.slice A l.length c] 41)) (Kd.C_below HC.out (HB1.out _)))
  rw [h] at HK
  clear hC h hR
  by_cases h1 : k < 1
  · have hd : decide (k < 1) = true := by simpa using h1
    clear hk h1
    go_enter Tryd.func33, Tryd.ntmps33
    go_wp2_with (fail)
    refine HK.out.mono ?_
    rintro e w2 ⟨rfl, hb⟩
    have HB := Aside0.mk (below_step (HB1.out _) hb)
    clear hb
    go_wp2_with (fail)
    go_ret2
    exact ⟨rfl, HB.out⟩
  · have hd : decide (k < 1) = false := by simpa using h1
    have hd2 : decide ((l.length : Int) < k) = true := by simp; omega
    clear hk h1
    go_enter Tryd.func33, Tryd.ntmps33
    go_wp2_with (fail)
    refine HK.out.mono ?_
    rintro e w2 ⟨rfl, hb⟩
    have HB := Aside0.mk (below_step (HB1.out _) hb)
    have hc0 := blk_cell ((hb.block _ (blk_lt HR.out)).trans HR.out) 0
    simp only [List.getElem?_toArray, List.getElem?_cons_zero] at hc0
    clear hb
    go_wp2_with (fail)
    go_ret2
    exact ⟨rfl, HB.out⟩
set_option maxHeartbeats 4000000 in
set_option maxRecDepth 100000 in
theorem top_ok_calls (A : Option Addr) (c k : Nat) (l ys : List Int) (w : World) (hC : Kd.C (Kd.int .i64) w A l.length l) (h : checkV l = 0) (hk1 : 1 ≤ k) (hk2 : k ≤ l.length) (hys : ys.length = l.length)
    (hS : Sorts 46 #[] #[.pointer (some ⟨w.heap.size, 0, none⟩)] (cfV l) (Place l.length) (w.heap.size + 1) (places l.length) ys) :
    Calls Tryd.prog 33 #[.slice A l.length c, .int .i64 (k : Int)] w fun e w' => ∃ A' c', e = .returned (.tuple #[.slice A' k c', .int .i64 0]) ∧ Kd.Q (Kd.int .i64) 3 w' w.heap.size (fun _ => True) (.slice A' k c') (ys.take k) ∧ Below w.heap.size w w' := by
  have HC := Aside0.mk hC
  have HB1 : Aside0 (∀ o : Obj, Below w.heap.size w (w.alloc o)) := ⟨fun o => bel_alloc (Below.refl _ _) _⟩
  have hR : (w.alloc (.cells #[.slice A l.length c] 41)).heap[w.heap.size]? = some (.cells #[.slice A l.length c] 41 (0, 0)) := heap_alloc_new _ _
  have HR := Aside0.mk hR
  have HK := Aside0.mk (tcheck_calls A c l (w.alloc (.cells #[.slice A l.length c] 41)) (Kd.C_below HC.out (HB1.out _)))
  rw [h] at HK
  have HIn : Aside0 (l.all inR = true ∧ l.length ≤ 512) := ⟨by
    unfold checkV at h
    split at h
    · cases h
    · rename_i h9
      split at h
      · rename_i h8; exact ⟨h8, by omega⟩
      · cases h⟩
  have HS := Aside0.mk hS
  have HY := Aside0.mk hys
  have hd : decide ((k : Int) < 1) = false := by simp; omega
  have hd2 : decide ((l.length : Int) < (k : Int)) = false := by simp; omega
  have hd3 : decide (l.length < k) = false := by simp; omega
  clear hC h hR hS hys
  have HCw : Aside0 (Kd.C (Kd.int .i64) (w.alloc (.cells #[.slice A l.length c] 41)) A l.length l) := ⟨Kd.C_below HC.out (HB1.out _)⟩
  have HBw : Aside0 (Below w.heap.size w (w.alloc (.cells #[.slice A l.length c] 41))) := ⟨HB1.out _⟩
  have HSz : Aside0 ((w.alloc (.cells #[.slice A l.length c] 41)).heap.size = w.heap.size + 1) := ⟨World.size_alloc _ _⟩
  go_enter Tryd.func33, Tryd.ntmps33
  go_wp2_with (fail)
  generalize w.alloc (.cells #[.slice A l.length c] 41) = wb at *
  refine HK.out.mono ?_
  rintro e w2 ⟨rfl, hb⟩
  have HB2 := Aside0.mk hb
  have hc0 := blk_cell ((hb.block _ (blk_lt HR.out)).trans HR.out) 0
  simp only [List.getElem?_toArray, List.getElem?_cons_zero] at hc0
  clear hb
  go_upto_region 7 with (fail)
  have HG3 : Aside0 (Got w w2.heap.size 0 (.func (.func 46) #[] #[.pointer (some ⟨w.heap.size, 0, none⟩)]) (w2.alloc (.cells #[.slice none 0 0, .func (.func 46) #[] #[.pointer (some ⟨w.heap.size, 0, none⟩)]] 79))) := ⟨_, heap_alloc_new _ _, World.ownsRow_nil _ _ _ _, bel_alloc (below_step HBw.out HB2.out) _, by rw [World.size_alloc]; exact Nat.le_refl _⟩
  have HX3 : Aside0 (∀ W, Below w2.heap.size (w2.alloc (.cells #[.slice none 0 0, .func (.func 46) #[] #[.pointer (some ⟨w.heap.size, 0, none⟩)]] 79)) W → W.heap[w.heap.size]? = some (.cells #[.slice A l.length c] 41 (0, 0))) := ⟨fun W hb => by
    have h1 := (HB2.out.block _ (blk_lt HR.out)).trans HR.out
    exact (hb.block _ (blk_lt h1)).trans (blk_alloc h1 _)⟩
  have HGb : Aside0 (wb.heap.size ≤ w2.heap.size) := ⟨HB2.out.size⟩
  have HW3 : Aside0 (Below wb.heap.size wb (w2.alloc (.cells #[.slice none 0 0, .func (.func 46) #[] #[.pointer (some ⟨w.heap.size, 0, none⟩)]] 79))) := ⟨bel_alloc HB2.out _⟩
  have HGe : Aside0 (w.heap.size ≤ w2.heap.size) := ⟨Nat.le_trans HBw.out.size HB2.out.size⟩
  have hl512 := HIn.out.2
  clear hc0
  generalize w2.alloc (.cells #[.slice none 0 0, .func (.func 46) #[] #[.pointer (some ⟨w.heap.size, 0, none⟩)]] 79) = w3 at *
  generalize w2.heap.size = gr at *
  have hc0 := blk_cell (HX3.out w3 (Below.refl _ _)) 0
  simp only [List.getElem?_toArray, List.getElem?_cons_zero] at hc0
  go_wp2_with (fail)
  clear hc0
  go_loopw [26] (fun i wr => ∃ m : Nat, m ≤ l.length ∧ i = .int .i64 (m : Int) ∧ Aside0 (Got w gr m (.func (.func 46) #[] #[.pointer (some ⟨w.heap.size, 0, none⟩)]) wr ∧ Below gr w3 wr)) (fun i _ => l.length - (intOf i).toNat)
  case atStart => exact ⟨0, Nat.zero_le _, rfl, ⟨HG3.out, Below.refl _ _⟩⟩
  case round =>
    obtain ⟨m, hm, rfl, HI⟩ := hrel
    obtain ⟨v0, hv1, hv2, hv3, hv4⟩ := HI.out.1
    have HV := Aside0.mk (And.intro hv1 (And.intro hv2 (And.intro hv3 hv4)))
    have hc1 := blk_cell hv1 0
    have hf1 := blk_frozen hv1 0
    simp only [List.getElem?_toArray, List.getElem?_cons_zero] at hc1
    clear hv1 hv2 hv3 hv4
    by_cases hlt : m < l.length
    · go_wp2_with (at_builtin; refine print_append_num (w0 := wr) (W := wr) (gr + 1) rfl (.tmp 30) (.tmp 32) 41 3 .i64 8 rfl Tryd.underlying41 info_int (by decide) v0 (places m) m rfl rfl (by rw [places_length]; exact HV.out.2.1) (Below.refl _ _) HV.out.2.2.2 ?_ ?_; rotate_left; intro v1 w1 hown hbw hgr hat; rw [← places_succ, places_length] at hown; obtain ⟨A1, c1, rfl, _⟩ := own_slice hown; have HA := Aside0.mk (And.intro hown (And.intro hbw (And.intro hgr hat))); have hc2 := blk_cell (blk_grown HV.out.1 hgr (own_high HV.out.2.1)) 0; have hf2 := blk_frozen (blk_grown HV.out.1 hgr (own_high HV.out.2.1)) 0; simp only [List.getElem?_toArray, List.getElem?_cons_zero] at hc2; clear hown hbw hgr hat hc1 hf1)
      · have HG : Aside0 (Got w gr (m + 1) (.func (.func 46) #[] #[.pointer (some ⟨w.heap.size, 0, none⟩)]) (w1.setCell ⟨gr, 0, none⟩ (.slice A1 (m + 1) c1))) := ⟨by
          have h1 := blk_set (blk_grown HV.out.1 HA.out.2.2.1 (own_high HV.out.2.1)) 0 (.slice A1 (m + 1) c1)
          refine ⟨_, h1, own_setCell HA.out.1 (own_high HA.out.1) _, ?_, ?_⟩
          · exact (HV.out.2.2.1.trans (HA.out.2.1.mono (Nat.le_succ_of_le HGe.out))).setCell HGe.out _
          · rw [World.size_setCell]; have := HA.out.2.1.size; have := HV.out.2.2.2; omega⟩
        have HBx : Aside0 (Below gr w3 (w1.setCell ⟨gr, 0, none⟩ (.slice A1 (m + 1) c1))) := ⟨(HI.out.2.trans (HA.out.2.1.mono (Nat.le_succ _))).setCell (Nat.le_refl _) _⟩
        go_roundw
        case rel => exact ⟨m + 1, by omega, by go_num, ⟨HG.out, HBx.out⟩⟩
        case measure => simp [intOf]; omega
      · have := HIn.out.2
        rw [places_length]
        omega
    · obtain rfl : m = l.length := by omega
      obtain ⟨A0, c0, rfl⟩ := own_slice HV.out.2.1
      have hc2 := blk_cell HV.out.1 1
      simp only [List.getElem?_toArray, List.getElem?_cons_succ, List.getElem?_cons_zero] at hc2
      have HR0 : Aside0 (Kd.C (Kd.int .i64) wr A0 l.length (places l.length)) := ⟨by
        have h1 := HV.out.2.1
        rw [show l.length = (places l.length).length from (places_length _).symm] at h1
        have h2 := own_C (n := l.length) (by rw [places_length] at h1 ⊢; exact h1)
        rwa [places_length] at h2⟩
      have HWr : Aside0 (Below wb.heap.size wb wr) := ⟨HW3.out.trans (HI.out.2.mono HGb.out)⟩
      go_wp2_with (fail)
      refine (first_n_calls 46 #[] #[.pointer (some ⟨w.heap.size, 0, none⟩)] (cfV l) (Place l.length) (w.heap.size + 1) A0 l.length c0 k (places l.length) ys wr (places_length _) HR0.out (by omega) (by omega) hk2 HY.out HS.out (by rw [← HSz.out]; exact HWr.out.size)
        (fun g W hg hbW => top_cmp l w.heap.size A l.length c (w.heap.size + 1) wb HR.out HCw.out HIn.out.1 HSz.out.symm g W (by rw [← HSz.out]; exact HWr.out.trans (hbW.mono HWr.out.size)))).mono ?_
      rintro e w9 ⟨A', c', rfl, hC9, hb9⟩
      have HF := Aside0.mk (And.intro hC9 hb9)
      clear hC9 hb9 hc1 hc2 hf1
      go_wp2_with (fail)
      go_ret2
      exact ⟨_, _, rfl, Kd.Q_lower HF.out.1 HV.out.2.2.1.size, below_step HV.out.2.2.1 HF.out.2⟩
end Go.Proofs.YtdmeocoehahopaaDoor.Top
namespace Go.Proofs.YtdmeocoehahopaaDoor.Sha
open Go.RowKit Go.Proofs.YtdmeocoehahopaaDoorW.PrintWords Go.Proofs.YtdmeocoehahopaaDoorW.PrintLast Go.Proofs.YtdmeocoehahopaaDoorW.PrintMore Go.Proofs.YtdmeocoehahopaaDoor.K
set_option linter.unusedVariables false
abbrev W32 := BitVec 32
/-- A word's number. -/
def wi (x : W32) : Int := (x.toNat : Int)
theorem wi_range (x : W32) : 0 ≤ wi x ∧ wi x < 4294967296 := by
  have := x.isLt
  unfold wi
  omega
theorem wi_inj {x y : W32} (h : wi x = wi y) : x = y := by
  apply BitVec.eq_of_toNat_eq
  unfold wi at h
  omega
theorem ofInt_wi (x : W32) : BitVec.ofInt 32 (wi x) = x := by simp [wi]
theorem wi_wrap (n : Nat) (h : n < 4294967296) : IntKind.u32.wrap (n : Int) = (n : Int) := by rw [IntKind.wrap_u32]; omega
theorem u32_xor (x y : W32) : Go.bits .xor .u32 (wi x) (wi y) = wi (x ^^^ y) := by
  show IntKind.u32.wrap ((BitVec.ofInt 32 (wi x) ^^^ BitVec.ofInt 32 (wi y)).toNat : Int) = _
  rw [ofInt_wi, ofInt_wi]
  exact wi_wrap _ (x ^^^ y).isLt
theorem u32_and (x y : W32) : Go.bits .and .u32 (wi x) (wi y) = wi (x &&& y) := by
  show IntKind.u32.wrap ((BitVec.ofInt 32 (wi x) &&& BitVec.ofInt 32 (wi y)).toNat : Int) = _
  rw [ofInt_wi, ofInt_wi]
  exact wi_wrap _ (x &&& y).isLt
theorem u32_or (x y : W32) : Go.bits .or .u32 (wi x) (wi y) = wi (x ||| y) := by
  show IntKind.u32.wrap ((BitVec.ofInt 32 (wi x) ||| BitVec.ofInt 32 (wi y)).toNat : Int) = _
  rw [ofInt_wi, ofInt_wi]
  exact wi_wrap _ (x ||| y).isLt
theorem u32_add (x y : W32) : IntKind.u32.wrap (wi x + wi y) = wi (x + y) := by
  rw [IntKind.wrap_u32]
  unfold wi
  rw [BitVec.toNat_add]
  omega
theorem u32_shr (x : W32) (k : Nat) : wi x / 2 ^ k = wi (x >>> k) := by
  unfold wi
  rw [BitVec.toNat_ushiftRight, Nat.shiftRight_eq_div_pow]
  simp
theorem u32_shl (x : W32) (k : Nat) : IntKind.u32.wrap (wi x * 2 ^ k) = wi (x <<< k) := by
  rw [IntKind.wrap_u32]
  unfold wi
  rw [BitVec.toNat_shiftLeft, Nat.shiftLeft_eq]
  simp
def rotr (x : W32) (k : Nat) : W32 := x >>> k ||| x <<< (32 - k)
theorem u32_rotr (x : W32) (k : Nat) : Go.bits .or .u32 (wi x / 2 ^ k) (IntKind.u32.wrap (wi x * 2 ^ (32 - k))) = wi (rotr x k) := by
  rw [u32_shr, u32_shl, u32_or]
  rfl
def constL : List Nat := [
  0x428a2f98, 0x71374491, 0xb5c0fbcf, 0xe9b5dba5, 0x3956c25b, 0x59f111f1, 0x923f82a4, 0xab1c5ed5,
  0xd807aa98, 0x12835b01, 0x243185be, 0x550c7dc3, 0x72be5d74, 0x80deb1fe, 0x9bdc06a7, 0xc19bf174,
  0xe49b69c1, 0xefbe4786, 0x0fc19dc6, 0x240ca1cc, 0x2de92c6f, 0x4a7484aa, 0x5cb0a9dc, 0x76f988da,
  0x983e5152, 0xa831c66d, 0xb00327c8, 0xbf597fc7, 0xc6e00bf3, 0xd5a79147, 0x06ca6351, 0x14292967,
  0x27b70a85, 0x2e1b2138, 0x4d2c6dfc, 0x53380d13, 0x650a7354, 0x766a0abb, 0x81c2c92e, 0x92722c85,
  0xa2bfe8a1, 0xa81a664b, 0xc24b8b70, 0xc76c51a3, 0xd192e819, 0xd6990624, 0xf40e3585, 0x106aa070,
  0x19a4c116, 0x1e376c08, 0x2748774c, 0x34b0bcb5, 0x391c0cb3, 0x4ed8aa4a, 0x5b9cca4f, 0x682e6ff3,
  0x748f82ee, 0x78a5636f, 0x84c87814, 0x8cc70208, 0x90befffa, 0xa4506ceb, 0xbef9a3f7, 0xc67178f2]
def kL : List W32 := constL.map (BitVec.ofNat 32)
/-- A state. -/
structure St where
  a : W32
  b : W32
  c : W32
  d : W32
  e : W32
  f : W32
  g : W32
  h : W32
def init : St := ⟨0x6a09e667#32, 0xbb67ae85#32, 0x3c6ef372#32, 0xa54ff53a#32, 0x510e527f#32, 0x9b05688c#32, 0x1f83d9ab#32, 0x5be0cd19#32⟩
def St.l (s : St) : List W32 := [s.a, s.b, s.c, s.d, s.e, s.f, s.g, s.h]
/-- Its numbers, as cells. -/
def St.nums (s : St) : List Int := s.l.map wi
def word (b : List Int) (t : Nat) : W32 := BitVec.ofInt 32 (((b.getD (4 * t) 0 * 256 + b.getD (4 * t + 1) 0) * 256 + b.getD (4 * t + 2) 0) * 256 + b.getD (4 * t + 3) 0)
def sig0 (x : W32) : W32 := rotr x 7 ^^^ rotr x 18 ^^^ x >>> 3
def sig1 (x : W32) : W32 := rotr x 17 ^^^ rotr x 19 ^^^ x >>> 10
def wAt (b : List Int) (w : List W32) (t : Nat) : W32 :=
  if t < 16 then word b t else w.getD (t - 16) 0 + w.getD (t - 7) 0 + sig0 (w.getD (t - 15) 0) + sig1 (w.getD (t - 2) 0)
/-- The first t words of a block. -/
def ws (b : List Int) : Nat → List W32
  | 0 => []
  | t + 1 => ws b t ++ [wAt b (ws b t) t]
theorem ws_length (b : List Int) (t : Nat) : (ws b t).length = t := by
  induction t with
  | zero => rfl
  | succ t ih => simp [ws, ih]
def pOf (s : St) (k w : W32) : W32 := s.h + (rotr s.e 6 ^^^ rotr s.e 11 ^^^ rotr s.e 25) + (s.g ^^^ s.e &&& (s.f ^^^ s.g)) + k + w
def qOf (s : St) : W32 := (rotr s.a 2 ^^^ rotr s.a 13 ^^^ rotr s.a 22) + (s.a &&& s.b ||| s.c &&& (s.a ||| s.b))
def rnd (s : St) (k w : W32) : St := ⟨pOf s k w + qOf s, s.a, s.b, s.c, s.d + pOf s k w, s.e, s.f, s.g⟩
/-- t rounds. -/
def rs (s : St) (w : List W32) : Nat → St
  | 0 => s
  | t + 1 => rnd (rs s w t) (kL.getD t 0) (w.getD t 0)
def St.add (s t : St) : St := ⟨s.a + t.a, s.b + t.b, s.c + t.c, s.d + t.d, s.e + t.e, s.f + t.f, s.g + t.g, s.h + t.h⟩
def turnV (s : St) (b : List Int) : St := (rs s (ws b 64) 64).add s
/-- What a hash is, which was s and r (less than a block), after its bytes. -/
def absorb (s : St) (l : List Int) : St × List Int :=
  if h : l.length < 64 then (s, l) else absorb (turnV s (l.take 64)) (l.drop 64)
termination_by l.length
decreasing_by simp only [List.length_drop]; omega
theorem absorb_lt {s : St} {l : List Int} (h : l.length < 64) : absorb s l = (s, l) := by rw [absorb, dif_pos h]
theorem absorb_ge {s : St} {l : List Int} (h : ¬ l.length < 64) : absorb s l = absorb (turnV s (l.take 64)) (l.drop 64) := by rw [absorb, dif_neg h]
theorem absorb_append (n : Nat) : ∀ (s : St) (l m : List Int), l.length ≤ n → absorb s (l ++ m) = absorb (absorb s l).1 ((absorb s l).2 ++ m) := by
  induction n with
  | zero =>
    intro s l m hn
    rw [absorb_lt (l := l) (by omega)]
  | succ n ih =>
    intro s l m hn
    by_cases h : l.length < 64
    · rw [absorb_lt h]
    · rw [absorb_ge h, absorb_ge (by rw [List.length_append]; omega), List.take_append_of_le_length (by omega), List.drop_append_of_le_length (by omega)]
      exact ih _ _ _ (by rw [List.length_drop]; omega)
theorem absorb_rest (n : Nat) : ∀ (s : St) (l : List Int), l.length ≤ n → (absorb s l).2.length = l.length % 64 ∧ ((∀ x ∈ l, 0 ≤ x ∧ x < 256) → ∀ x ∈ (absorb s l).2, 0 ≤ x ∧ x < 256) := by
  induction n with
  | zero =>
    intro s l hn
    rw [absorb_lt (by omega)]
    exact ⟨by show l.length = _; omega, fun h => h⟩
  | succ n ih =>
    intro s l hn
    by_cases h : l.length < 64
    · rw [absorb_lt h]
      exact ⟨by show l.length = _; omega, fun h => h⟩
    · rw [absorb_ge h]
      obtain ⟨h1, h2⟩ := ih (turnV s (l.take 64)) (l.drop 64) (by rw [List.length_drop]; omega)
      exact ⟨by rw [h1, List.length_drop]; omega, fun hb => h2 fun x hx => hb x (List.mem_of_mem_drop hx)⟩
/-- What stands behind the bytes of a hash: n is how many they are. -/
def tail1 (n : Nat) : List Int := 128 :: List.replicate ((119 - n % 64) % 64) 0
def digL (s : St) : List Int := s.l.flatMap fun x => be4 x.toNat
def sumOf (s : St) (r : List Int) (n : Nat) : List Int := digL (absorb s (r ++ (tail1 n ++ be8 (8 * n)))).1
/-- The digest of bytes. -/
def shaV (l : List Int) : List Int := sumOf init l l.length
theorem sumOf_absorb (l : List Int) : sumOf (absorb init l).1 (absorb init l).2 l.length = shaV l := by
  unfold shaV sumOf
  rw [absorb_append l.length init l _ (Nat.le_refl _)]
theorem digL_length (s : St) : (digL s).length = 32 := rfl
theorem digL_byte (s : St) : ∀ x ∈ digL s, 0 ≤ x ∧ x < 256 := by
  intro x hx
  obtain ⟨y, _, hy⟩ := List.mem_flatMap.1 hx
  simp only [be4, List.mem_cons, List.not_mem_nil, or_false] at hy
  rcases hy with rfl | rfl | rfl | rfl <;> omega
theorem shaV_length (l : List Int) : (shaV l).length = 32 := digL_length _
theorem shaV_byte (l : List Int) : ∀ x ∈ shaV l, 0 ≤ x ∧ x < 256 := digL_byte _
end Go.Proofs.YtdmeocoehahopaaDoor.Sha
namespace Go.Proofs.YtdmeocoehahopaaDoor.K
open Go.RowKit Go.Proofs.YtdmeocoehahopaaDoorW.PrintWords Go.Proofs.YtdmeocoehahopaaDoorW.PrintLast Go.Proofs.YtdmeocoehahopaaDoorW.PrintMore
theorem all_range_int : ∀ (xs ys : List Int), xs.length = ys.length → ((List.range xs.length).all fun i => xs.getD i 0 == ys.getD i 0) = (xs == ys)
  | [], [], _ => rfl
  | x :: xs, y :: ys, h => by
    have ih := all_range_int xs ys (by simpa using h)
    rw [List.length_cons, List.range_succ_eq_map, List.all_cons, List.all_map]
    simp only [List.getD_cons_zero, Function.comp_def, List.getD_cons_succ, ih]
    simp [List.cons_beq_cons]
  | [], _ :: _, h => by simp at h
  | _ :: _, [], h => by simp at h
section
variable {P : Program} (w : World)
theorem run_equalIn_nums (d : Nat) (t e : TypeId) (n : Nat) (k : IntKind) (ht : P.underlying t = some (.array n e)) (he : P.underlying e = some (.int k)) (hsz : ∀ w, (sizeOf e).run P w = .ok 1 w)
    (xs ys : List Int) (hx : xs.length = n) (hy : ys.length = n) :
    (Op.equalIn (d + 2) t (.agg (nums k xs).toArray) (.agg (nums k ys).toArray)).run P w = .ok (xs == ys) w := by
  rw [← all_range_int xs ys (hx.trans hy.symm), hx, List.range_eq_range', Op.equalIn]
  simp only [Sem.run_bind, run_underlying ht, Result.andThen_ok, hsz, Std.Legacy.Range.forIn_eq_forIn_range', Std.Legacy.Range.size, Nat.sub_zero, Nat.add_sub_cancel, Nat.div_one]
  have hl : ∀ i ∈ List.range' 0 n 1, i < n := fun i hi => by simpa using (List.mem_range'_1.1 hi).2
  generalize List.range' 0 n 1 = l at hl ⊢
  induction l with
  | nil => simp
  | cons i l ih =>
    have hi : i < n := hl i (by simp)
    have px : (part e (nums k xs).toArray (i * 1)).run P w = .ok (.int k (xs.getD i 0)) w := by
      simp [part, isAgg, run_underlying he, nums, List.getD, List.getElem?_eq_getElem (show i < xs.length by omega)]
    have py : (part e (nums k ys).toArray (i * 1)).run P w = .ok (.int k (ys.getD i 0)) w := by
      simp [part, isAgg, run_underlying he, nums, List.getD, List.getElem?_eq_getElem (show i < ys.length by omega)]
    have pe : (Op.equalIn (d + 1) e (.int k (xs.getD i 0)) (.int k (ys.getD i 0))).run P w = .ok (xs.getD i 0 == ys.getD i 0) w := run_equalIn_int w d e k k _ _ he
    simp only [List.forIn_cons, Sem.run_bind, px, py, pe, Result.andThen_ok, List.all_cons]
    cases hb : (xs.getD i 0 == ys.getD i 0)
    · simp
    · simp only [Bool.not_true, Bool.false_eq_true, if_false, Sem.run_pure, Result.andThen_ok, Bool.true_and]
      exact ih fun j hj => hl j (by simp [hj])
theorem run_eql_nums (t e : TypeId) (n : Nat) (k : IntKind) (ht : P.underlying t = some (.array n e)) (he : P.underlying e = some (.int k)) (hsz : ∀ w, (sizeOf e).run P w = .ok 1 w)
    (xs ys : List Int) (hx : xs.length = n) (hy : ys.length = n) :
    (binOp .eql t (.agg (nums k xs).toArray) (.agg (nums k ys).toArray)).run P w = .ok (.bool (xs == ys)) w := by
  rw [run_eql_struct, run_equalIn_nums w 9998 t e n k ht he hsz xs ys hx hy]
  rfl
theorem run_neq_nums (t e : TypeId) (n : Nat) (k : IntKind) (ht : P.underlying t = some (.array n e)) (he : P.underlying e = some (.int k)) (hsz : ∀ w, (sizeOf e).run P w = .ok 1 w)
    (xs ys : List Int) (hx : xs.length = n) (hy : ys.length = n) :
    (binOp .neq t (.agg (nums k xs).toArray) (.agg (nums k ys).toArray)).run P w = .ok (.bool (!(xs == ys))) w := by
  rw [run_neq_struct, run_equalIn_nums w 9998 t e n k ht he hsz xs ys hx hy]
  rfl
end
end Go.Proofs.YtdmeocoehahopaaDoor.K
namespace Go.Proofs.YtdmeocoehahopaaDoor.Sha
open Go.RowKit Go.Proofs.YtdmeocoehahopaaDoorW.PrintWords Go.Proofs.YtdmeocoehahopaaDoorW.PrintLast Go.Proofs.YtdmeocoehahopaaDoorW.PrintMore Go.Proofs.YtdmeocoehahopaaDoor.K
set_option linter.unusedVariables false
set_option maxHeartbeats 1000000 in
theorem round_calls (x : W32) (k : Nat) (w : World) (h : k ≤ 32) :
    Calls Tryd.prog 71 #[.int .u32 (wi x), .int .i64 (k : Int)] w fun e w' => e = .returned (.int .u32 (wi (rotr x k))) ∧ Drawn0 w w' := by
  have HR := Aside0.mk (u32_rotr x k)
  generalize wi (rotr x k) = r at *
  generalize wi x = y at *
  have h1 : (0 : Int) ≤ 32 - (k : Int) := by omega
  have h2 : (32 : Int) - (k : Int) ≤ 32 := by omega
  have h3 : IntKind.i64.wrap (32 - (k : Int)) = 32 - (k : Int) := IntWalk.i64_in _ (by omega)
  have h4 : ((32 : Int) - (k : Int)).toNat = 32 - k := by omega
  go_enter Tryd.func71, Tryd.ntmps71
  go_wp2
  go_quiet (fail)
  go_wp2
  go_ret
  exact ⟨by rw [← HR.out, IntKind.wrap_u32]; rfl, ⟨nq, rfl⟩⟩
theorem round_q (x : W32) (k : Int) (w : World) (n : Nat) (h0 : 0 ≤ k) (h : k ≤ 32) :
    Calls Tryd.prog 71 #[.int .u32 (wi x), .int .i64 k] (w.drewN n) fun e w' => e = .returned (.int .u32 (wi (rotr x k.toNat))) ∧ ∃ m, w' = w.drewN m := by
  obtain ⟨j, rfl⟩ := Int.eq_ofNat_of_zero_le h0
  refine (round_calls x j _ (by omega)).mono ?_
  rintro e w' ⟨he, m, hm⟩
  exact ⟨he, n + m, by rw [hm, World.drewN_drewN]⟩
def sArr (l : List W32) : Array Value := (nums .u32 (l.map wi)).toArray
def wcells (b : List Int) (t : Nat) : List W32 := ws b t ++ List.replicate (64 - t) 0
def constA : Array Value := sArr kL
theorem sArr_get (l : List W32) (i : Nat) (h : i < l.length) : (sArr l)[i]? = some (.int .u32 (wi (l.getD i 0))) := by
  simp [sArr, nums, List.getElem?_eq_getElem h, List.getD_eq_getElem?_getD]
theorem sArr_set (l : List W32) (i : Nat) (x : W32) : (sArr l).setIfInBounds i (.int .u32 (wi x)) = sArr (l.set i x) := by
  apply Array.ext'
  simp [sArr, nums, List.map_set]
theorem wcells_get (b : List Int) (t i : Nat) (h : i < t) : (wcells b t).getD i 0 = (ws b t).getD i 0 := by
  unfold wcells
  rw [List.getD_eq_getElem?_getD, List.getD_eq_getElem?_getD, List.getElem?_append_left (by rw [ws_length]; exact h)]
theorem wcells_set (b : List Int) (t : Nat) (h : t < 64) : (wcells b t).set t (wAt b (ws b t) t) = wcells b (t + 1) := by
  unfold wcells
  rw [List.set_append_right _ _ (by rw [ws_length]; exact Nat.le_refl _), ws_length, Nat.sub_self, show 64 - t = (64 - (t + 1)) + 1 by omega, List.replicate_succ, List.set_cons_zero]
  simp [ws]
theorem wcells_length (b : List Int) (t : Nat) (h : t ≤ 64) : (wcells b t).length = 64 := by
  unfold wcells
  rw [List.length_append, ws_length, List.length_replicate]
  omega
def TurnW (w : World) (a : Array Value) (l : List W32) (wr : World) : Prop :=
  wr.heap[w.heap.size]? = some (.cells a 98 (0, 0)) ∧ wr.heap[w.heap.size + 1]? = some (.cells (sArr (List.replicate 8 0)) 98 (0, 0)) ∧ wr.heap[w.heap.size + 1 + 1]? = some (.cells (sArr l) 105 (0, 0)) ∧ Below w.heap.size w wr
theorem alloc3 (w : World) (o1 o2 o3 : Obj) : (((w.alloc o1).alloc o2).alloc o3).heap[w.heap.size]? = some o1 ∧ (((w.alloc o1).alloc o2).alloc o3).heap[w.heap.size + 1]? = some o2 ∧ (((w.alloc o1).alloc o2).alloc o3).heap[w.heap.size + 1 + 1]? = some o3 := by
  refine ⟨?_, ?_, ?_⟩
  · show (((w.heap.push o1).push o2).push o3)[w.heap.size]? = some o1
    rw [Array.getElem?_push, if_neg (by simp only [Array.size_push]; omega), Array.getElem?_push, if_neg (by simp only [Array.size_push]; omega), Array.getElem?_push, if_pos rfl]
  · show (((w.heap.push o1).push o2).push o3)[w.heap.size + 1]? = some o2
    rw [Array.getElem?_push, if_neg (by simp only [Array.size_push]; omega), Array.getElem?_push, if_pos (by simp only [Array.size_push])]
  · show (((w.heap.push o1).push o2).push o3)[w.heap.size + 1 + 1]? = some o3
    rw [Array.getElem?_push, if_pos (by simp only [Array.size_push])]
theorem TurnW.start (w : World) (a b l : Array Value) (t1 t2 t3 : Nat) (L : List W32) (hb : b = sArr (List.replicate 8 0)) (hl : l = sArr L) (h1 : t1 = 98) (h2 : t2 = 98) (h3 : t3 = 105) : TurnW w a L (((w.alloc (.cells a t1)).alloc (.cells b t2)).alloc (.cells l t3)) := by
  unfold TurnW
  rw [← hb, ← hl, ← h2, ← h3]
  obtain ⟨e1, e2, e3⟩ := alloc3 w (.cells a t1) (.cells b t2) (.cells l t3)
  rw [h1] at e1 e2 e3 ⊢
  exact ⟨by rw [e1, h2], e2, e3, bel_alloc (bel_alloc (bel_alloc (Below.refl _ _) _) _) _⟩
theorem TurnW.below {w w1 w2 : World} {a : Array Value} {l : List W32} (h : TurnW w a l w1) (hb : Below w1.heap.size w1 w2) : TurnW w a l w2 :=
  ⟨(hb.block _ (blk_lt h.1)).trans h.1, (hb.block _ (blk_lt h.2.1)).trans h.2.1, (hb.block _ (blk_lt h.2.2.1)).trans h.2.2.1, below_step h.2.2.2 hb⟩
theorem TurnW.set {w w1 : World} {a : Array Value} {l : List W32} (h : TurnW w a l w1) (i : Nat) (x : W32) : TurnW w a (l.set i x) (w1.setCell ⟨w.heap.size + 1 + 1, i, none⟩ (.int .u32 (wi x))) :=
  ⟨blk_far h.1 (by show w.heap.size ≠ w.heap.size + 1 + 1; omega) _, blk_far h.2.1 (by show w.heap.size + 1 ≠ w.heap.size + 1 + 1; omega) _, by rw [← sArr_set]; exact blk_set h.2.2.1 i _, h.2.2.2.setCell (by simp; omega) _⟩
theorem TurnW.cell {w w1 : World} {a : Array Value} {l : List W32} (h : TurnW w a l w1) (i : Nat) (hi : i < l.length) : w1.cell? ⟨w.heap.size + 1 + 1, i, none⟩ = some (.int .u32 (wi (l.getD i 0))) :=
  (blk_cell h.2.2.1 i).trans (sArr_get l i hi)
theorem TurnW.froz {w w1 : World} {a : Array Value} {l : List W32} (h : TurnW w a l w1) (i : Nat) : w1.frozen? ⟨w.heap.size + 1 + 1, i, none⟩ = false := blk_frozen h.2.2.1 i
theorem info_u8 : (Tryd.prog.info? 5).map (fun i => (i.zero, i.size, i.bytes)) = some (some (.int .u8 0), 1, 1) := by kernel_rfl
theorem blkS_set {w : World} {g t : Nat} {m : List W32} (h : w.heap[g]? = some (.cells (sArr m) t (0, 0))) (i : Nat) (x : W32) : (w.setCell ⟨g, i, none⟩ (.int .u32 (wi x))).heap[g]? = some (.cells (sArr (m.set i x)) t (0, 0)) := by
  rw [← sArr_set]
  exact blk_set h i _
theorem set8_list : ∀ (m : List W32) (hm : m.length = 8) (t : St), (((((((m.set 0 t.a).set 1 t.b).set 2 t.c).set 3 t.d).set 4 t.e).set 5 t.f).set 6 t.g).set 7 t.h = t.l
  | [_, _, _, _, _, _, _, _], _, _ => rfl
theorem blkS_set8 {w : World} {g t : Nat} {m : List W32} (h : w.heap[g]? = some (.cells (sArr m) t (0, 0))) (hm : m.length = 8) (s : St) :
    ((((((((w.setCell ⟨g, 0, none⟩ (.int .u32 (wi s.a))).setCell ⟨g, 1, none⟩ (.int .u32 (wi s.b))).setCell ⟨g, 2, none⟩ (.int .u32 (wi s.c))).setCell ⟨g, 3, none⟩ (.int .u32 (wi s.d))).setCell ⟨g, 4, none⟩ (.int .u32 (wi s.e))).setCell ⟨g, 5, none⟩ (.int .u32 (wi s.f))).setCell ⟨g, 6, none⟩ (.int .u32 (wi s.g))).setCell ⟨g, 7, none⟩ (.int .u32 (wi s.h))).heap[g]? = some (.cells (sArr s.l) t (0, 0)) := by
  have h8 := blkS_set (blkS_set (blkS_set (blkS_set (blkS_set (blkS_set (blkS_set (blkS_set h 0 s.a) 1 s.b) 2 s.c) 3 s.d) 4 s.e) 5 s.f) 6 s.g) 7 s.h
  rw [set8_list m hm s] at h8
  exact h8
/-- The second part: the state that is turned, in a block of its own. -/
def TurnS (w : World) (a : Array Value) (wl : List W32) (n : Nat) (s : St) (wr : World) : Prop :=
  TurnW w a wl wr ∧ wr.heap[n]? = some (.cells (sArr s.l) 98 (0, 0)) ∧ w.heap.size + 1 + 1 < n
theorem TurnW.other {w w1 : World} {a : Array Value} {l : List W32} (h : TurnW w a l w1) (n i : Nat) (hn : w.heap.size + 1 + 1 < n) (v : Value) : TurnW w a l (w1.setCell ⟨n, i, none⟩ v) :=
  ⟨blk_far h.1 (by show w.heap.size ≠ n; omega) _, blk_far h.2.1 (by show w.heap.size + 1 ≠ n; omega) _, blk_far h.2.2.1 (by show w.heap.size + 1 + 1 ≠ n; omega) _, h.2.2.2.setCell (by show w.heap.size ≤ n; omega) _⟩
theorem TurnS.below {w w1 w2 : World} {a : Array Value} {l : List W32} {n : Nat} {s : St} (h : TurnS w a l n s w1) (hb : Below w1.heap.size w1 w2) : TurnS w a l n s w2 :=
  ⟨h.1.below hb, (hb.block _ (blk_lt h.2.1)).trans h.2.1, h.2.2⟩
theorem TurnS.start {w w1 : World} {a : Array Value} {l : List W32} (h : TurnW w a l w1) (s : St) : TurnS w a l w1.heap.size s (w1.alloc (.cells (sArr s.l) 98)) :=
  ⟨h.below (bel_alloc (Below.refl _ _) _), heap_alloc_new _ _, by have := blk_lt h.2.2.1; omega⟩
theorem TurnS.set8 {w w1 : World} {a : Array Value} {l : List W32} {n : Nat} {s : St} (h : TurnS w a l n s w1) (t : St) :
    TurnS w a l n t ((((((((w1.setCell ⟨n, 0, none⟩ (.int .u32 (wi t.a))).setCell ⟨n, 1, none⟩ (.int .u32 (wi t.b))).setCell ⟨n, 2, none⟩ (.int .u32 (wi t.c))).setCell ⟨n, 3, none⟩ (.int .u32 (wi t.d))).setCell ⟨n, 4, none⟩ (.int .u32 (wi t.e))).setCell ⟨n, 5, none⟩ (.int .u32 (wi t.f))).setCell ⟨n, 6, none⟩ (.int .u32 (wi t.g))).setCell ⟨n, 7, none⟩ (.int .u32 (wi t.h))) :=
  ⟨(((((((h.1.other n _ h.2.2 _).other n _ h.2.2 _).other n _ h.2.2 _).other n _ h.2.2 _).other n _ h.2.2 _).other n _ h.2.2 _).other n _ h.2.2 _).other n _ h.2.2 _,
    blkS_set8 h.2.1 rfl t, h.2.2⟩
/-- The third part: row by row. -/
def TurnL (w : World) (a : Array Value) (wl : List W32) (n : Nat) (l : List W32) (wr : World) : Prop :=
  TurnW w a wl wr ∧ wr.heap[n]? = some (.cells (sArr l) 98 (0, 0)) ∧ w.heap.size + 1 + 1 < n
theorem TurnL.below {w w1 w2 : World} {a : Array Value} {l m : List W32} {n : Nat} (h : TurnL w a l n m w1) (hb : Below w1.heap.size w1 w2) : TurnL w a l n m w2 :=
  ⟨h.1.below hb, (hb.block _ (blk_lt h.2.1)).trans h.2.1, h.2.2⟩
theorem TurnL.set {w w1 : World} {a : Array Value} {l m : List W32} {n : Nat} (h : TurnL w a l n m w1) (i : Nat) (x : W32) : TurnL w a l n (m.set i x) (w1.setCell ⟨n, i, none⟩ (.int .u32 (wi x))) :=
  ⟨h.1.other n i h.2.2 _, by rw [← sArr_set]; exact blk_set h.2.1 i _, h.2.2⟩
def mix (l m : List W32) (i : Nat) : List W32 := (List.range 8).map fun j => if j < i then l.getD j 0 + m.getD j 0 else l.getD j 0
theorem mix_at (l m : List W32) (i j : Nat) (hj : j < 8) : (mix l m i).getD j 0 = if j < i then l.getD j 0 + m.getD j 0 else l.getD j 0 := by
  simp [mix, List.getD_eq_getElem?_getD, hj]
theorem mix_length (l m : List W32) (i : Nat) : (mix l m i).length = 8 := by simp [mix]
theorem mix_set (l m : List W32) (i : Nat) (hi : i < 8) : (mix l m i).set i (l.getD i 0 + m.getD i 0) = mix l m (i + 1) := by
  refine List.ext_getElem (by simp [mix]) fun j h1 h2 => ?_
  have hj : j < 8 := by simpa [mix] using h2
  simp only [mix, List.getElem_set, List.getElem_map, List.getElem_range]
  by_cases h : i = j
  · subst h
    rw [if_pos rfl, if_pos (Nat.lt_succ_self _)]
  · rw [if_neg h]
    by_cases h3 : j < i
    · rw [if_pos h3, if_pos (by omega)]
    · rw [if_neg h3, if_neg (by omega)]
theorem mix_start (s : St) (m : List W32) : mix s.l m 0 = s.l := rfl
theorem mix_end (s t : St) : mix s.l t.l 8 = (s.add t).l := rfl
theorem TurnL.out8 {w w1 : World} {a : Array Value} {l m : List W32} {n : Nat} (h : TurnL w a l n m w1) (t : St) :
    ((((((((w1.setCell ⟨w.heap.size + 1, 0, none⟩ (.int .u32 (wi t.a))).setCell ⟨w.heap.size + 1, 1, none⟩ (.int .u32 (wi t.b))).setCell ⟨w.heap.size + 1, 2, none⟩ (.int .u32 (wi t.c))).setCell ⟨w.heap.size + 1, 3, none⟩ (.int .u32 (wi t.d))).setCell ⟨w.heap.size + 1, 4, none⟩ (.int .u32 (wi t.e))).setCell ⟨w.heap.size + 1, 5, none⟩ (.int .u32 (wi t.f))).setCell ⟨w.heap.size + 1, 6, none⟩ (.int .u32 (wi t.g))).setCell ⟨w.heap.size + 1, 7, none⟩ (.int .u32 (wi t.h))).heap[w.heap.size + 1]? = some (.cells (sArr t.l) 98 (0, 0)) ∧
    Below w.heap.size w ((((((((w1.setCell ⟨w.heap.size + 1, 0, none⟩ (.int .u32 (wi t.a))).setCell ⟨w.heap.size + 1, 1, none⟩ (.int .u32 (wi t.b))).setCell ⟨w.heap.size + 1, 2, none⟩ (.int .u32 (wi t.c))).setCell ⟨w.heap.size + 1, 3, none⟩ (.int .u32 (wi t.d))).setCell ⟨w.heap.size + 1, 4, none⟩ (.int .u32 (wi t.e))).setCell ⟨w.heap.size + 1, 5, none⟩ (.int .u32 (wi t.f))).setCell ⟨w.heap.size + 1, 6, none⟩ (.int .u32 (wi t.g))).setCell ⟨w.heap.size + 1, 7, none⟩ (.int .u32 (wi t.h))) :=
  ⟨blkS_set8 h.1.2.1 (List.length_replicate ..) t,
    (((((((h.1.2.2.2.setCell (Nat.le_succ _) _).setCell (Nat.le_succ _) _).setCell (Nat.le_succ _) _).setCell (Nat.le_succ _) _).setCell (Nat.le_succ _) _).setCell (Nat.le_succ _) _).setCell (Nat.le_succ _) _).setCell (Nat.le_succ _) _⟩
theorem info_u32 : (Tryd.prog.info? 97).map (fun i => (i.zero, i.size, i.bytes)) = some (some (.int .u32 0), 1, 4) := by kernel_rfl
theorem const_at (k : Nat) (hk : k < 64) (W : World) : (Instr.index 105 (.agg constA) (.int .i64 (k : Int))).run Tryd.prog W = .ok (.int .u32 (wi (kL.getD k 0))) W :=
  run_index_int 105 97 64 constA .i64 .u32 k Tryd.underlying105 Tryd.underlying97 info_u32 hk _ (sArr_get kL k hk) W
theorem word_or (x0 x1 x2 x3 : Int) (a0 : 0 ≤ x0) (a1 : 0 ≤ x1) (a2 : 0 ≤ x2) (a3 : 0 ≤ x3) (b0 : x0 < 256) (b1 : x1 < 256) (b2 : x2 < 256) (b3 : x3 < 256) :
    Go.bits .or .u32 (x0 * 16777216) (x1 * 65536) = x0 * 16777216 + x1 * 65536 ∧ Go.bits .or .u32 (x0 * 16777216 + x1 * 65536) (x2 * 256) = x0 * 16777216 + x1 * 65536 + x2 * 256 ∧ Go.bits .or .u32 (x0 * 16777216 + x1 * 65536 + x2 * 256) x3 = x0 * 16777216 + x1 * 65536 + x2 * 256 + x3 := by
  have hk : ∀ n : Int, 0 ≤ n → n < 2 ^ 32 → IntKind.u32.wrap n = n := fun n h0 h1 => by rw [IntKind.wrap_u32]; omega
  exact ⟨bits_join .u32 32 (by decide) hk 24 _ _ (by omega) (by omega) (by omega) (by omega) (by omega) (by omega), bits_join .u32 32 (by decide) hk 16 _ _ (by omega) (by omega) (by omega) (by omega) (by omega) (by omega),
    bits_join .u32 32 (by decide) hk 8 _ _ (by omega) (by omega) (by omega) (by omega) (by omega) (by omega)⟩
theorem word_val (x0 x1 x2 x3 : Int) (a0 : 0 ≤ x0) (a1 : 0 ≤ x1) (a2 : 0 ≤ x2) (a3 : 0 ≤ x3) (b0 : x0 < 256) (b1 : x1 < 256) (b2 : x2 < 256) (b3 : x3 < 256) :
    wi (BitVec.ofInt 32 (((x0 * 256 + x1) * 256 + x2) * 256 + x3)) = x0 * 16777216 + x1 * 65536 + x2 * 256 + x3 := by
  unfold wi
  rw [BitVec.toNat_ofInt]
  omega
set_option maxHeartbeats 4000000 in
set_option maxRecDepth 100000 in
theorem turn_calls (s : St) (A : Option Addr) (c : Nat) (b : List Int) (w : World) (hb : Kd.C (Kd.int .u8) w A b.length b) (hbl : b.length = 64) (hc : 64 ≤ c) (hby : ∀ x ∈ b, 0 ≤ x ∧ x < 256) (hL : LaidAt w 2 constA) :
    Calls Tryd.prog 63 #[.agg (sArr s.l), .slice A 64 c] w fun e w' => e = .returned (.agg (sArr (turnV s b).l)) ∧ Below w.heap.size w w' := by
  have HC := Aside0.mk hb
  have HBl := Aside0.mk hbl
  have HBy := Aside0.mk hby
  have HL := Aside0.mk hL
  clear hb hby hL hbl
  obtain ⟨a, ha⟩ : ∃ a, a = sArr s.l := ⟨_, rfl⟩
  rw [← ha]
  have HA := Aside0.mk ha
  clear ha
  go_enter Tryd.func63, Tryd.ntmps63
  go_wp2
  go_loopw [19] (fun v19 wr => ∃ t : Nat, t ≤ 64 ∧ v19 = .int .i64 t ∧ Aside0 (TurnW w a (wcells b t) wr)) (fun v19 _ => 64 - (intOf v19).toNat)
  case atStart => exact ⟨0, Nat.zero_le _, rfl, ⟨TurnW.start w a _ _ _ _ _ (wcells b 0) rfl rfl rfl rfl rfl⟩⟩
  case round =>
    obtain ⟨t, ht, rfl, HW⟩ := hrel
    by_cases hlt : t < 16
    · obtain ⟨A1, hcut1, hread1⟩ := cut_int (P := Tryd.prog) (k := .u8) 57 5 Tryd.underlying57 info_u8 A c b (4 * t) (by have := HBl.out; omega) (by have := HBl.out; omega)
      have hcut : ∀ W : World, (Instr.slice 57 (.slice A 64 c) (some (.int .i64 (4 * (t : Int)))) none none).run Tryd.prog W = .ok (.slice A1 (64 - 4 * t) (c - 4 * t)) W := by
        intro W
        have := hcut1 W
        rw [HBl.out, List.length_drop, HBl.out] at this
        rw [← this]
        simp
      have HX := Aside0.mk (Kd.C_below (hread1 w HC.out) HW.out.2.2.2)
      have HWd := Aside0.mk (wcells_set b t (by omega))
      have HWa : Aside0 (wAt b (ws b t) t = BitVec.ofInt 32 (((b.getD (4 * t) 0 * 256 + b.getD (4 * t + 1) 0) * 256 + b.getD (4 * t + 2) 0) * 256 + b.getD (4 * t + 3) 0)) := ⟨if_pos hlt⟩
      have hl4 : 4 ≤ (b.drop (4 * t)).length := by rw [List.length_drop, HBl.out]; omega
      have hg : ∀ i, (b.drop (4 * t)).getD i 0 = b.getD (4 * t + i) 0 := fun i => by simp [List.getD_eq_getElem?_getD, List.getElem?_drop]
      obtain ⟨ad, rfl, hx0'⟩ := int_at HX.out 0 (by omega)
      have hx0 : wr.cell? ad = some (.int .u8 (b.getD (4 * t) 0)) := by rw [hg] at hx0'; exact hx0'
      have hx1 : wr.cell? ⟨ad.block, ad.off + 1, none⟩ = some (.int .u8 (b.getD (4 * t + 1) 0)) := by rw [← hg]; exact int_cell HX.out (Below.refl _ _) 1 (by omega)
      have hx2 : wr.cell? ⟨ad.block, ad.off + 2, none⟩ = some (.int .u8 (b.getD (4 * t + 2) 0)) := by rw [← hg]; exact int_cell HX.out (Below.refl _ _) 2 (by omega)
      have hx3 : wr.cell? ⟨ad.block, ad.off + 3, none⟩ = some (.int .u8 (b.getD (4 * t + 3) 0)) := by rw [← hg]; exact int_cell HX.out (Below.refl _ _) 3 (by omega)
      obtain ⟨a0, a0'⟩ := byte_at HBy.out (4 * t)
      obtain ⟨a1, a1'⟩ := byte_at HBy.out (4 * t + 1)
      obtain ⟨a2, a2'⟩ := byte_at HBy.out (4 * t + 2)
      obtain ⟨a3, a3'⟩ := byte_at HBy.out (4 * t + 3)
      clear hcut1 hread1 hg hx0' hl4
      generalize b.getD (4 * t) 0 = x0 at *
      generalize b.getD (4 * t + 1) 0 = x1 at *
      generalize b.getD (4 * t + 2) 0 = x2 at *
      generalize b.getD (4 * t + 3) 0 = x3 at *
      have HV := Aside0.mk (word_val x0 x1 x2 x3 a0 a1 a2 a3 a0' a1' a2' a3')
      obtain ⟨o1, o2, o3⟩ := word_or x0 x1 x2 x3 a0 a1 a2 a3 a0' a1' a2' a3'
      have hfz := HW.out.froz t
      have hst : ∃ v, wr.cell? ⟨w.heap.size + 1 + 1, t, none⟩ = some v := ⟨_, HW.out.cell t (by rw [wcells_length _ _ ht]; omega)⟩
      obtain ⟨v0, hst⟩ := hst
      have hw0 : IntKind.u32.wrap x0 = x0 := by rw [IntKind.wrap_u32]; omega
      have hw1 : IntKind.u32.wrap x1 = x1 := by rw [IntKind.wrap_u32]; omega
      have hw2 : IntKind.u32.wrap x2 = x2 := by rw [IntKind.wrap_u32]; omega
      have hw3 : IntKind.u32.wrap x3 = x3 := by rw [IntKind.wrap_u32]; omega
      have hv0 : IntKind.u32.wrap (x0 * 16777216) = x0 * 16777216 := by rw [IntKind.wrap_u32]; omega
      have hv1 : IntKind.u32.wrap (x1 * 65536) = x1 * 65536 := by rw [IntKind.wrap_u32]; omega
      have hv2 : IntKind.u32.wrap (x2 * 256) = x2 * 256 := by rw [IntKind.wrap_u32]; omega
      obtain ⟨v, hv⟩ : ∃ v, v = x0 * 16777216 + x1 * 65536 + x2 * 256 + x3 := ⟨_, rfl⟩
      rw [← hv] at o3 HV
      have HVv := Aside0.mk hv
      clear hv
      go_wp2
      go_still_tail 24, (by kernel_rfl)
      have HW2 : Aside0 (TurnW w a (wcells b t) wr.drew) := ⟨HW.out.below (below_drew (Below.refl _ _))⟩
      have hfz2 := HW2.out.froz t
      have hst2 : wr.drew.cell? ⟨w.heap.size + 1 + 1, t, none⟩ = some v0 := hst
      change wpList _ _ _ _ _ wr.drew
      generalize wr.drew = w2 at *
      go_wp2
      go_roundw
      case measure => simp [intOf]; omega
      case rel => exact ⟨t + 1, by omega, by go_num, ⟨by rw [← HWd.out, HWa.out]; have := HW2.out.set t (BitVec.ofInt 32 (((x0 * 256 + x1) * 256 + x2) * 256 + x3)); rw [HV.out] at this; exact this⟩⟩
    · by_cases hlt2 : t < 64
      · obtain ⟨m, rfl⟩ : ∃ m, t = m + 16 := ⟨t - 16, by omega⟩
        have HWd := Aside0.mk (wcells_set b (m + 16) hlt2)
        have hln : (wcells b (m + 16)).length = 64 := wcells_length _ _ ht
        have HWa : Aside0 (wAt b (ws b (m + 16)) (m + 16) = (ws b (m + 16)).getD m 0 + (ws b (m + 16)).getD (m + 9) 0 + (rotr ((ws b (m + 16)).getD (m + 1) 0) 7 ^^^ rotr ((ws b (m + 16)).getD (m + 1) 0) 18 ^^^ (ws b (m + 16)).getD (m + 1) 0 >>> 3) + (rotr ((ws b (m + 16)).getD (m + 14) 0) 17 ^^^ rotr ((ws b (m + 16)).getD (m + 14) 0) 19 ^^^ (ws b (m + 16)).getD (m + 14) 0 >>> 10)) := ⟨by rw [wAt, if_neg (by omega)]; rfl⟩
        have hc0 := HW.out.cell m (by omega)
        have hc1 := HW.out.cell (m + 1) (by omega)
        have hc9 := HW.out.cell (m + 9) (by omega)
        have hc14 := HW.out.cell (m + 14) (by omega)
        have hc16 := HW.out.cell (m + 16) (by omega)
        rw [wcells_get _ _ _ (by omega)] at hc0 hc1 hc9 hc14
        generalize (ws b (m + 16)).getD m 0 = y0 at *
        generalize (ws b (m + 16)).getD (m + 1) 0 = y1 at *
        generalize (ws b (m + 16)).getD (m + 9) 0 = y9 at *
        generalize (ws b (m + 16)).getD (m + 14) 0 = y14 at *
        generalize Value.int .u32 (wi ((wcells b (m + 16)).getD (m + 16) 0)) = v0 at *
        clear hln
        have hfz := HW.out.froz (m + 16)
        have i0 : IntKind.i64.wrap (((m + 16 : Nat) : Int) - 16) = (m : Int) := by rw [show ((m + 16 : Nat) : Int) - 16 = (m : Int) by omega]; exact IntWalk.i64_in _ (by omega)
        have i1 : IntKind.i64.wrap (((m + 16 : Nat) : Int) - 15) = ((m + 1 : Nat) : Int) := by rw [show ((m + 16 : Nat) : Int) - 15 = ((m + 1 : Nat) : Int) by omega]; exact IntWalk.i64_in _ (by omega)
        have i9 : IntKind.i64.wrap (((m + 16 : Nat) : Int) - 7) = ((m + 9 : Nat) : Int) := by rw [show ((m + 16 : Nat) : Int) - 7 = ((m + 9 : Nat) : Int) by omega]; exact IntWalk.i64_in _ (by omega)
        have i14 : IntKind.i64.wrap (((m + 16 : Nat) : Int) - 2) = ((m + 14 : Nat) : Int) := by rw [show ((m + 16 : Nat) : Int) - 2 = ((m + 14 : Nat) : Int) by omega]; exact IntWalk.i64_in _ (by omega)
        have hlt16 : 16 ≤ m + 16 := by omega
        have b0 : (m : Int) < 64 := by omega
        have b1 : ((m + 1 : Nat) : Int) < 64 := by omega
        have b9 : ((m + 9 : Nat) : Int) < 64 := by omega
        have b14 : ((m + 14 : Nat) : Int) < 64 := by omega
        have b16 : ((m + 16 : Nat) : Int) < 64 := by omega
        generalize m + 16 = t at *
        generalize m + 1 = n1 at *
        generalize m + 9 = n9 at *
        generalize m + 14 = n14 at *
        have hlt16D : decide ((t : Int) < 16) = false := by simp; omega
        clear hlt
        go_wp2
        go_quiet (fail)
        have HW1 : Aside0 (TurnW w a (wcells b t) (wr.drewN nq)) := ⟨HW.out.below (pw_below_drewN (Below.refl _ _) _)⟩
        have hc0' : (wr.drewN nq).cell? ⟨w.heap.size + 1 + 1, m, none⟩ = some (Value.int IntKind.u32 (wi y0)) := hc0
        have hc9' : (wr.drewN nq).cell? ⟨w.heap.size + 1 + 1, n9, none⟩ = some (Value.int IntKind.u32 (wi y9)) := hc9
        clear hc0 hc9 hc1 hc14 hc16 hfz HW
        generalize wr.drewN nq = w1 at *
        have ax : ∀ p q : W32, Go.bits .xor .u32 (wi p) (wi q) = wi (p ^^^ q) := u32_xor
        have a3 : ∀ q : W32, Go.bits .xor .u32 (wi q) (wi y1 / 8) = wi (q ^^^ y1 >>> 3) := fun q => by rw [show wi y1 / (8 : Int) = wi (y1 >>> 3) from u32_shr y1 3, u32_xor]
        have a10 : ∀ q : W32, Go.bits .xor .u32 (wi q) (wi y14 / 1024) = wi (q ^^^ y14 >>> 10) := fun q => by rw [show wi y14 / (1024 : Int) = wi (y14 >>> 10) from u32_shr y14 10, u32_xor]
        have ad : ∀ p q : W32, IntKind.u32.wrap (wi p + wi q) = wi (p + q) := u32_add
        go_wp2
        refine wp_region_quiet_store 33 (by kernel_rfl) rfl rfl (by kernel_rfl) ?_
        simp only [List.take_succ_cons, List.take_zero, List.cons_append, List.nil_append]
        repeat (go_big_quiet_step ((go_at_call 71; exact round_q _ _ _ _ (by decide) (by decide))))
        refine wpQuiet_nil ?_
        rintro w2 ⟨nq2, rfl⟩
        clear ax a3 a10 ad
        have HW2 : Aside0 (TurnW w a (wcells b t) (w1.drewN nq2)) := ⟨HW1.out.below (pw_below_drewN (Below.refl _ _) _)⟩
        have hfz2 := HW2.out.froz t
        have hst2 : ∃ v, (w1.drewN nq2).cell? ⟨w.heap.size + 1 + 1, t, none⟩ = some v := ⟨_, HW2.out.cell t (by rw [wcells_length _ _ ht]; omega)⟩
        obtain ⟨v2, hst2⟩ := hst2
        generalize w1.drewN nq2 = w2 at *
        go_wp2
        go_roundw
        case measure => simp [intOf]; omega
        case rel => exact ⟨t + 1, by omega, by go_num, ⟨by rw [← HWd.out, HWa.out]; exact HW2.out.set t _⟩⟩
      · obtain rfl : t = 64 := by omega
        have hw64 : wcells b 64 = ws b 64 := by simp [wcells]
        rw [hw64] at HW
        clear hw64 hlt hlt2 ht
        have hln : (ws b 64).length = 64 := ws_length b 64
        have HWl := Aside0.mk (⟨ws b 64, rfl⟩ : ∃ wl, wl = ws b 64)
        obtain ⟨wl, hwl⟩ := HWl.out
        rw [← hwl] at HW hln
        have HWl := Aside0.mk hwl
        have HLn := Aside0.mk hln
        clear hwl hln
        obtain ⟨sa, sb, sc, sd, se, sf, sg, sh⟩ := s
        obtain rfl : a = #[.int .u32 (wi sa), .int .u32 (wi sb), .int .u32 (wi sc), .int .u32 (wi sd), .int .u32 (wi se), .int .u32 (wi sf), .int .u32 (wi sg), .int .u32 (wi sh)] := HA.out
        have hs0 : wr.cell? ⟨w.heap.size, 0, none⟩ = some (.int .u32 (wi sa)) := blk_cell HW.out.1 0
        have hs1 : wr.cell? ⟨w.heap.size, 1, none⟩ = some (.int .u32 (wi sb)) := blk_cell HW.out.1 1
        have hs2 : wr.cell? ⟨w.heap.size, 2, none⟩ = some (.int .u32 (wi sc)) := blk_cell HW.out.1 2
        have hs3 : wr.cell? ⟨w.heap.size, 3, none⟩ = some (.int .u32 (wi sd)) := blk_cell HW.out.1 3
        have hs4 : wr.cell? ⟨w.heap.size, 4, none⟩ = some (.int .u32 (wi se)) := blk_cell HW.out.1 4
        have hs5 : wr.cell? ⟨w.heap.size, 5, none⟩ = some (.int .u32 (wi sf)) := blk_cell HW.out.1 5
        have hs6 : wr.cell? ⟨w.heap.size, 6, none⟩ = some (.int .u32 (wi sg)) := blk_cell HW.out.1 6
        have hs7 : wr.cell? ⟨w.heap.size, 7, none⟩ = some (.int .u32 (wi sh)) := blk_cell HW.out.1 7
        obtain ⟨lt, lfr, hblk⟩ := HL.out
        have HBk : Aside0 (∀ o : Obj, (wr.alloc o).heap[2]? = some (.cells constA lt lfr)) := ⟨fun o => by
          have h1 : wr.heap[2]? = some (.cells constA lt lfr) := (HW.out.2.2.2.block _ (blk_lt hblk)).trans hblk
          exact ((bel_alloc (Below.refl wr.heap.size wr) o).block _ (blk_lt h1)).trans h1⟩
        clear hblk
        have HS := Aside0.mk (TurnS.start HW.out ⟨sa, sb, sc, sd, se, sf, sg, sh⟩)
        go_wp2_with (with_reducible refine wpList_load_row rfl 105 (.global 2) rfl 2 rfl lt constA lfr _ (HBk.out _) Tryd.underlying105 rfl (by kernel_rfl) ?_)
        clear hs0 hs1 hs2 hs3 hs4 hs5 hs6 hs7 HA
        generalize wr.heap.size = n3 at *
        go_loopw [97] (fun v97 wr' => ∃ t : Nat, t ≤ 64 ∧ v97 = .int .i64 t ∧ Aside0 (TurnS w #[.int .u32 (wi sa), .int .u32 (wi sb), .int .u32 (wi sc), .int .u32 (wi sd), .int .u32 (wi se), .int .u32 (wi sf), .int .u32 (wi sg), .int .u32 (wi sh)] wl n3 (rs ⟨sa, sb, sc, sd, se, sf, sg, sh⟩ wl t) wr')) (fun v97 _ => 64 - (intOf v97).toNat)
        case atStart => exact ⟨0, Nat.zero_le _, rfl, HS⟩
        case round =>
          obtain ⟨t, ht, rfl, HT⟩ := hrel
          by_cases hlt : t < 64
          · have hix := const_at t hlt
            have hltI : (t : Int) < 64 := by omega
            generalize hkt : kL.getD t 0 = kt at *
            obtain ⟨wt, hwt0⟩ : ∃ wt, wl.getD t 0 = wt := ⟨_, rfl⟩
            obtain ⟨st, hst⟩ : ∃ st, st = rs ⟨sa, sb, sc, sd, se, sf, sg, sh⟩ wl t := ⟨_, rfl⟩
            rw [← hst] at HT
            obtain ⟨p0, p1, p2, p3, p4, p5, p6, p7⟩ := st
            have HN : Aside0 (rs ⟨sa, sb, sc, sd, se, sf, sg, sh⟩ wl (t + 1) = ⟨(p7 + (rotr p4 6 ^^^ rotr p4 11 ^^^ rotr p4 25) + (p6 ^^^ p4 &&& (p5 ^^^ p6)) + kt + wt) + ((rotr p0 2 ^^^ rotr p0 13 ^^^ rotr p0 22) + (p0 &&& p1 ||| p2 &&& (p0 ||| p1))), p0, p1, p2, p3 + (p7 + (rotr p4 6 ^^^ rotr p4 11 ^^^ rotr p4 25) + (p6 ^^^ p4 &&& (p5 ^^^ p6)) + kt + wt), p4, p5, p6⟩) := ⟨by
              show rnd (rs ⟨sa, sb, sc, sd, se, sf, sg, sh⟩ wl t) (kL.getD t 0) (wl.getD t 0) = _
              rw [← hst, hkt, hwt0]
              rfl⟩
            have HWt := Aside0.mk hwt0
            clear hst hkt hwt0
            have h0 : wr.cell? ⟨n3, 0, none⟩ = some (.int .u32 (wi p0)) := blk_cell HT.out.2.1 0
            have h1 : wr.cell? ⟨n3, 1, none⟩ = some (.int .u32 (wi p1)) := blk_cell HT.out.2.1 1
            have h2 : wr.cell? ⟨n3, 2, none⟩ = some (.int .u32 (wi p2)) := blk_cell HT.out.2.1 2
            have h3 : wr.cell? ⟨n3, 3, none⟩ = some (.int .u32 (wi p3)) := blk_cell HT.out.2.1 3
            have h4 : wr.cell? ⟨n3, 4, none⟩ = some (.int .u32 (wi p4)) := blk_cell HT.out.2.1 4
            have h5 : wr.cell? ⟨n3, 5, none⟩ = some (.int .u32 (wi p5)) := blk_cell HT.out.2.1 5
            have h6 : wr.cell? ⟨n3, 6, none⟩ = some (.int .u32 (wi p6)) := blk_cell HT.out.2.1 6
            have h7 : wr.cell? ⟨n3, 7, none⟩ = some (.int .u32 (wi p7)) := blk_cell HT.out.2.1 7
            go_wp2
            go_quiet (fail)
            have HT1 : Aside0 _ := ⟨HT.out.below (pw_below_drewN (Below.refl _ _) nq)⟩
            clear h0 h1 h2 h3 h4 h5 h6 h7 HT
            generalize wr.drewN nq = w1 at *
            have h0 : w1.cell? ⟨n3, 0, none⟩ = some (.int .u32 (wi p0)) := blk_cell HT1.out.2.1 0
            have h1 : w1.cell? ⟨n3, 1, none⟩ = some (.int .u32 (wi p1)) := blk_cell HT1.out.2.1 1
            have h2 : w1.cell? ⟨n3, 2, none⟩ = some (.int .u32 (wi p2)) := blk_cell HT1.out.2.1 2
            have h3 : w1.cell? ⟨n3, 3, none⟩ = some (.int .u32 (wi p3)) := blk_cell HT1.out.2.1 3
            have h4 : w1.cell? ⟨n3, 4, none⟩ = some (.int .u32 (wi p4)) := blk_cell HT1.out.2.1 4
            have h5 : w1.cell? ⟨n3, 5, none⟩ = some (.int .u32 (wi p5)) := blk_cell HT1.out.2.1 5
            have h6 : w1.cell? ⟨n3, 6, none⟩ = some (.int .u32 (wi p6)) := blk_cell HT1.out.2.1 6
            have h7 : w1.cell? ⟨n3, 7, none⟩ = some (.int .u32 (wi p7)) := blk_cell HT1.out.2.1 7
            have hwt : w1.cell? ⟨w.heap.size + 1 + 1, t, none⟩ = some (.int .u32 (wi wt)) := by rw [← HWt.out]; exact HT1.out.1.cell t (by rw [HLn.out]; exact hlt)
            have ax : ∀ p q : W32, Go.bits .xor .u32 (wi p) (wi q) = wi (p ^^^ q) := u32_xor
            have aa : ∀ p q : W32, Go.bits .and .u32 (wi p) (wi q) = wi (p &&& q) := u32_and
            have ao : ∀ p q : W32, Go.bits .or .u32 (wi p) (wi q) = wi (p ||| q) := u32_or
            have ad : ∀ p q : W32, IntKind.u32.wrap (wi p + wi q) = wi (p + q) := u32_add
            go_wp2
            go_quiet ((go_at_call 71; exact round_q _ _ _ _ (by decide) (by decide)))
            obtain ⟨P, hP⟩ : ∃ P, P = (p7 + (rotr p4 6 ^^^ rotr p4 11 ^^^ rotr p4 25) + (p6 ^^^ p4 &&& (p5 ^^^ p6)) + kt + wt) := ⟨_, rfl⟩
            rw [← hP] at HN ⊢
            clear hP hwt
            have HT2 : Aside0 _ := ⟨HT1.out.below (pw_below_drewN (Below.refl _ _) nq)⟩
            clear h0 h1 h2 h3 h4 h5 h6 h7 HT1
            generalize w1.drewN nq = w2 at *
            have h0 : w2.cell? ⟨n3, 0, none⟩ = some (.int .u32 (wi p0)) := blk_cell HT2.out.2.1 0
            have h1 : w2.cell? ⟨n3, 1, none⟩ = some (.int .u32 (wi p1)) := blk_cell HT2.out.2.1 1
            have h2 : w2.cell? ⟨n3, 2, none⟩ = some (.int .u32 (wi p2)) := blk_cell HT2.out.2.1 2
            have h3 : w2.cell? ⟨n3, 3, none⟩ = some (.int .u32 (wi p3)) := blk_cell HT2.out.2.1 3
            have h4 : w2.cell? ⟨n3, 4, none⟩ = some (.int .u32 (wi p4)) := blk_cell HT2.out.2.1 4
            have h5 : w2.cell? ⟨n3, 5, none⟩ = some (.int .u32 (wi p5)) := blk_cell HT2.out.2.1 5
            have h6 : w2.cell? ⟨n3, 6, none⟩ = some (.int .u32 (wi p6)) := blk_cell HT2.out.2.1 6
            have h7 : w2.cell? ⟨n3, 7, none⟩ = some (.int .u32 (wi p7)) := blk_cell HT2.out.2.1 7
            go_wp2
            go_quiet ((go_at_call 71; exact round_q _ _ _ _ (by decide) (by decide)))
            obtain ⟨Qv, hQ⟩ : ∃ Qv, Qv = ((rotr p0 2 ^^^ rotr p0 13 ^^^ rotr p0 22) + (p0 &&& p1 ||| p2 &&& (p0 ||| p1))) := ⟨_, rfl⟩
            rw [← hQ] at HN ⊢
            clear hQ ax aa ao
            have HT3 : Aside0 _ := ⟨HT2.out.below (pw_below_drewN (Below.refl _ _) nq)⟩
            clear h0 h1 h2 h3 h4 h5 h6 h7 HT2
            generalize w2.drewN nq = w3 at *
            have h0 : w3.cell? ⟨n3, 0, none⟩ = some (.int .u32 (wi p0)) := blk_cell HT3.out.2.1 0
            have h1 : w3.cell? ⟨n3, 1, none⟩ = some (.int .u32 (wi p1)) := blk_cell HT3.out.2.1 1
            have h2 : w3.cell? ⟨n3, 2, none⟩ = some (.int .u32 (wi p2)) := blk_cell HT3.out.2.1 2
            have h3 : w3.cell? ⟨n3, 3, none⟩ = some (.int .u32 (wi p3)) := blk_cell HT3.out.2.1 3
            have h4 : w3.cell? ⟨n3, 4, none⟩ = some (.int .u32 (wi p4)) := blk_cell HT3.out.2.1 4
            have h5 : w3.cell? ⟨n3, 5, none⟩ = some (.int .u32 (wi p5)) := blk_cell HT3.out.2.1 5
            have h6 : w3.cell? ⟨n3, 6, none⟩ = some (.int .u32 (wi p6)) := blk_cell HT3.out.2.1 6
            have h7 : w3.cell? ⟨n3, 7, none⟩ = some (.int .u32 (wi p7)) := blk_cell HT3.out.2.1 7
            have f0 : w3.frozen? ⟨n3, 0, none⟩ = false := blk_frozen HT3.out.2.1 0
            have f1 : w3.frozen? ⟨n3, 1, none⟩ = false := blk_frozen HT3.out.2.1 1
            have f2 : w3.frozen? ⟨n3, 2, none⟩ = false := blk_frozen HT3.out.2.1 2
            have f3 : w3.frozen? ⟨n3, 3, none⟩ = false := blk_frozen HT3.out.2.1 3
            have f4 : w3.frozen? ⟨n3, 4, none⟩ = false := blk_frozen HT3.out.2.1 4
            have f5 : w3.frozen? ⟨n3, 5, none⟩ = false := blk_frozen HT3.out.2.1 5
            have f6 : w3.frozen? ⟨n3, 6, none⟩ = false := blk_frozen HT3.out.2.1 6
            have f7 : w3.frozen? ⟨n3, 7, none⟩ = false := blk_frozen HT3.out.2.1 7
            have ad2 : ∀ p q : W32, (wi p + wi q) % 4294967296 = wi (p + q) := fun p q => by rw [← u32_add, IntKind.wrap_u32]
            go_wp2
            go_roundw
            case measure => simp [intOf]; omega
            case rel => exact ⟨t + 1, by omega, by go_num, ⟨by rw [HN.out]; exact HT3.out.set8 ⟨P + Qv, p0, p1, p2, p3 + P, p4, p5, p6⟩⟩⟩
          · obtain rfl : t = 64 := by omega
            clear hlt ht
            have HL0 : Aside0 (TurnL w #[.int .u32 (wi sa), .int .u32 (wi sb), .int .u32 (wi sc), .int .u32 (wi sd), .int .u32 (wi se), .int .u32 (wi sf), .int .u32 (wi sg), .int .u32 (wi sh)] wl n3 (rs ⟨sa, sb, sc, sd, se, sf, sg, sh⟩ wl 64).l wr) := HT
            have HV : Aside0 (turnV ⟨sa, sb, sc, sd, se, sf, sg, sh⟩ b = (rs ⟨sa, sb, sc, sd, se, sf, sg, sh⟩ wl 64).add ⟨sa, sb, sc, sd, se, sf, sg, sh⟩) := ⟨by rw [HWl.out]; rfl⟩
            generalize rs ⟨sa, sb, sc, sd, se, sf, sg, sh⟩ wl 64 = st at *
            clear HT
            go_wp2
            go_loopw [179] (fun v179 wr' => ∃ i : Nat, i ≤ 8 ∧ v179 = .int .i64 i ∧ Aside0 (TurnL w #[.int .u32 (wi sa), .int .u32 (wi sb), .int .u32 (wi sc), .int .u32 (wi sd), .int .u32 (wi se), .int .u32 (wi sf), .int .u32 (wi sg), .int .u32 (wi sh)] wl n3 (mix st.l [sa, sb, sc, sd, se, sf, sg, sh] i) wr')) (fun v179 _ => 8 - (intOf v179).toNat)
            case atStart => exact ⟨0, Nat.zero_le _, rfl, HL0⟩
            case round =>
              obtain ⟨i, hi, rfl, HT⟩ := hrel
              by_cases hlt : i < 8
              · have hltI : (i : Int) < 8 := by omega
                have HS2 := Aside0.mk (mix_set st.l [sa, sb, sc, sd, se, sf, sg, sh] i hlt)
                have h1 : wr.cell? ⟨n3, i, none⟩ = some (.int .u32 (wi (st.l.getD i 0))) := by rw [blk_cell HT.out.2.1 i, sArr_get _ _ (by rw [mix_length]; exact hlt), mix_at _ _ _ _ hlt, if_neg (Nat.lt_irrefl _)]
                have h2 : wr.cell? ⟨w.heap.size, i, none⟩ = some (.int .u32 (wi ([sa, sb, sc, sd, se, sf, sg, sh].getD i 0))) := by rw [blk_cell HT.out.1.1 i]; exact sArr_get [sa, sb, sc, sd, se, sf, sg, sh] i hlt
                generalize st.l.getD i 0 = x at *
                generalize [sa, sb, sc, sd, se, sf, sg, sh].getD i 0 = y at *
                have ad : IntKind.u32.wrap (wi x + wi y) = wi (x + y) := u32_add x y
                go_wp2
                refine wp_region_quiet_store 8 (by kernel_rfl) rfl rfl (by kernel_rfl) ?_
                simp only [List.take_succ_cons, List.take_zero, List.cons_append, List.nil_append]
                repeat (go_big_quiet_step (fail))
                refine wpQuiet_nil ?_
                rintro w2 ⟨nq2, rfl⟩
                have HW2 : Aside0 _ := ⟨HT.out.below (pw_below_drewN (Below.refl _ _) nq2)⟩
                clear h1 h2 HT ad
                have hfz2 : (wr.drewN nq2).frozen? ⟨n3, i, none⟩ = false := blk_frozen HW2.out.2.1 i
                have hst2 : ∃ v, (wr.drewN nq2).cell? ⟨n3, i, none⟩ = some v := ⟨_, (blk_cell HW2.out.2.1 i).trans (sArr_get _ _ (by rw [mix_length]; exact hlt))⟩
                obtain ⟨v2, hst2⟩ := hst2
                generalize wr.drewN nq2 = w2 at *
                go_wp2
                go_roundw
                case measure => simp [intOf]; omega
                case rel => exact ⟨i + 1, by omega, by go_num, ⟨by rw [← HS2.out]; exact HW2.out.set i _⟩⟩
              · obtain rfl : i = 8 := by omega
                rw [show mix st.l [sa, sb, sc, sd, se, sf, sg, sh] 8 = (st.add ⟨sa, sb, sc, sd, se, sf, sg, sh⟩).l from mix_end st ⟨sa, sb, sc, sd, se, sf, sg, sh⟩] at HT
                have HV2 := HV
                clear HV
                generalize st.add ⟨sa, sb, sc, sd, se, sf, sg, sh⟩ = r at *
                obtain ⟨p0, p1, p2, p3, p4, p5, p6, p7⟩ := r
                clear hlt hi
                have h0 : wr.cell? ⟨n3, 0, none⟩ = some (.int .u32 (wi p0)) := blk_cell HT.out.2.1 0
                have h1 : wr.cell? ⟨n3, 1, none⟩ = some (.int .u32 (wi p1)) := blk_cell HT.out.2.1 1
                have h2 : wr.cell? ⟨n3, 2, none⟩ = some (.int .u32 (wi p2)) := blk_cell HT.out.2.1 2
                have h3 : wr.cell? ⟨n3, 3, none⟩ = some (.int .u32 (wi p3)) := blk_cell HT.out.2.1 3
                have h4 : wr.cell? ⟨n3, 4, none⟩ = some (.int .u32 (wi p4)) := blk_cell HT.out.2.1 4
                have h5 : wr.cell? ⟨n3, 5, none⟩ = some (.int .u32 (wi p5)) := blk_cell HT.out.2.1 5
                have h6 : wr.cell? ⟨n3, 6, none⟩ = some (.int .u32 (wi p6)) := blk_cell HT.out.2.1 6
                have h7 : wr.cell? ⟨n3, 7, none⟩ = some (.int .u32 (wi p7)) := blk_cell HT.out.2.1 7
                have g0 : wr.cell? ⟨w.heap.size + 1, 0, none⟩ = some (.int .u32 (wi 0)) := blk_cell HT.out.1.2.1 0
                have g1 : wr.cell? ⟨w.heap.size + 1, 1, none⟩ = some (.int .u32 (wi 0)) := blk_cell HT.out.1.2.1 1
                have g2 : wr.cell? ⟨w.heap.size + 1, 2, none⟩ = some (.int .u32 (wi 0)) := blk_cell HT.out.1.2.1 2
                have g3 : wr.cell? ⟨w.heap.size + 1, 3, none⟩ = some (.int .u32 (wi 0)) := blk_cell HT.out.1.2.1 3
                have g4 : wr.cell? ⟨w.heap.size + 1, 4, none⟩ = some (.int .u32 (wi 0)) := blk_cell HT.out.1.2.1 4
                have g5 : wr.cell? ⟨w.heap.size + 1, 5, none⟩ = some (.int .u32 (wi 0)) := blk_cell HT.out.1.2.1 5
                have g6 : wr.cell? ⟨w.heap.size + 1, 6, none⟩ = some (.int .u32 (wi 0)) := blk_cell HT.out.1.2.1 6
                have g7 : wr.cell? ⟨w.heap.size + 1, 7, none⟩ = some (.int .u32 (wi 0)) := blk_cell HT.out.1.2.1 7
                have f0 : wr.frozen? ⟨w.heap.size + 1, 0, none⟩ = false := blk_frozen HT.out.1.2.1 0
                have f1 : wr.frozen? ⟨w.heap.size + 1, 1, none⟩ = false := blk_frozen HT.out.1.2.1 1
                have f2 : wr.frozen? ⟨w.heap.size + 1, 2, none⟩ = false := blk_frozen HT.out.1.2.1 2
                have f3 : wr.frozen? ⟨w.heap.size + 1, 3, none⟩ = false := blk_frozen HT.out.1.2.1 3
                have f4 : wr.frozen? ⟨w.heap.size + 1, 4, none⟩ = false := blk_frozen HT.out.1.2.1 4
                have f5 : wr.frozen? ⟨w.heap.size + 1, 5, none⟩ = false := blk_frozen HT.out.1.2.1 5
                have f6 : wr.frozen? ⟨w.heap.size + 1, 6, none⟩ = false := blk_frozen HT.out.1.2.1 6
                have f7 : wr.frozen? ⟨w.heap.size + 1, 7, none⟩ = false := blk_frozen HT.out.1.2.1 7
                have HO := Aside0.mk (HT.out.out8 ⟨p0, p1, p2, p3, p4, p5, p6, p7⟩)
                go_wp2
                exact bodyPost_ret (results_cell_row Tryd.results63 _ _ (w.heap.size + 1) 98 _ (0, 0) _ rfl HO.out.1 Tryd.underlying98 rfl (show (Tryd.prog.info? 98).map (·.size) = some 8 from by kernel_rfl)) rfl ⟨by rw [HV2.out], HO.out.2⟩
end Go.Proofs.YtdmeocoehahopaaDoor.Sha
namespace Go.Proofs.YtdmeocoehahopaaDoor.K
open Go.RowKit Go.Proofs.YtdmeocoehahopaaDoorW.PrintWords Go.Proofs.YtdmeocoehahopaaDoorW.PrintLast Go.Proofs.YtdmeocoehahopaaDoorW.PrintMore
theorem q_of_Q {k : IntKind} {e : Nat} {w : World} {base : Nat} {ok : Nat → Prop} {v : Value} {xs : List Int} (h : Kd.Q (Kd.int k) e w base ok v xs) : QRow w base e 1 v xs.length (nums k xs) := by
  obtain ⟨_, inner, ho, hr⟩ := h
  have hi : inner = nums k xs := Kd.reps_encs hr
  rw [← hi]
  exact ho
theorem Q_of_q {k : IntKind} {e : Nat} {w : World} {base : Nat} {v : Value} {xs : List Int} (h : QRow w base e 1 v xs.length (nums k xs)) : Kd.Q (Kd.int k) e w base (fun _ => True) v xs :=
  ⟨fun _ _ => trivial, nums k xs, h, Kd.reps_scalar xs⟩
section
variable {P : Program} {ops : Array Oper} {rest : List Oper} {o : Oper} {a : Act} {Q : Exit → Act → World → Prop}
theorem append_q {w0 W : World} (base : Nat) (hgd : o.guard = none) (s x : Operand) (t e : TypeId) (k : IntKind) (bytes : Nat)
    (ho : o.op = .call { callee := .builtin .append, args := #[s, x], argTypes := #[t, t] })
    (ht : P.underlying t = some (.slice e)) (hinfo : (P.info? e).map (fun i => (i.zero, i.size, i.bytes)) = some (some (.int k 0), 1, bytes)) (hb0 : 0 < bytes)
    (v : Value) (xs ys : List Int) (A : Option Addr) (m c : Nat) (hs : a.eval s = v) (hx : a.eval x = .slice A m c)
    (HO : Kd.Q (Kd.int k) e W base (fun _ => True) v xs) (HR : Kd.C (Kd.int k) W A m ys) (HB : Below base w0 W) (hbase : base ≤ W.heap.size) (hl : (xs.length + m) * bytes ≤ 140737488355328)
    (h : ∀ v1 w1, Kd.Q (Kd.int k) e w1 base (fun _ => True) v1 (xs ++ ys) → Below base w0 w1 → W.grownBy w1 v.ownBlock → (v1.ownBlock = v.ownBlock ∨ ∃ b, v1.ownBlock = some b ∧ W.heap.size ≤ b) → wpList P ops Q rest (a.put o.dst v1) w1) :
    wpList P ops Q (o :: rest) a W := by
  obtain ⟨i0, hi, hzz⟩ := Option.map_eq_some_iff.1 hinfo
  simp only [Prod.mk.injEq] at hzz
  obtain ⟨hz0, hz1, hz2⟩ := hzz
  have HR' := reads_int HR
  have hm : ys.length = m := HR'.1
  have hq := q_of_Q HO
  have hlen : xs.length + m ≤ 140737488355328 := Nat.le_trans (Nat.le_mul_of_pos_right _ hb0) hl
  have hrun : ∃ v1 w1, (Builtin.append_ #[t, t] o.type #[v, .slice A m c]).run P W = .ok v1 w1 ∧ QRow w1 base e 1 v1 (xs ++ ys).length (nums k (xs ++ ys)) ∧ W.grownBy w1 v.ownBlock ∧ (v1.ownBlock = v.ownBlock ∨ ∃ b, v1.ownBlock = some b ∧ W.heap.size ≤ b) := by
    rcases Nat.eq_zero_or_pos m with h0 | h0
    · subst h0
      obtain rfl : ys = [] := List.eq_nil_of_length_eq_zero hm
      obtain ⟨A', c', rfl, hc'⟩ := q_slice hq
      refine ⟨_, W, ?_, by simpa using hq, World.grownBy.refl W _, .inl rfl⟩
      cases A <;> cases A' <;> simp [Builtin.append_, run_underlying ht, sizeOf, typeInfo, hi, Builtin.lenOf, Builtin.firstCells, hc', storeCells, loadCells, loadCellsFrom]
    · obtain ⟨ad, rfl, hc0⟩ := HR'.2.2 h0
      obtain ⟨v1, w1, hr, h2, h3, h4⟩ := q_append (P := P) W base t o.type e i0 (.int k 0) 1 bytes ht hi hz0 hz1 hz2 rfl (by omega) v xs.length (nums k xs) hq ad m c (nums k ys) (by simp [nums, hm])
        (fun j u hu => by
          have hj : j < ys.length := by
            rcases Nat.lt_or_ge j ys.length with h | h
            · exact h
            · simp [nums, List.getElem?_eq_none h] at hu
          have := hc0 j (by omega)
          simp [nums, List.getElem?_eq_getElem hj] at hu
          subst hu
          rw [this]
          simp [List.getD_eq_getElem?_getD, List.getElem?_eq_getElem hj])
        (by intro u hu; simp only [nums, List.mem_map] at hu; obtain ⟨q, _, rfl⟩ := hu; rfl) h0 (by simp only [maxLen]; omega) hl hbase
      exact ⟨v1, w1, hr, by simpa [nums, hm] using h2, h3, h4⟩
  obtain ⟨v1, w1, hr, hown, hg, hat⟩ := hrun
  refine wpList_plain hgd fun K hK => ?_
  unfold Oper.wp execOp
  simp only [ho, resolve, invoke, builtin, Sem.run_bind, Sem.run_pure, Result.andThen_ok, List.map_toArray, List.map_cons, List.map_nil, hs, hx, hr]
  exact hK _ _ (h v1 w1 (Q_of_q hown) (HB.grown hg hbase (fun k hk => (q_typed hq k hk).1)) hg hat)
end
end Go.Proofs.YtdmeocoehahopaaDoor.K
