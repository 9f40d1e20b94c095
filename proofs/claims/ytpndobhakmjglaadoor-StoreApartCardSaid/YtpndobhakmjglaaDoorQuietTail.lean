/- A region that draws its order: reads and quiet calls, and one store behind them all: one walk. -/
import Derived.Test.YtpndobhakmjglaaDoorK
import Derived.Deep.QuietTactic
import Derived.BigQuiet
namespace Go.Proofs.YtpndobhakmjglaaDoor.K
open Go
section
variable {P : Program} {Q : Exit → Act → World → Prop} {C : World → Prop}
/-- The store's stand-in: it waits as the store does, and does nothing. -/
def stood (o : Oper) : Oper := { dst := none, op := .assign (.const (.bool true)), type := 0, pos := "", after := o.after, guard := none }
theorem snoc_at (l : List Oper) (o : Oper) (i : Nat) (hi : i < l.length) : (l ++ [o]).toArray[i]? = l[i]? := by
  rw [List.getElem?_toArray, List.getElem?_append_left hi]
theorem snoc_last (l : List Oper) (o : Oper) : (l ++ [o]).toArray[l.length]? = some o := by
  rw [List.getElem?_toArray, List.getElem?_append_right (Nat.le_refl _), Nat.sub_self]
  rfl
theorem stood_ready (l : List Oper) (o : Oper) (listed : Array Bool) : Region.ready .any (l ++ [stood o]).toArray listed = Region.ready .any (l ++ [o]).toArray listed := by
  unfold Region.ready
  have hs : (l ++ [stood o]).toArray.size = (l ++ [o]).toArray.size := by simp
  rw [hs]
  refine List.filter_congr fun i hi => ?_
  have hi' : i < l.length + 1 := by simpa using hi
  rcases Nat.lt_or_ge i l.length with h | h
  · rw [snoc_at _ _ _ h, snoc_at _ _ _ h]
  · obtain rfl : i = l.length := by omega
    rw [snoc_last, snoc_last]
    rfl
theorem stood_yielded (l : List Oper) (o : Oper) (hd : o.dst = none) (tmps : Array Value) : yielded (l ++ [stood o]).toArray tmps = yielded (l ++ [o]).toArray tmps := by
  funext j
  unfold yielded
  rcases Nat.lt_or_ge j l.length with h | h
  · rw [snoc_at _ _ _ h, snoc_at _ _ _ h]
  · rcases Nat.lt_or_ge l.length j with h2 | h2
    · rw [Array.getElem?_eq_none (by simp; omega), Array.getElem?_eq_none (by simp; omega)]
    · obtain rfl : j = l.length := by omega
      rw [snoc_last, snoc_last, Option.bind_some, Option.bind_some, hd]
      rfl
/-- The store comes up behind all others. -/
theorem last_ready (l : List Oper) (o : Oper) (listed : Array Bool) (hall : ((List.range l.length).all fun i => o.after.any fun e => Region.binds .any e && e.on == i) = true) (hr : l.length ∈ Region.ready .any (l ++ [o]).toArray listed) :
    ∀ i, i < l.length → listed.getD i false = true := by
  intro i hi
  unfold Region.ready at hr
  rw [List.mem_filter, snoc_last] at hr
  obtain ⟨_, h2⟩ := hr
  simp only [Option.map_some, Option.getD_some, Bool.and_eq_true] at h2
  have h3 := List.all_eq_true.1 hall i (List.mem_range.2 hi)
  obtain ⟨j, hj, h4⟩ := Array.any_eq_true.1 h3
  have h5 := Array.all_eq_true.1 h2.2 j hj
  simp only [Bool.and_eq_true, beq_iff_eq] at h4
  rw [h4.1, h4.2] at h5
  simpa using h5
theorem none_ready (l : List Oper) (o : Oper) (listed : Array Bool) (h : ∀ i, i < l.length → listed.getD i false = true) (h2 : listed.getD l.length true = true) : Region.ready .any (l ++ [o]).toArray listed = [] := by
  unfold Region.ready
  rw [List.filter_eq_nil_iff]
  intro i hi
  have hi' : i < l.length + 1 := by simpa using hi
  rcases Nat.lt_or_ge i l.length with h3 | h3
  · have h4 := h i h3
    have h5 : listed.getD i true = true := by
      rcases Nat.lt_or_ge i listed.size with h6 | h6
      · simpa [h6] using h4
      · simp [Array.getElem?_eq_none h6] at h4
    simp [h5]
  · obtain rfl : i = l.length := by omega
    simp [h2]
theorem set_getD (listed : Array Bool) (i j : Nat) (d : Bool) (h : listed.getD j d = true) : (listed.setIfInBounds i true).getD j d = true := by
  by_cases hij : i = j
  · subst hij
    rcases Nat.lt_or_ge i listed.size with h6 | h6
    · simp [h6]
    · simpa [Array.getElem?_eq_none h6, h6] using h
  · simpa [Array.getElem?_setIfInBounds_ne hij] using h
theorem set_getD_self (listed : Array Bool) (i : Nat) : (listed.setIfInBounds i true).getD i true = true := by
  rcases Nat.lt_or_ge i listed.size with h6 | h6
  · simp [h6]
  · simp [h6]
/-- Every operation waits for elder ones alone. -/
def ordered (l : List Oper) : Bool := (List.range l.length).all fun i => ((l[i]?).map fun o => o.after.all fun e => !Region.binds .any e || decide (e.on < i)).getD true
theorem some_ready (l : List Oper) (ho : ordered l = true) (listed : Array Bool) (hs : listed.size = l.length) : ∀ k, k ≤ l.length → (∀ i, i < k → listed.getD i false = true) ∨ ∃ i, i < k ∧ i ∈ Region.ready .any l.toArray listed := by
  intro k
  induction k with
  | zero => intro _; exact .inl fun i hi => absurd hi (Nat.not_lt_zero _)
  | succ k ih =>
    intro hk
    rcases ih (by omega) with h | ⟨i, hi, hr⟩
    · cases hb : listed.getD k false with
      | true =>
        refine .inl fun i hi => ?_
        rcases Nat.lt_or_ge i k with h1 | h1
        · exact h i h1
        · obtain rfl : i = k := by omega
          exact hb
      | false =>
        refine .inr ⟨k, Nat.lt_succ_self k, ?_⟩
        unfold Region.ready
        rw [List.mem_filter]
        have hkl : k < l.length := by omega
        have h1 := List.all_eq_true.1 ho k (List.mem_range.2 hkl)
        rw [List.getElem?_eq_getElem hkl] at h1
        simp only [Option.map_some, Option.getD_some] at h1
        refine ⟨by rw [List.mem_range]; simpa using hkl, ?_⟩
        rw [List.getElem?_toArray, List.getElem?_eq_getElem hkl]
        simp only [Option.map_some, Option.getD_some, Bool.and_eq_true]
        have hks : k < listed.size := by omega
        refine ⟨?_, ?_⟩
        · have h2 : listed[k] = false := by simpa [hks] using hb
          simp [hks, h2]
        · rw [Array.all_eq_true]
          intro j hj
          have h2 := Array.all_eq_true.1 h1 j hj
          simp only [Bool.or_eq_true, decide_eq_true_eq] at h2 ⊢
          exact h2.imp id fun h3 => h _ h3
    · exact .inr ⟨i, by omega, hr⟩
theorem wpAny_stood (l : List Oper) (o : Oper) (hd : o.dst = none) (ho : ordered (l ++ [stood o]) = true) (hall : ((List.range l.length).all fun i => o.after.any fun e => Region.binds .any e && e.on == i) = true) :
    ∀ (fuel : Nat) (listed : Array Bool) (a : Act) (w : World), C w → listed.size = l.length + 1 → listed.getD l.length true = false →
      wpAnyQ P .any (l ++ [stood o]).toArray C (fun a' => ∀ w', C w' → wpList P (l ++ [o]).toArray Q [o] a' w') fuel listed a → wpAny P .any (l ++ [o]).toArray Q fuel listed a w := by
  intro fuel
  induction fuel with
  | zero =>
    intro listed a w hC hs hun h
    exfalso
    rcases some_ready _ ho listed (by simpa using hs) (l.length + 1) (by simp) with h1 | ⟨i, _, h1⟩
    · have h2 := h1 l.length (Nat.lt_succ_self _)
      have hks : l.length < listed.size := by omega
      simp [hks] at hun h2
      rw [hun] at h2
      cases h2
    · rw [h.1] at h1
      cases h1
  | succ fuel ih =>
    intro listed a w hC hs hun h
    have hrd := stood_ready l o listed
    have hlast : ∀ i, i ∈ Region.ready .any (l ++ [o]).toArray listed → i < l.length ∨ i = l.length := fun i hi => by
      unfold Region.ready at hi
      have := List.mem_range.1 (List.mem_filter.1 hi).1
      simp at this
      omega
    refine ⟨fun hr => ?_, fun i hi => ?_⟩
    · exfalso
      rcases some_ready _ ho listed (by simpa using hs) (l.length + 1) (by simp) with h1 | ⟨i, _, h1⟩
      · have h2 := h1 l.length (Nat.lt_succ_self _)
        have hks : l.length < listed.size := by omega
        simp [hks] at hun h2
        rw [hun] at h2
        cases h2
      · rw [hrd, hr] at h1
        cases h1
    · have hq := h.2 i (by rw [hrd]; exact hi)
      rcases hlast i hi with hlt | rfl
      · have hw := wpOp_of_qOp (Q' := Q) (K' := wpAny P .any (l ++ [o]).toArray Q fuel (listed.setIfInBounds i true)) hC
          (fun a' w' hC' hk => ih _ a' w' hC' (by simpa using hs) (by simpa [Array.getElem?_setIfInBounds_ne (show i ≠ l.length by omega)] using hun) hk) hq
        unfold wpOp at hw ⊢
        rw [snoc_at _ _ _ hlt] at hw ⊢
        rw [stood_yielded _ _ hd] at hw
        exact hw
      · have hl := last_ready l o listed hall hi
        have hnone : Region.ready .any (l ++ [o]).toArray (listed.setIfInBounds l.length true) = [] := none_ready l o _ (fun i hi => set_getD _ _ _ _ (hl i hi)) (set_getD_self _ _)
        have hnone' : Region.ready .any (l ++ [stood o]).toArray (listed.setIfInBounds l.length true) = [] := by rw [stood_ready, hnone]
        have hQ : ∀ w', C w' → wpList P (l ++ [o]).toArray Q [o] a w' := by
          unfold qOp at hq
          rw [snoc_last] at hq
          have hwt : Region.wanted (stood o) (yielded (l ++ [stood o]).toArray a.tmps) = true := rfl
          simp only [hwt, if_true] at hq
          obtain ⟨v, _, h2⟩ := hq
          have h3 : wpAnyQ P .any (l ++ [stood o]).toArray C (fun a' => ∀ w', C w' → wpList P (l ++ [o]).toArray Q [o] a' w') fuel (listed.setIfInBounds l.length true) a := h2
          cases fuel with
          | zero => exact h3.2
          | succ fuel => exact h3.1 hnone'
        have hK : ∀ a' w', Q .normal a' w' → wpAny P .any (l ++ [o]).toArray Q fuel (listed.setIfInBounds l.length true) a' w' := by
          intro a' w' hn
          cases fuel with
          | zero => exact ⟨hnone, hn⟩
          | succ fuel => exact ⟨fun _ => hn, fun i hi => by rw [hnone] at hi; cases hi⟩
        have hl2 := hQ w hC
        unfold wpOp
        rw [snoc_last]
        unfold wpList at hl2
        simp only at hl2 ⊢
        split at hl2
        · rename_i hw
          simp only [hw, if_true]
          exact hl2.imp (Oper.wp_mono hK) id
        · rename_i hw
          simp only [hw]
          exact hK _ _ hl2
theorem wpQuiet_append {ops : Array Oper} {Q : Act → Prop} : ∀ (l1 l2 : List Oper) (a : Act), wpQuiet P ops C (wpQuiet P ops C Q l2) l1 a → wpQuiet P ops C Q (l1 ++ l2) a
  | [], _, _, h => h
  | o :: l1, l2, a, h => by
    unfold wpQuiet at h
    show wpQuiet P ops C Q (o :: (l1 ++ l2)) a
    unfold wpQuiet
    split at h
    · rename_i hw
      rw [if_pos hw]
      exact Oper.quiet_mono (fun a' h' => wpQuiet_append l1 l2 a' h') h
    · rename_i hw
      rw [if_neg hw]
      exact wpQuiet_append l1 l2 _ h
theorem wpQuiet_imp {ops : Array Oper} {Q Q' : Act → Prop} (hQ : ∀ a, Q a → Q' a) : ∀ (l : List Oper) (a : Act), wpQuiet P ops C Q l a → wpQuiet P ops C Q' l a
  | [], _, h => hQ _ h
  | o :: l, a, h => by
    unfold wpQuiet at h ⊢
    split at h
    · rename_i hw
      rw [if_pos hw]
      exact Oper.quiet_mono (fun a' h' => wpQuiet_imp hQ l a' h') h
    · rename_i hw
      rw [if_neg hw]
      exact wpQuiet_imp hQ l _ h
theorem stood_quiet (o : Oper) (ops : Array Oper) {Q : Act → Prop} {a : Act} (h : Q a) : wpQuiet P ops C Q [stood o] a := by
  unfold wpQuiet
  rw [if_pos (show Region.wanted (stood o) (yielded ops a.tmps) = true from rfl)]
  refine ⟨.bool true, fun w _ => ?_, h⟩
  unfold Oper.quietAt
  show Oper.quietUpon P C w (.bool true) ((execOp a.eval (stood o)).run P w)
  simp [execOp, stood, Oper.quietUpon, go_sem]
/-- READS AND QUIET CALLS, AND ONE STORE BEHIND THEM ALL: the walk of the text's order serves every order. -/
theorem wp_region_quiet_store {id : Nat} {a : Act} {w : World} {L : List Oper} (n : Nat) (hm : P.follows .mixedOrders = true) {o : Oper} (hL : L.drop n = [o]) (hd : o.dst = none)
    (hB : (Region.lexB .any (L.take n ++ [stood o]).toArray && ordered (L.take n ++ [stood o]) && (List.range (L.take n).length).all fun i => o.after.any fun e => Region.binds .any e && e.on == i) = true)
    (h : wpQuiet P (L.take n ++ [stood o]).toArray (fun w' => ∃ n, w' = w.drewN n) (fun a' => ∀ w', (∃ n, w' = w.drewN n) → wpList P L.toArray Q [o] a' w') (L.take n) a) : (Code.region id L.toArray true).wp P Q a w := by
  simp only [Bool.and_eq_true] at hB
  obtain ⟨⟨h1, h2⟩, h3⟩ := hB
  have hLL : L = L.take n ++ [o] := by rw [← hL, List.take_append_drop]
  generalize L.take n = l at *
  subst hLL
  refine wp_region_any hm ?_
  simp only [Region.lexB, Bool.and_eq_true] at h1
  have hq := wpAnyQ_lex (C := fun w' => ∃ n, w' = w.drewN n) (md := .any) h1.1 (l ++ [stood o]) 0 (Array.replicate (l ++ [stood o]).toArray.size false) a (by simp) (by simpa using h1.2)
    (wpQuiet_append l [stood o] a (by
      refine wpQuiet_imp ?_ l a h
      exact fun a' h' => stood_quiet o _ h'))
  have := wpAny_stood (Q := Q) l o hd h2 h3 (l ++ [stood o]).length (Array.replicate (l ++ [stood o]).toArray.size false) a { w with drawn := w.drawn + 1 } ⟨1, rfl⟩ (by simp) (by simp) hq
  simpa using this
end
end Go.Proofs.YtpndobhakmjglaaDoor.K
