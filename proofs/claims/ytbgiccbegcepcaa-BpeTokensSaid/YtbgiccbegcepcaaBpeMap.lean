/- bpe: the map of pairs, in the world. -/
import Derived.Test.YtbgiccbegcepcaaBpeP
import Derived.Maps.OwnSet
import Derived.DeepKeys4
namespace Go.Proofs.Ytbgiccbegcepcaa.Bpe
open Go.RowKit Go.Maps Go.Proofs.YtbgiccbegcepcaaW.PrintWords Go.Proofs.YtbgiccbegcepcaaW.PrintLast Go.Proofs.YtbgiccbegcepcaaW.PrintMore Go.Proofs.Ytbgiccbegcepcaa.K
set_option linter.unusedVariables false
set_option linter.unusedSimpArgs false
theorem laidOut : laidOutB Try.prog = true := by kernel_rfl
theorem rowP : (44 : TypeId) < Try.prog.types.size := of_decide_eq_true (by kernel_rfl)
theorem wideP : (match Try.prog.underlying 44 with | some (.array _ _) | some (.struct _) => true | _ => false) = true := by kernel_rfl
theorem keyed : Keyed Try.prog 44 := Keyed.of_law (deep_law_laid laidOut (m := 3) (by omega) rowP (by kernel_rfl) wideP)
def klit (a b : Int) : Lit := .string (keyBytes [.int .i64 a, .int .i64 b])
def pv (a b : Int) : Value := .agg #[.int .i64 a, .int .i64 b]
theorem keyT : Try.prog.keyType 44 = true := by kernel_rfl
theorem cellsP : Try.prog.cellsOf 44 = 2 := by kernel_rfl
theorem cellsI : Try.prog.cellsOf 3 = 1 := by kernel_rfl
theorem key_pair (a b : Int) (ha : (Lit.int .i64 a).wf = true) (hb : (Lit.int .i64 b).wf = true) : keyOf Try.prog 44 (pv a b) = some (klit a b) := by
  have hk : ∀ d, Try.prog.keyLits (d + 2) 44 [.int .i64 a, .int .i64 b] = some [.int .i64 a, .int .i64 b] := by
    intro d
    simp [Program.keyLits, Try.underlying44, Try.underlying3, cellsP, cellsI, ha, hb]
  have hs : ∃ d, Try.prog.types.size + 1 = d + 2 := ⟨Try.prog.types.size - 1, by have h : 0 < Try.prog.types.size := Nat.lt_of_le_of_lt (Nat.zero_le _) rowP; omega⟩
  obtain ⟨d, hd⟩ := hs
  unfold keyOf pv klit
  rw [Try.underlying44]
  simp [keyT, Value.formed, Try.underlying44, cellsP, hd, Value.cells, hk]
theorem klit_ne {a b c d : Int} (ha : (Lit.int .i64 a).wf = true) (hb : (Lit.int .i64 b).wf = true) (hc : (Lit.int .i64 c).wf = true) (hd : (Lit.int .i64 d).wf = true) (h : (a, b) ≠ (c, d)) : klit a b ≠ klit c d := fun e => by
  have h1 := key_pair a b ha hb
  rw [e] at h1
  have h2 := keyed.inj h1 (key_pair c d hc hd)
  simp only [pv, Value.agg.injEq, Array.mk.injEq, List.cons.injEq, Value.int.injEq, true_and, and_true] at h2
  exact h (Prod.ext h2.1 h2.2)
def wfP (p : Pr) : Prop := (Lit.int .i64 p.1).wf = true ∧ (Lit.int .i64 p.2).wf = true
/-- Block b is the map of pairs' tokens: n and on. -/
def PMap (W : World) (b : Nat) (n : Int) (ps : List Pr) : Prop :=
  ∃ D : DataW Unit, W.ownsMap Try.prog 44 (plainElem Try.prog 3) b ps.length D ∧
    ∀ p, wfP p → Maps.has D (klit p.1 p.2) = (look ps p).isSome ∧ ∀ z k, look ps p = some k → D.atKey (klit p.1 p.2) z = .lit (.int .i64 (n + k))
theorem zeroI (w : World) : (zeroValue 3).run Try.prog w = .ok (.int .i64 0) w := by kernel_rfl
theorem PMap.lt {W : World} {b : Nat} {n : Int} {ps : List Pr} (h : PMap W b n ps) : b < W.heap.size := by
  obtain ⟨D, h1, _⟩ := h
  exact h1.lt
theorem PMap.obj {W : World} {b : Nat} {n : Int} {ps : List Pr} (h : PMap W b n ps) : ∃ es clock, W.heap[b]? = some (.map es clock) := by
  obtain ⟨D, ⟨es, clock, hb, _⟩, _⟩ := h
  exact ⟨es, clock, hb⟩
theorem PMap.move {W W1 : World} {b : Nat} {n : Int} {ps : List Pr} (h : PMap W b n ps) (hm : W1.heap[b]? = W.heap[b]?) : PMap W1 b n ps := by
  obtain ⟨D, ⟨es, clock, hb, F, hs, hD⟩, h2⟩ := h
  exact ⟨D, ⟨es, clock, hm.trans hb, F, hs, hD⟩, h2⟩
theorem PMap.made (W : World) (n : Int) : PMap (W.alloc (.map #[] 0)) W.heap.size n [] :=
  ⟨.map [], World.ownsMap_made _ _ _ _, fun p hp => ⟨by simp [Maps.has, look], fun z k h => by simp [look] at h⟩⟩
def lookV (n : Int) : Option Nat → Int
  | none => 0
  | some k => n + k
theorem PMap.lookup {W : World} {b : Nat} {n : Int} {ps : List Pr} (h : PMap W b n ps) (x y : Int) (hp : wfP (x, y)) :
    (Instr.lookup 55 (.map (some b)) (.agg #[.int .i64 x, .int .i64 y]) true).run Try.prog W = .ok (.tuple #[.int .i64 (lookV n (look ps (x, y))), .bool (look ps (x, y)).isSome]) W := by
  obtain ⟨D, h1, h2⟩ := h
  obtain ⟨h3, h4⟩ := h2 (x, y) hp
  obtain ⟨v, qs, hrun, hv⟩ := h1.look_ok keyed Try.underlying55 (zeroI W) (plainElem_int (P := Try.prog) (e := 3) Try.underlying3 (by decide : (Lit.int .i64 0).wf = true)) (key_pair x y hp.1 hp.2)
  rw [h3] at hrun
  obtain ⟨c, rfl, hc, hwc⟩ := plainElem_int_inv Try.underlying3 hv
  simp only [Prod.mk.injEq] at hc
  cases hl : look ps (x, y) with
  | none =>
    rw [hl] at hrun h3
    rw [Maps.atKey_of_not_has (by simpa using h3)] at hc
    have : c = 0 := by have := hc.1; simpa using this.symm
    subst this
    exact hrun
  | some k =>
    rw [hl] at hrun
    rw [h4 _ k hl] at hc
    have : c = n + k := by have := hc.1; simpa using this.symm
    subst this
    exact hrun
theorem PMap.lookup_drew {W : World} {b : Nat} {n : Int} {ps : List Pr} (h : PMap W b n ps) (x y : Int) (hp : wfP (x, y)) (m : Nat) :
    (Instr.lookup 55 (.map (some b)) (.agg #[.int .i64 x, .int .i64 y]) true).run Try.prog (W.drewN m) = .ok (.tuple #[.int .i64 (lookV n (look ps (x, y))), .bool (look ps (x, y)).isSome]) (W.drewN m) :=
  PMap.lookup (W := W.drewN m) (h.move rfl) x y hp
theorem wf_nat (x : Nat) (h : x ≤ 1000000) : (Lit.int .i64 (x : Int)).wf = true := by
  have h1 : IntKind.i64.min = -9223372036854775808 := by decide
  have h2 : IntKind.i64.max = 9223372036854775807 := by decide
  simp only [Lit.wf, Bool.and_eq_true, decide_eq_true_eq, h1, h2]
  omega
theorem PMap.update {W : World} {b : Nat} {n : Int} {ps : List Pr} (h : PMap W b n ps) (x y : Int) (hp : wfP (x, y)) (hps : ∀ q ∈ ps, wfP q) (hn : look ps (x, y) = none) (hlen : ps.length < 1000000) (hv : (Lit.int .i64 (n + ps.length)).wf = true) :
    ∃ W', (Instr.mapUpdate 55 (.map (some b)) (.agg #[.int .i64 x, .int .i64 y]) (.int .i64 (n + ps.length))).run Try.prog W = .ok () W' ∧ PMap W' b n (ps ++ [(x, y)]) ∧ W.grownBy W' (some b) := by
  obtain ⟨D, h1, h2⟩ := h
  obtain ⟨W', hrun, r1, r2⟩ := h1.update keyed Try.underlying55 (by simp only [maxLen]; omega) (key_pair x y hp.1 hp.2) (plainElem_int Try.underlying3 hv)
  refine ⟨W', hrun, ⟨D.put (klit x y) (.lit (.int .i64 (n + ps.length))), by rw [List.length_append]; exact r1, fun q hq => ?_⟩, r2⟩
  rw [look_snoc ps _ q hn]
  by_cases he : q = (x, y)
  · subst he
    rw [if_pos rfl]
    refine ⟨Maps.has_put_same h1.isMap (keyed.key (key_pair x y hp.1 hp.2)) _, fun z k hk => ?_⟩
    cases hk
    exact Maps.atKey_put_same h1.isMap (keyed.key (key_pair x y hp.1 hp.2)) _ _
  · rw [if_neg he]
    have hne : klit q.1 q.2 ≠ klit x y := klit_ne hq.1 hq.2 hp.1 hp.2 he
    refine ⟨(Maps.has_put_other hne _).trans (h2 q hq).1, fun z k hk => (Maps.atKey_put_other hne _ _).trans ((h2 q hq).2 z k hk)⟩
end Go.Proofs.Ytbgiccbegcepcaa.Bpe
