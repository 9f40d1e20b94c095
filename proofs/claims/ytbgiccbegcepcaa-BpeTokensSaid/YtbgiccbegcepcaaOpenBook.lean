/- What came in, opened: a struct of a slice of bytes and a slice of pairs of whole numbers, by value. -/
import Derived.Test.YtbgiccbegcepcaaBpeCod
import Derived.Test.YtbgiccbegcepcaaOpen
import Derived.Deep.SlicePairs
namespace Go.Proofs.Ytbgiccbegcepcaa.Bpe
open Go.RowKit Go.ChangeShapes Go.WideShapes Go.ChangeAt Go.Deep Go.Proofs.YtbgiccbegcepcaaW.PrintWords Go.Proofs.Ytbgiccbegcepcaa.K
theorem open_prs {H : Type} {enc : TypeId × Value → H} {P : Program} {W : World} {base : Nat} {held : Bool} {t e : TypeId} {f0 f1 : Field} {a : Option Addr} {len cap : Nat} {d : DataW H} {ps : List MemPlace}
    (ht : P.underlying t = some (.slice e)) (he : P.underlying e = some (.struct #[f0, f1])) (ce : P.cellsOf e = 2) (o0 : f0.offset = 0) (o1 : f1.offset = 1) (c0 : P.cellsOf f0.type = 1) (c1 : P.cellsOf f1.type = 1)
    (h0 : P.underlying f0.type = some (.int .i64)) (h1 : P.underlying f1.type = some (.int .i64)) (h : DataW.Trod enc P W base (fun _ => true) held t (.slice a len cap) d ps) :
    ∃ xs : List Pr, Kd.C kP W a len xs ∧ len ≤ cap := by
  obtain ⟨fuel, hf⟩ := h
  rcases open_slice_pairs ht he ce o0 o1 c0 c1 hf with ⟨hcs, _⟩ | ⟨x, l, c, m, n, V0, V1, D0, D1, P0, P1, hcs, _, hl, hm, hmm, _, hel⟩
  · simp [Value.cells] at hcs
    obtain ⟨rfl, rfl, rfl⟩ := hcs
    exact ⟨[], ⟨rfl, by decide, fun h => absurd h (by decide)⟩, Nat.le_refl _⟩
  · simp [Value.cells] at hcs
    obtain ⟨rfl, rfl, rfl⟩ := hcs
    simp only [if_true] at hmm
    unfold maxLen at hm
    have key : ∀ i, i < len → ∃ p : Pr, W.cell? (x.add (i * 2)) = some (.int .i64 p.1) ∧ W.cell? (x.add (i * 2 + 1)) = some (.int .i64 p.2) := fun i hi => by
      obtain ⟨g0, g1, t0, t1⟩ := hel i (by omega)
      obtain ⟨y0, e0, _, _⟩ := DataW.trod_int h0 t0
      obtain ⟨y1, e1, _, _⟩ := DataW.trod_int h1 t1
      simp only [List.cons.injEq, and_true] at e0 e1
      exact ⟨(y0, y1), by rw [g0, e0], by rw [g1, e1]⟩
    refine ⟨(List.range len).map fun i => if hi : i < len then Classical.choose (key i hi) else (0, 0), ⟨by simp, by omega, fun _ => ⟨x, rfl, fun j p hj => ?_⟩⟩, hl⟩
    have hjl : j < len := by have := (List.getElem?_eq_some_iff.1 hj).1; simpa using this
    have hp : p = Classical.choose (key j hjl) := by
      rw [List.getElem?_map, List.getElem?_range hjl] at hj
      simp only [Option.map_some, Option.some.injEq, dif_pos hjl] at hj
      exact hj.symm
    obtain ⟨k0, k1⟩ := Classical.choose_spec (key j hjl)
    rw [← hp] at k0 k1
    refine ⟨[.int .i64 p.1, .int .i64 p.2], rfl, ⟨[.int .i64 p.1], [.int .i64 p.2], rfl, rfl, rfl⟩, fun i u hu => ?_⟩
    match i, hu with
    | 0, hu => cases hu; exact k0
    | 1, hu => cases hu; exact k1
theorem open_book {H : Type} {enc : TypeId × Value → H} {P : Program} {W : World} {base b0 : Nat} {r : Reach} {held : Bool} {t e0 e1 : TypeId} {f0 f1 g0 g1 : Field} {v : Value} {d : DataW H} {ps : List MemPlace}
    (ht : P.underlying t = some (.struct #[f0, f1])) (o0 : f0.offset = 0) (o1 : f1.offset = 1) (h0 : P.underlying f0.type = some (.slice e0)) (h1 : P.underlying f1.type = some (.slice e1))
    (he0 : P.underlying e0 = some (.int .u8)) (ce0 : P.cellsOf e0 = 1) (he1 : P.underlying e1 = some (.struct #[g0, g1])) (ce1 : P.cellsOf e1 = 2) (p0 : g0.offset = 0) (p1 : g1.offset = 1) (k0 : P.cellsOf g0.type = 1) (k1 : P.cellsOf g1.type = 1)
    (i0 : P.underlying g0.type = some (.int .i64)) (i1 : P.underlying g1.type = some (.int .i64)) (ct : P.cellsOf t = 2) (c0 : P.cellsOf f0.type = 1) (c1 : P.cellsOf f1.type = 1) (hval : Value.okWide P W r b0 t v)
    (h : DataW.Trod enc P W base (fun _ => true) held t v d ps) :
    ∃ (a : Option Addr) (len cap : Nat) (xs : List Int) (a2 : Option Addr) (len2 cap2 : Nat) (ys : List Pr), v = .agg #[.slice a len cap, .slice a2 len2 cap2] ∧ Kd.C (Kd.int .u8) W a len xs ∧ len ≤ cap ∧ (∀ n ∈ xs, (Lit.int .u8 n).wf = true) ∧ Kd.C kP W a2 len2 ys ∧ len2 ≤ cap2 := by
  simp only [Value.okWide, ht] at hval
  obtain ⟨cs, rfl, _, _⟩ := hval
  obtain ⟨fuel, hf⟩ := h
  obtain ⟨y0, y1, n, _, hl, t0, t1⟩ := trod_struct2 ht hf
  rw [ct] at hl
  have hcs : ∃ u0 u1, (Value.agg cs).cells.toList = [u0, u1] := by
    match (Value.agg cs).cells.toList, hl with
    | [u0, u1], _ => exact ⟨u0, u1, rfl⟩
  obtain ⟨u0, u1, hcs⟩ := hcs
  rw [hcs, o0, c0] at t0
  rw [hcs, o1, c1] at t1
  simp only [List.drop, List.take] at t0 t1
  have hs0 : ∃ a len cap, u0 = .slice a len cap := by
    rcases open_ints h0 he0 ce0 t0 with ⟨hh, _⟩ | ⟨_, _, _, _, hh, _⟩ <;> (simp at hh; exact ⟨_, _, _, hh⟩)
  obtain ⟨a, len, cap, rfl⟩ := hs0
  have hs1 : ∃ a len cap, u1 = .slice a len cap := by
    rcases open_slice_pairs h1 he1 ce1 p0 p1 k0 k1 t1 with ⟨hh, _⟩ | ⟨_, _, _, _, _, _, _, _, _, _, _, hh, _⟩ <;> (simp at hh; exact ⟨_, _, _, hh⟩)
  obtain ⟨a2, len2, cap2, rfl⟩ := hs1
  obtain ⟨xs, q1, q2, q3⟩ := open_is (held := held) h0 he0 ce0 ⟨n, t0⟩
  obtain ⟨ys, r1, r2⟩ := open_prs (held := held) h1 he1 ce1 p0 p1 k0 k1 i0 i1 ⟨n, t1⟩
  refine ⟨a, len, cap, xs, a2, len2, cap2, ys, ?_, q1, q2, q3, r1, r2⟩
  have hcs2 : cs.toList = [.slice a len cap, .slice a2 len2 cap2] := by simpa [Value.cells] using hcs
  exact congrArg Value.agg (Array.toList_inj.1 hcs2)
end Go.Proofs.Ytbgiccbegcepcaa.Bpe
