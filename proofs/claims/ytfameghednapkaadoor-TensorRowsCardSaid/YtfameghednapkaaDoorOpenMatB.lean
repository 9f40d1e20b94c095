/- What came in, opened: a struct of two whole numbers and a slice of whole numbers, by value. -/
import Derived.Test.YtfameghednapkaaDoorOpenDigB
import Derived.Test.YtfameghednapkaaDoorBunT3
import Derived.Deep.Strs
namespace Go.Proofs.YtfameghednapkaaDoor.K
open Go.RowKit Go.ChangeShapes Go.WideShapes Go.ChangeAt Go.Deep Go.Proofs.YtfameghednapkaaDoorW.PrintWords
theorem open_mat {H : Type} {enc : TypeId × Value → H} {P : Program} {W : World} {base b0 : Nat} {r : Reach} {held : Bool} {t e : TypeId} {f0 f1 f2 : Field} {k : IntKind} {v : Value} {d : DataW H} {ps : List MemPlace}
    (ht : P.underlying t = some (.struct #[f0, f1, f2])) (o0 : f0.offset = 0) (o1 : f1.offset = 1) (o2 : f2.offset = 2) (h0 : P.underlying f0.type = some (.int .i64)) (h1 : P.underlying f1.type = some (.int .i64)) (h2 : P.underlying f2.type = some (.slice e))
    (he : P.underlying e = some (.int k)) (ce : P.cellsOf e = 1) (ct : P.cellsOf t = 3) (c0 : P.cellsOf f0.type = 1) (c1 : P.cellsOf f1.type = 1) (c2 : P.cellsOf f2.type = 1) (hval : Value.okWide P W r b0 t v)
    (h : DataW.Trod enc P W base (fun _ => true) held t v d ps) :
    ∃ (x y : Int) (a : Option Addr) (len cap : Nat) (xs : List Int), v = .agg #[.int .i64 x, .int .i64 y, .slice a len cap] ∧ (Lit.int .i64 x).wf = true ∧ (Lit.int .i64 y).wf = true ∧ Kd.C (Kd.int k) W a len xs ∧ len ≤ cap ∧ ∀ n ∈ xs, (Lit.int k n).wf = true := by
  simp only [Value.okWide, ht] at hval
  obtain ⟨cs, rfl, _, _⟩ := hval
  obtain ⟨fuel, hf⟩ := h
  obtain ⟨y0, y1, y2, n, _, hl, t0, t1, t2⟩ := trod_struct3 ht hf
  rw [ct] at hl
  have hcs : ∃ u0 u1 u2, (Value.agg cs).cells.toList = [u0, u1, u2] := by
    match (Value.agg cs).cells.toList, hl with
    | [u0, u1, u2], _ => exact ⟨u0, u1, u2, rfl⟩
  obtain ⟨u0, u1, u2, hcs⟩ := hcs
  rw [hcs, o0, c0] at t0
  rw [hcs, o1, c1] at t1
  rw [hcs, o2, c2] at t2
  simp only [List.drop, List.take] at t0 t1 t2
  obtain ⟨x, e0, _, w0⟩ := DataW.trod_int h0 t0
  obtain ⟨y, e1, _, w1⟩ := DataW.trod_int h1 t1
  have hs : ∃ a len cap, u2 = .slice a len cap := by
    rcases open_ints h2 he ce t2 with ⟨hh, _⟩ | ⟨_, _, _, _, hh, _⟩ <;> (simp at hh; exact ⟨_, _, _, hh⟩)
  obtain ⟨a, len, cap, rfl⟩ := hs
  obtain ⟨xs, g1, g2, g3⟩ := open_is (held := held) h2 he ce ⟨n, t2⟩
  simp only [List.cons.injEq, and_true] at e0 e1
  subst e0 e1
  refine ⟨x, y, a, len, cap, xs, ?_, w0, w1, g1, g2, g3⟩
  have hcs2 : cs.toList = [.int .i64 x, .int .i64 y, .slice a len cap] := by simpa [Value.cells] using hcs
  exact congrArg Value.agg (Array.toList_inj.1 hcs2)
end Go.Proofs.YtfameghednapkaaDoor.K
