/- What came in, opened: a slice of calls (two whole numbers and a slice of whole numbers each). -/
import Derived.Test.YtdmeocoehahopaaDoorOpenRowB
import Derived.Test.YtdmeocoehahopaaDoorDrawDoesB
namespace Go.Proofs.YtdmeocoehahopaaDoor.Draw
open Go.RowKit Go.ChangeShapes Go.WideShapes Go.ChangeAt Go.Deep Go.Proofs.YtdmeocoehahopaaDoorW.PrintWords Go.Proofs.YtdmeocoehahopaaDoor.K
theorem open_ops {H : Type} {enc : TypeId × Value → H} {P : Program} {W : World} {base : Nat} {held : Bool} {t e e2 : TypeId} {f0 f1 f2 : Field} {a : Option Addr} {len cap : Nat} {D : DataW H} {ps : List MemPlace}
    (ht : P.underlying t = some (.slice e)) (he : P.underlying e = some (.struct #[f0, f1, f2])) (ce : P.cellsOf e = 3) (o0 : f0.offset = 0) (o1 : f1.offset = 1) (o2 : f2.offset = 2) (c0 : P.cellsOf f0.type = 1) (c1 : P.cellsOf f1.type = 1) (c2 : P.cellsOf f2.type = 1)
    (h0 : P.underlying f0.type = some (.int .i64)) (h1 : P.underlying f1.type = some (.int .i64)) (h2 : P.underlying f2.type = some (.slice e2)) (he2 : P.underlying e2 = some (.int .i64)) (ce2 : P.cellsOf e2 = 1)
    (h : DataW.Trod enc P W base (fun _ => true) held t (.slice a len cap) D ps) : ∃ xs : List Opr, Kd.C kOp W a len xs ∧ len ≤ cap ∧ ∀ o ∈ xs, (Lit.int .i64 o.2.1).wf = true := by
  refine open_rowk kOp (fun o => (Lit.int .i64 o.2.1).wf = true) ht ce ?_ h
  intro n cs x hl hx
  obtain ⟨y0, y1, y2, n, _, _, t0, t1, t2⟩ := trod_struct3 he hx
  have hcs : ∃ u0 u1 u2, cs = [u0, u1, u2] := by
    match cs, hl with
    | [u0, u1, u2], _ => exact ⟨u0, u1, u2, rfl⟩
  obtain ⟨u0, u1, u2, rfl⟩ := hcs
  rw [o0, c0] at t0
  rw [o1, c1] at t1
  rw [o2, c2] at t2
  simp only [List.drop, List.take] at t0 t1 t2
  obtain ⟨v0, q0, _, w0⟩ := DataW.trod_int h0 t0
  obtain ⟨v1, q1, _, w1⟩ := DataW.trod_int h1 t1
  have hs : ∃ a len cap, u2 = .slice a len cap := by
    rcases open_ints h2 he2 ce2 t2 with ⟨hh, _⟩ | ⟨_, _, _, _, hh, _⟩ <;> (simp at hh; exact ⟨_, _, _, hh⟩)
  obtain ⟨a2, len2, cap2, rfl⟩ := hs
  obtain ⟨xs, g1, g2, g3⟩ := open_is (held := held) h2 he2 ce2 ⟨n, t2⟩
  simp only [List.cons.injEq, and_true] at q0 q1
  subst q0 q1
  obtain rfl := g1.1
  exact ⟨(v0, v1, xs), ⟨[.int .i64 v0], [.int .i64 v1, .slice a2 xs.length cap2], rfl, rfl, [.int .i64 v1], [.slice a2 xs.length cap2], rfl, rfl, a2, cap2, rfl, g2, g1⟩, w1⟩
end Go.Proofs.YtdmeocoehahopaaDoor.Draw
