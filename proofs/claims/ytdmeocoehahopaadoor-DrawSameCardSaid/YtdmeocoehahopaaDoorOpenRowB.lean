/- What came in, opened: a slice of whatever elements, by a reading of one. -/
import Derived.Test.YtdmeocoehahopaaDoorBunG8
import Derived.Deep.Slices
import Derived.Deep.Strs
namespace Go.Proofs.YtdmeocoehahopaaDoor.K
open Go.RowKit Go.ChangeShapes Go.WideShapes Go.ChangeAt Go.Deep Go.Proofs.YtdmeocoehahopaaDoorW.PrintWords
theorem open_rowk {H : Type} {enc : TypeId × Value → H} {P : Program} {W : World} {base : Nat} {held : Bool} {t e : TypeId} {a : Option Addr} {len cap : Nat} {D : DataW H} {ps : List MemPlace} {α : Type} [Inhabited α] (d : Kd α) (Q : α → Prop)
    (ht : P.underlying t = some (.slice e)) (hsz : P.cellsOf e = d.sz)
    (hE : ∀ n cs x, cs.length = d.sz → DataW.trod enc P W base (fun _ => true) held n e cs = some x → ∃ p : α, d.K W p cs ∧ Q p)
    (h : DataW.Trod enc P W base (fun _ => true) held t (.slice a len cap) D ps) : ∃ xs : List α, Kd.C d W a len xs ∧ len ≤ cap ∧ ∀ p ∈ xs, Q p := by
  obtain ⟨fuel, hf⟩ := h
  rcases open_slice ht hf with ⟨hcs, _⟩ | ⟨x, l, c, m, n, D', Pl, hcs, _, hl, hm, hmm, _, hel⟩
  · simp [Value.cells] at hcs
    obtain ⟨rfl, rfl, rfl⟩ := hcs
    exact ⟨[], ⟨rfl, by decide, fun h => absurd h (by decide)⟩, Nat.le_refl _, fun p hp => by cases hp⟩
  · simp [Value.cells] at hcs
    obtain ⟨rfl, rfl, rfl⟩ := hcs
    simp only [if_true] at hmm
    unfold maxLen at hm
    have key : ∀ i, i < len → ∃ p : α, (∃ cs, cs.length = d.sz ∧ d.K W p cs ∧ ∀ j u, cs[j]? = some u → W.cell? (x.add (i * d.sz + j)) = some u) ∧ Q p := fun i hi => by
      obtain ⟨cs', h1, h2⟩ := hel i (by omega)
      obtain ⟨_, hlen, hcell⟩ := World.cells?_some h1
      rw [hsz] at hlen
      obtain ⟨p, hp, hq⟩ := hE n cs' _ hlen h2
      refine ⟨p, ⟨cs', hlen, hp, fun j u hj => ?_⟩, hq⟩
      have hjl : j < cs'.length := (List.getElem?_eq_some_iff.1 hj).1
      have h3 := hcell j (by omega)
      rw [Deep.add_add, hsz, hj] at h3
      exact h3
    obtain ⟨f, hf2⟩ := choose_lt key
    refine ⟨(List.range len).map f, ⟨by simp, by omega, fun _ => ⟨x, rfl, fun j p hj => ?_⟩⟩, hl, fun p hp => ?_⟩
    · have hjl : j < len := by have := (List.getElem?_eq_some_iff.1 hj).1; simpa using this
      rw [List.getElem?_map, List.getElem?_range hjl] at hj
      simp only [Option.map_some, Option.some.injEq] at hj
      subst hj
      exact (hf2 j hjl).1
    · obtain ⟨i, hi, rfl⟩ := List.mem_map.1 hp
      exact (hf2 i (List.mem_range.1 hi)).2
end Go.Proofs.YtdmeocoehahopaaDoor.K
