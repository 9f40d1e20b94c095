/- What came in, opened: arrays of whole numbers by value, as lists. -/
import Derived.Test.YtfameghednapkaaDoorBunT3
import Derived.OpenShut
import Derived.ChangeOld
import Derived.Deep.Matrix
import Derived.WalkKit
import Derived.ChangeAt
namespace Go.Proofs.YtfameghednapkaaDoor.K
open Go.RowKit Go.ChangeShapes Go.WideShapes Go.ChangeAt Go.Proofs.YtfameghednapkaaDoorW.PrintWords
/-- A cell's number. -/
def intOfV : Value → Int
  | .int _ n => n
  | _ => 0
theorem arr_cells {H : Type} {enc : TypeId × Value → H} {P : Program} {W : World} {base N fuel : Nat} {sp : Nat → Bool} {held : Bool} {t E : TypeId} {k : IntKind} {cs : List Value} {x : DataW H × List MemPlace}
    (ht : P.underlying t = some (.array N E)) (hE : P.underlying E = some (.int k)) (hc : P.cellsOf E = 1) (hct : P.cellsOf t = N)
    (hf : DataW.trod enc P W base sp held fuel t cs = some x) : ∃ xs : List Int, cs = nums k xs ∧ xs.length = N ∧ ∀ n ∈ xs, (Lit.int k n).wf = true := by
  obtain ⟨ys, m, _, _, hl, hn, hel⟩ := DataW.trod_array ht hf
  rw [hct] at hl
  have key : ∀ i (h : i < cs.length), ∃ n, cs[i] = .int k n ∧ (Lit.int k n).wf = true := by
    intro i h
    have h3 := hel i (by omega)
    rw [hc, Nat.mul_one, List.drop_eq_getElem_cons h, List.take_succ_cons, List.take_zero, List.getElem?_eq_getElem (by omega)] at h3
    obtain ⟨n, e1, _, e3⟩ := DataW.trod_int hE h3
    exact ⟨n, by simpa using e1, e3⟩
  refine ⟨cs.map intOfV, ?_, by rw [List.length_map, hl], ?_⟩
  · refine List.ext_getElem (by simp [nums]) fun i h1 h2 => ?_
    obtain ⟨n, e, _⟩ := key i h1
    simp [nums, e, intOfV]
  · intro n hm
    obtain ⟨v, hv, rfl⟩ := List.mem_map.1 hm
    obtain ⟨i, hi, rfl⟩ := List.getElem_of_mem hv
    obtain ⟨n, e, hw⟩ := key i hi
    rw [e]
    exact hw
theorem open_dig {H : Type} {enc : TypeId × Value → H} {P : Program} {W : World} {base b0 N : Nat} {r : Reach} {sp : Nat → Bool} {held : Bool} {t E : TypeId} {k : IntKind} {v : Value} {d : DataW H} {ps : List MemPlace}
    (ht : P.underlying t = some (.array N E)) (hE : P.underlying E = some (.int k)) (hc : P.cellsOf E = 1) (hct : P.cellsOf t = N) (hval : Value.okWide P W r b0 t v)
    (h : DataW.Trod enc P W base sp held t v d ps) : ∃ xs : List Int, v = .agg (nums k xs).toArray ∧ xs.length = N ∧ ∀ n ∈ xs, (Lit.int k n).wf = true := by
  simp only [Value.okWide, ht] at hval
  obtain ⟨cs, rfl, _, _⟩ := hval
  obtain ⟨fuel, hf⟩ := h
  obtain ⟨xs, e, h1, h2⟩ := arr_cells ht hE hc hct hf
  refine ⟨xs, ?_, h1, h2⟩
  rw [← e]
  simp [Value.cells]
end Go.Proofs.YtfameghednapkaaDoor.K
