/- What came in, opened: slices of slices of whole numbers read as lists of lists. -/
import Derived.Test.YtpndobhakmjglaaDoorK
import Derived.WalkKit
import Derived.ProofKit
import Derived.OpenShut
import Derived.ShutString
import Derived.ChangeOld
import Derived.Below
import Derived.SizedLaws
import Derived.Deep.Matrix
namespace Go.Proofs.YtpndobhakmjglaaDoor.K
open Go.RowKit Go.ChangeShapes Go.WideShapes Go.ChangeAt Go.Proofs.YtpndobhakmjglaaDoorW.PrintWords Go.Proofs.YtpndobhakmjglaaDoorW.PrintLast Go.Proofs.YtpndobhakmjglaaDoorW.PrintMore
theorem open_bss {H : Type} {enc : TypeId × Value → H} {P : Program} {W : World} {base : Nat} {held : Bool} {t e q E : TypeId} {k : IntKind} {a : Option Addr} {len cap : Nat} {d : DataW H} {ps : List MemPlace}
    (ht : P.underlying t = some (.slice e)) (he : P.underlying e = some (.slice q)) (hq : P.underlying q = some (.int k)) (ce : P.cellsOf e = 1) (cq : P.cellsOf q = 1)
    (h : DataW.Trod enc P W base (fun _ => true) held t (.slice a len cap) d ps) :
    ∃ xs : List (List Int), Kd.C (Kd.slice E (Kd.int k)) W a len xs ∧ len ≤ cap ∧ ∀ x ∈ xs, ∀ n ∈ x, (Lit.int k n).wf = true := by
  obtain ⟨fuel, hf⟩ := h
  rcases Deep.open_int_rows ht he hq ce cq hf with ⟨hcs, _⟩ | ⟨x, l, c, A, L, C, Z, hcs, _, hl, hm, _, hrow⟩
  · simp [Value.cells] at hcs
    obtain ⟨rfl, rfl, rfl⟩ := hcs
    exact ⟨[], ⟨rfl, by decide, fun h => absurd h (by decide)⟩, Nat.le_refl _, fun x hx => by simp at hx⟩
  · simp [Value.cells] at hcs
    obtain ⟨rfl, rfl, rfl⟩ := hcs
    unfold maxLen at hm
    have hlen : ∀ r, r < cap → ((Z r).take (L r)).length = L r := fun r hr => by
      obtain ⟨_, h1, _, h2, _⟩ := hrow r hr
      rw [List.length_take, h2]
      omega
    refine ⟨(List.range len).map fun r => (Z r).take (L r), ⟨by simp, by omega, fun _ => ⟨x, rfl, fun j p hj => ?_⟩⟩, hl, ?_⟩
    · have hj' : j < len := by have := (List.getElem?_eq_some_iff.1 hj).1; simpa using this
      have hp : p = (Z j).take (L j) := by simpa [List.getElem?_map, List.getElem?_range hj'] using hj.symm
      subst hp
      obtain ⟨h1, h2, h3, h4, h5, h6, h7⟩ := hrow j (by omega)
      have hlj := hlen j (by omega)
      refine ⟨[.slice (A j) (L j) (C j)], rfl, ⟨A j, C j, by rw [hlj], by rw [hlj]; exact h2, C_int ?_⟩, fun i u hu => ?_⟩
      · rw [hlj]
        unfold maxLen at h3
        refine ⟨hlj, by omega, fun hp => ?_⟩
        cases hA : A j with
        | none => have := h6 hA; omega
        | some a' =>
          refine ⟨a', rfl, fun i hi => ?_⟩
          rw [(h7 a' hA).2 i (by omega)]
          simp [List.getD_eq_getElem?_getD, hi]
      · obtain ⟨rfl, rfl⟩ : i = 0 ∧ u = .slice (A j) (L j) (C j) := by
          cases i with
          | zero => exact ⟨rfl, by simpa using hu.symm⟩
          | succ i => simp at hu
        have : j * (Kd.slice E (Kd.int k)).sz + 0 = j := by show j * 1 + 0 = j; omega
        rw [this]
        exact h1
    · intro y hy n hn
      obtain ⟨r, hr, rfl⟩ := List.mem_map.1 hy
      have hr' : r < cap := by have := List.mem_range.1 hr; omega
      exact (hrow r hr').2.2.2.2.1 n (List.mem_of_mem_take hn)
theorem open_is {H : Type} {enc : TypeId × Value → H} {P : Program} {W : World} {base : Nat} {held : Bool} {t e : TypeId} {k : IntKind} {a : Option Addr} {len cap : Nat} {d : DataW H} {ps : List MemPlace}
    (ht : P.underlying t = some (.slice e)) (he : P.underlying e = some (.int k)) (ce : P.cellsOf e = 1)
    (h : DataW.Trod enc P W base (fun _ => true) held t (.slice a len cap) d ps) :
    ∃ xs : List Int, Kd.C (Kd.int k) W a len xs ∧ len ≤ cap ∧ ∀ n ∈ xs, (Lit.int k n).wf = true := by
  obtain ⟨fuel, hf⟩ := h
  rcases open_ints ht he ce hf with ⟨hcs, _⟩ | ⟨x, l, c, zs, hcs, _, hl, hm, hz, _, hcell, hwz⟩
  · simp [Value.cells] at hcs
    obtain ⟨rfl, rfl, rfl⟩ := hcs
    exact ⟨[], C_int ⟨rfl, by decide, fun h => absurd h (by decide)⟩, Nat.le_refl _, fun x hx => by simp at hx⟩
  · simp [Value.cells] at hcs
    obtain ⟨rfl, rfl, rfl⟩ := hcs
    unfold maxLen at hm
    simp only [if_true] at hz
    have hl1 : (zs.take len).length = len := by rw [List.length_take, hz]; omega
    refine ⟨zs.take len, C_int ⟨hl1, by omega, fun _ => ⟨x, rfl, fun i hi => ?_⟩⟩, hl, fun n hn => hwz n (List.mem_of_mem_take hn)⟩
    rw [hcell i (by omega)]
    simp [List.getD_eq_getElem?_getD, hi]
theorem byte_wf {xs : List Int} (h : ∀ n ∈ xs, (Lit.int .u8 n).wf = true) : ∀ x ∈ xs, 0 ≤ x ∧ x < 256 := fun x hx => by
  have := h x hx
  simp only [Lit.wf, Bool.and_eq_true, decide_eq_true_eq] at this
  have h1 : IntKind.u8.min = 0 := by decide
  have h2 : IntKind.u8.max = 255 := by decide
  omega
theorem wf_range {x : Int} (h : (Lit.int .i64 x).wf = true) : -9223372036854775808 ≤ x ∧ x ≤ 9223372036854775807 := by
  simp only [Lit.wf, Bool.and_eq_true, decide_eq_true_eq] at h
  have h1 : IntKind.i64.min = -9223372036854775808 := by decide
  have h2 : IntKind.i64.max = 9223372036854775807 := by decide
  omega
end Go.Proofs.YtpndobhakmjglaaDoor.K
