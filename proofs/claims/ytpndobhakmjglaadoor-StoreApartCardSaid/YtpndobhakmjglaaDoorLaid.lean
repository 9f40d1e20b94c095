/- What a row's listed tables give a walk: each table's block holds its numbers. -/
import Derived.Test.YtpndobhakmjglaaDoorRows
import Derived.Test.YtpndobhakmjglaaDoorK
import Derived.LaidMore
import Derived.OpenShut
import Derived.MakeChecks
namespace Go.Proofs.YtpndobhakmjglaaDoor.Laid
open Go.RowKit Go.Proofs.YtpndobhakmjglaaDoorW.PrintWords Go.Proofs.YtpndobhakmjglaaDoor.K
set_option linter.unusedVariables false
theorem laidVars_mem {P : Program} {w : World} {n : String} {d : DataW Unit} : ∀ {l : List (String × DataW Unit)} {ps : List MemPlace}, DataW.LaidVars P w l ps → (n, d) ∈ l →
    ∃ g t cs fuel p, P.globalNamed n = some g ∧ (P.globals[g]?).map (·.type) = some t ∧ w.var? P n = some cs ∧ DataW.trod (fun _ => ()) P w 0 (fun _ => true) false fuel t cs.toList = some (d, p) := by
  intro l
  induction l with
  | nil => intro ps _ h; cases h
  | cons x l ih =>
    intro ps h hm
    obtain ⟨m, y⟩ := x
    obtain ⟨g, t, cs, fuel, p, q, h1, h2, h3, h4, h5, _⟩ := h
    rcases List.mem_cons.1 hm with e | e
    · cases e
      exact ⟨g, t, cs, fuel, p, h1, h2, h3, h4⟩
    · exact ih h5 e
theorem lit_of_trod {H : Type} {enc : TypeId × Value → H} {P : Program} {w : World} {base : Nat} {sp : Nat → Bool} {held : Bool} {fuel : Nat} {t : TypeId} {k : IntKind} {c : Value} {y : DataW H × List MemPlace}
    (ht : P.underlying t = some (.int k)) (h : DataW.trod enc P w base sp held fuel t [c] = some y) : ∃ n, c = .int k n ∧ y = (.lit (.int k n), []) := by
  cases fuel with
  | zero => simp [DataW.trod] at h
  | succ fuel =>
    cases c <;> simp [DataW.trod, ht] at h
    rename_i k' n
    obtain ⟨⟨rfl, _⟩, rfl⟩ := h
    exact ⟨n, rfl, rfl⟩
theorem ints_cells {P : Program} {w : World} {sp : Nat → Bool} {fuel : Nat} {t E : TypeId} {k : IntKind} {N : Nat} {cs : List Value} {xs : List Int} {p : List MemPlace}
    (ht : P.underlying t = some (.array N E)) (hE : P.underlying E = some (.int k)) (hc : P.cellsOf E = 1) (hct : P.cellsOf t = N)
    (h : DataW.trod (fun _ => ()) P w 0 sp false fuel t cs = some (.agg (xs.map fun x => .lit (.int k x)), p)) : cs = nums k xs := by
  obtain ⟨ys, m, _, hx, hl, hn, hel⟩ := DataW.trod_array ht h
  simp only [Prod.mk.injEq, DataW.agg.injEq] at hx
  obtain ⟨hx, _⟩ := hx
  have hlen : xs.length = N := by have := congrArg List.length hx; simpa [hn] using this
  rw [hct] at hl
  refine List.ext_getElem (by rw [hl, nums, List.length_map, hlen]) fun i h1 h2 => ?_
  have hi : i < N := by omega
  have h3 := hel i hi
  rw [hc, Nat.mul_one, List.drop_eq_getElem_cons h1, List.take_succ_cons, List.take_zero, List.getElem?_eq_getElem (by omega)] at h3
  obtain ⟨n, e1, e2⟩ := lit_of_trod hE h3
  have h4 := congrArg (·[i]?) hx
  simp only [List.getElem?_map] at h4
  rw [List.getElem?_eq_getElem (by omega), List.getElem?_eq_getElem (by omega), Option.map_some, Option.map_some, e2] at h4
  simp at h4
  rw [e1, ← h4]
  simp [nums]
theorem laidAt_of {P : Program} {W : World} {l : List (String × DataW Unit)} {n : String} {g N : Nat} {t E : TypeId} {k : IntKind} {xs : List Int}
    (h : laidMetH P l W) (hp : (l.all fun x => x.2.handleName?.isNone) = true) (hm : (n, DataW.agg (xs.map fun x => .lit (.int k x))) ∈ l) (hg : P.globalNamed n = some g) (hgt : (P.globals[g]?).map (·.type) = some t)
    (ht : P.underlying t = some (.array N E)) (hE : P.underlying E = some (.int k)) (hc : P.cellsOf E = 1) (hct : P.cellsOf t = N) : LaidAt W g (nums k xs).toArray := by
  rw [MakeChecks.laidMetH_plain _ _ _ hp] at h
  obtain ⟨ps, hv, _⟩ := h
  obtain ⟨g', t', cs, fuel, p, h1, h2, h3, h4⟩ := laidVars_mem hv hm
  obtain rfl := Option.some.inj (hg.symm.trans h1)
  obtain rfl := Option.some.inj (hgt.symm.trans h2)
  have h5 := ints_cells ht hE hc hct h4
  have h6 : cs = (nums k xs).toArray := by rw [← h5]
  subst h6
  simp only [World.var?, h1, Option.bind_some] at h3
  split at h3
  · rename_i c t2 fr hh
    cases h3
    exact ⟨t2, fr, hh⟩
  · cases h3
theorem i64_b {a : Int} (h : (Lit.int .i64 a).wf = true) : -9223372036854775808 ≤ a ∧ a ≤ 9223372036854775807 := by
  have h2 : (decide (-9223372036854775808 ≤ a) && decide (a ≤ 9223372036854775807)) = true := h
  simpa using h2
end Go.Proofs.YtpndobhakmjglaaDoor.Laid
