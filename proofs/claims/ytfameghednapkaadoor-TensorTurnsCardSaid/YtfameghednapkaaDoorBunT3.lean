/- Texts put together: Open, Laid, LaidAng, TenEach, TenDotP, TenM, TenRow, TenMul, TenMul2, RowsP, MulAll, TenChecks, TenMix. -/
import Derived.Test.YtfameghednapkaaDoorBunT2
import Derived.WalkKit
import Derived.ProofKit
import Derived.OpenShut
import Derived.ShutString
import Derived.ChangeOld
import Derived.Below
import Derived.SizedLaws
import Derived.Deep.Matrix
import Derived.Test.YtfameghednapkaaDoorRows
import Derived.LaidMore
import Derived.MakeChecks
import Derived.Test.YtfameghednapkaaDoorPTensorDotsx1
set_option linter.unusedVariables false
set_option linter.unusedSimpArgs false
namespace Go.Proofs.YtfameghednapkaaDoor.K
open Go.RowKit Go.ChangeShapes Go.WideShapes Go.ChangeAt Go.Proofs.YtfameghednapkaaDoorW.PrintWords Go.Proofs.YtfameghednapkaaDoorW.PrintLast Go.Proofs.YtfameghednapkaaDoorW.PrintMore
theorem open_bss {H : Type} {enc : TypeId × Value → H} {P : Program} {W : World} {base : Nat} {held : Bool} {t e q E : TypeId} {k : IntKind} {a : Option Addr} {len cap : Nat} {d : DataW H} {ps : List MemPlace}
    (ht : P.underlying t = some (.slice e)) (he : P.underlying e = some (.slice q)) (hq : P.underlying q = some (.int k)) (ce : P.cellsOf e = 1) (cq : P.cellsOf q = 1)
    (h : DataW.Trod enc P W base (fun _ => true) held t (.slice a len cap) d ps) :
    ∃ xs : List (List Int), Kd.C (Kd.slice E (Kd.int k)) W a len xs ∧ len ≤ cap ∧ ∀ x ∈ xs, ∀ n ∈ x, (Lit.int k n).wf = true := by
  obtain ⟨fuel, hf⟩ := h
  rcases Deep.open_int_rows ht he hq ce cq hf with ⟨hcs, _⟩ | ⟨x, l, c, A, L, C, Z, hcs, _, hl, hm, _, hrow⟩
  · simp [Value.cells] at hcs
    obtain ⟨rfl, rfl, rfl⟩ := hcs
    exact ⟨[], ⟨rfl, by decide, fun h => absurd h (by decide)⟩, Nat.le_refl _, fun x hx => by simp at hx⟩
  · simp [Value.cells] at hcs
    obtain ⟨rfl, rfl, rfl⟩ := hcs
    unfold maxLen at hm
    have hlen : ∀ r, r < cap → ((Z r).take (L r)).length = L r := fun r hr => by
      obtain ⟨_, h1, _, h2, _⟩ := hrow r hr
      rw [List.length_take, h2]
      omega
    refine ⟨(List.range len).map fun r => (Z r).take (L r), ⟨by simp, by omega, fun _ => ⟨x, rfl, fun j p hj => ?_⟩⟩, hl, ?_⟩
    · have hj' : j < len := by have := (List.getElem?_eq_some_iff.1 hj).1; simpa using this
      have hp : p = (Z j).take (L j) := by simpa [List.getElem?_map, List.getElem?_range hj'] using hj.symm
      subst hp
      obtain ⟨h1, h2, h3, h4, h5, h6, h7⟩ := hrow j (by omega)
      have hlj := hlen j (by omega)
      refine ⟨[.slice (A j) (L j) (C j)], rfl, ⟨A j, C j, by rw [hlj], by rw [hlj]; exact h2, C_int ?_⟩, fun i u hu => ?_⟩
      · rw [hlj]
        unfold maxLen at h3
        refine ⟨hlj, by omega, fun hp => ?_⟩
        cases hA : A j with
        | none => have := h6 hA; omega
        | some a' =>
          refine ⟨a', rfl, fun i hi => ?_⟩
          rw [(h7 a' hA).2 i (by omega)]
          simp [List.getD_eq_getElem?_getD, hi]
      · obtain ⟨rfl, rfl⟩ : i = 0 ∧ u = .slice (A j) (L j) (C j) := by
          cases i with
          | zero => exact ⟨rfl, by simpa using hu.symm⟩
          | succ i => simp at hu
        have : j * (Kd.slice E (Kd.int k)).sz + 0 = j := by show j * 1 + 0 = j; omega
        rw [this]
        exact h1
    · intro y hy n hn
      obtain ⟨r, hr, rfl⟩ := List.mem_map.1 hy
      have hr' : r < cap := by have := List.mem_range.1 hr; omega
      exact (hrow r hr').2.2.2.2.1 n (List.mem_of_mem_take hn)
theorem open_is {H : Type} {enc : TypeId × Value → H} {P : Program} {W : World} {base : Nat} {held : Bool} {t e : TypeId} {k : IntKind} {a : Option Addr} {len cap : Nat} {d : DataW H} {ps : List MemPlace}
    (ht : P.underlying t = some (.slice e)) (he : P.underlying e = some (.int k)) (ce : P.cellsOf e = 1)
    (h : DataW.Trod enc P W base (fun _ => true) held t (.slice a len cap) d ps) :
    ∃ xs : List Int, Kd.C (Kd.int k) W a len xs ∧ len ≤ cap ∧ ∀ n ∈ xs, (Lit.int k n).wf = true := by
  obtain ⟨fuel, hf⟩ := h
  rcases open_ints ht he ce hf with ⟨hcs, _⟩ | ⟨x, l, c, zs, hcs, _, hl, hm, hz, _, hcell, hwz⟩
  · simp [Value.cells] at hcs
    obtain ⟨rfl, rfl, rfl⟩ := hcs
    exact ⟨[], C_int ⟨rfl, by decide, fun h => absurd h (by decide)⟩, Nat.le_refl _, fun x hx => by simp at hx⟩
  · simp [Value.cells] at hcs
    obtain ⟨rfl, rfl, rfl⟩ := hcs
    unfold maxLen at hm
    simp only [if_true] at hz
    have hl1 : (zs.take len).length = len := by rw [List.length_take, hz]; omega
    refine ⟨zs.take len, C_int ⟨hl1, by omega, fun _ => ⟨x, rfl, fun i hi => ?_⟩⟩, hl, fun n hn => hwz n (List.mem_of_mem_take hn)⟩
    rw [hcell i (by omega)]
    simp [List.getD_eq_getElem?_getD, hi]
theorem byte_wf {xs : List Int} (h : ∀ n ∈ xs, (Lit.int .u8 n).wf = true) : ∀ x ∈ xs, 0 ≤ x ∧ x < 256 := fun x hx => by
  have := h x hx
  simp only [Lit.wf, Bool.and_eq_true, decide_eq_true_eq] at this
  have h1 : IntKind.u8.min = 0 := by decide
  have h2 : IntKind.u8.max = 255 := by decide
  omega
theorem wf_range {x : Int} (h : (Lit.int .i64 x).wf = true) : -9223372036854775808 ≤ x ∧ x ≤ 9223372036854775807 := by
  simp only [Lit.wf, Bool.and_eq_true, decide_eq_true_eq] at h
  have h1 : IntKind.i64.min = -9223372036854775808 := by decide
  have h2 : IntKind.i64.max = 9223372036854775807 := by decide
  omega
end Go.Proofs.YtfameghednapkaaDoor.K
namespace Go.Proofs.YtfameghednapkaaDoor.Laid
open Go.RowKit Go.Proofs.YtfameghednapkaaDoorW.PrintWords Go.Proofs.YtfameghednapkaaDoor.K
set_option linter.unusedVariables false
theorem laidVars_mem {P : Program} {w : World} {n : String} {d : DataW Unit} : ∀ {l : List (String × DataW Unit)} {ps : List MemPlace}, DataW.LaidVars P w l ps → (n, d) ∈ l →
    ∃ g t cs fuel p, P.globalNamed n = some g ∧ (P.globals[g]?).map (·.type) = some t ∧ w.var? P n = some cs ∧ DataW.trod (fun _ => ()) P w 0 (fun _ => true) false fuel t cs.toList = some (d, p) := by
  intro l
  induction l with
  | nil => intro ps _ h; cases h
  | cons x l ih =>
    intro ps h hm
    obtain ⟨m, y⟩ := x
    obtain ⟨g, t, cs, fuel, p, q, h1, h2, h3, h4, h5, _⟩ := h
    rcases List.mem_cons.1 hm with e | e
    · cases e
      exact ⟨g, t, cs, fuel, p, h1, h2, h3, h4⟩
    · exact ih h5 e
theorem lit_of_trod {H : Type} {enc : TypeId × Value → H} {P : Program} {w : World} {base : Nat} {sp : Nat → Bool} {held : Bool} {fuel : Nat} {t : TypeId} {k : IntKind} {c : Value} {y : DataW H × List MemPlace}
    (ht : P.underlying t = some (.int k)) (h : DataW.trod enc P w base sp held fuel t [c] = some y) : ∃ n, c = .int k n ∧ y = (.lit (.int k n), []) := by
  cases fuel with
  | zero => simp [DataW.trod] at h
  | succ fuel =>
    cases c <;> simp [DataW.trod, ht] at h
    rename_i k' n
    obtain ⟨⟨rfl, _⟩, rfl⟩ := h
    exact ⟨n, rfl, rfl⟩
theorem ints_cells {P : Program} {w : World} {sp : Nat → Bool} {fuel : Nat} {t E : TypeId} {k : IntKind} {N : Nat} {cs : List Value} {xs : List Int} {p : List MemPlace}
    (ht : P.underlying t = some (.array N E)) (hE : P.underlying E = some (.int k)) (hc : P.cellsOf E = 1) (hct : P.cellsOf t = N)
    (h : DataW.trod (fun _ => ()) P w 0 sp false fuel t cs = some (.agg (xs.map fun x => .lit (.int k x)), p)) : cs = nums k xs := by
  obtain ⟨ys, m, _, hx, hl, hn, hel⟩ := DataW.trod_array ht h
  simp only [Prod.mk.injEq, DataW.agg.injEq] at hx
  obtain ⟨hx, _⟩ := hx
  have hlen : xs.length = N := by have := congrArg List.length hx; simpa [hn] using this
  rw [hct] at hl
  refine List.ext_getElem (by rw [hl, nums, List.length_map, hlen]) fun i h1 h2 => ?_
  have hi : i < N := by omega
  have h3 := hel i hi
  rw [hc, Nat.mul_one, List.drop_eq_getElem_cons h1, List.take_succ_cons, List.take_zero, List.getElem?_eq_getElem (by omega)] at h3
  obtain ⟨n, e1, e2⟩ := lit_of_trod hE h3
  have h4 := congrArg (·[i]?) hx
  simp only [List.getElem?_map] at h4
  rw [List.getElem?_eq_getElem (by omega), List.getElem?_eq_getElem (by omega), Option.map_some, Option.map_some, e2] at h4
  simp at h4
  rw [e1, ← h4]
  simp [nums]
theorem laidAt_of {P : Program} {W : World} {l : List (String × DataW Unit)} {n : String} {g N : Nat} {t E : TypeId} {k : IntKind} {xs : List Int}
    (h : laidMetH P l W) (hp : (l.all fun x => x.2.handleName?.isNone) = true) (hm : (n, DataW.agg (xs.map fun x => .lit (.int k x))) ∈ l) (hg : P.globalNamed n = some g) (hgt : (P.globals[g]?).map (·.type) = some t)
    (ht : P.underlying t = some (.array N E)) (hE : P.underlying E = some (.int k)) (hc : P.cellsOf E = 1) (hct : P.cellsOf t = N) : LaidAt W g (nums k xs).toArray := by
  rw [MakeChecks.laidMetH_plain _ _ _ hp] at h
  obtain ⟨ps, hv, _⟩ := h
  obtain ⟨g', t', cs, fuel, p, h1, h2, h3, h4⟩ := laidVars_mem hv hm
  obtain rfl := Option.some.inj (hg.symm.trans h1)
  obtain rfl := Option.some.inj (hgt.symm.trans h2)
  have h5 := ints_cells ht hE hc hct h4
  have h6 : cs = (nums k xs).toArray := by rw [← h5]
  subst h6
  simp only [World.var?, h1, Option.bind_some] at h3
  split at h3
  · rename_i c t2 fr hh
    cases h3
    exact ⟨t2, fr, hh⟩
  · cases h3
theorem i64_b {a : Int} (h : (Lit.int .i64 a).wf = true) : -9223372036854775808 ≤ a ∧ a ≤ 9223372036854775807 := by
  have h2 : (decide (-9223372036854775808 ≤ a) && decide (a ≤ 9223372036854775807)) = true := h
  simpa using h2
end Go.Proofs.YtfameghednapkaaDoor.Laid
namespace Go.Proofs.YtfameghednapkaaDoor.Laid
open Go.RowKit Go.Proofs.YtfameghednapkaaDoorW.PrintWords Go.Proofs.YtfameghednapkaaDoor.K
set_option linter.unusedVariables false
theorem four_cells {P : Program} {w : World} {sp : Nat → Bool} {fuel : Nat} {t E K : TypeId} {k : IntKind} {cs : List Value} {a0 b0 a1 b1 a2 b2 a3 b3 : Int} {p : List MemPlace}
    (ht : P.underlying t = some (.array 4 E)) (hE : P.underlying E = some (.array 2 K)) (hK : P.underlying K = some (.int k)) (hc : P.cellsOf K = 1) (hcE : P.cellsOf E = 2) (hct : P.cellsOf t = 8)
    (h : DataW.trod (fun _ => ()) P w 0 sp false fuel t cs = some (.agg [.agg [.lit (.int k a0), .lit (.int k b0)], .agg [.lit (.int k a1), .lit (.int k b1)], .agg [.lit (.int k a2), .lit (.int k b2)], .agg [.lit (.int k a3), .lit (.int k b3)]], p)) : cs = nums k [a0, b0, a1, b1, a2, b2, a3, b3] := by
  obtain ⟨ys, m, _, hx, hl, hn, hel⟩ := DataW.trod_array ht h
  simp only [Prod.mk.injEq, DataW.agg.injEq] at hx
  obtain ⟨hx, _⟩ := hx
  rw [hct] at hl
  have hch : ∀ (i : Nat) (a b : Int), i < 4 → [DataW.agg [DataW.lit (H := Unit) (.int k a0), .lit (.int k b0)], .agg [.lit (.int k a1), .lit (.int k b1)], .agg [.lit (.int k a2), .lit (.int k b2)], .agg [.lit (.int k a3), .lit (.int k b3)]][i]? = some (.agg [.lit (.int k a), .lit (.int k b)]) → (cs.drop (i * 2)).take 2 = nums k [a, b] := by
    intro i a b hi hr
    have h3 := hel i hi
    rw [hcE] at h3
    rw [hx, List.getElem?_map] at hr
    obtain ⟨y, hy, he⟩ := Option.map_eq_some_iff.1 hr
    rw [hy] at h3
    obtain ⟨y1, y2⟩ := y
    dsimp only at he
    subst he
    exact ints_cells (xs := [a, b]) hE hK hc hcE h3
  have c0 := hch 0 a0 b0 (by omega) rfl
  have c1 := hch 1 a1 b1 (by omega) rfl
  have c2 := hch 2 a2 b2 (by omega) rfl
  have c3 := hch 3 a3 b3 (by omega) rfl
  have e : cs = (cs.drop (0 * 2)).take 2 ++ ((cs.drop (1 * 2)).take 2 ++ ((cs.drop (2 * 2)).take 2 ++ (cs.drop (3 * 2)).take 2)) := by
    have h8 : cs.length = 8 := hl
    match cs, h8 with
    | [_, _, _, _, _, _, _, _], _ => rfl
  rw [e, c0, c1, c2, c3]
  rfl
theorem laidAt_four {P : Program} {W : World} {l : List (String × DataW Unit)} {n : String} {g : Nat} {t E K : TypeId} {k : IntKind} {a0 b0 a1 b1 a2 b2 a3 b3 : Int}
    (h : laidMetH P l W) (hp : (l.all fun x => x.2.handleName?.isNone) = true) (hm : (n, DataW.agg [.agg [.lit (.int k a0), .lit (.int k b0)], .agg [.lit (.int k a1), .lit (.int k b1)], .agg [.lit (.int k a2), .lit (.int k b2)], .agg [.lit (.int k a3), .lit (.int k b3)]]) ∈ l) (hg : P.globalNamed n = some g) (hgt : (P.globals[g]?).map (·.type) = some t)
    (ht : P.underlying t = some (.array 4 E)) (hE : P.underlying E = some (.array 2 K)) (hK : P.underlying K = some (.int k)) (hc : P.cellsOf K = 1) (hcE : P.cellsOf E = 2) (hct : P.cellsOf t = 8) : LaidAt W g (nums k [a0, b0, a1, b1, a2, b2, a3, b3]).toArray := by
  rw [MakeChecks.laidMetH_plain _ _ _ hp] at h
  obtain ⟨ps, hv, _⟩ := h
  obtain ⟨g', t', cs, fuel, p, h1, h2, h3, h4⟩ := laidVars_mem hv hm
  obtain rfl := Option.some.inj (hg.symm.trans h1)
  obtain rfl := Option.some.inj (hgt.symm.trans h2)
  have h5 := four_cells ht hE hK hc hcE hct h4
  have h6 : cs = (nums k [a0, b0, a1, b1, a2, b2, a3, b3]).toArray := by rw [← h5]
  subst h6
  simp only [World.var?, h1, Option.bind_some] at h3
  split at h3
  · rename_i c t2 fr hh
    cases h3
    exact ⟨t2, fr, hh⟩
  · cases h3
end Go.Proofs.YtfameghednapkaaDoor.Laid
namespace Go.Proofs.YtfameghednapkaaDoor.Ten
open Go.RowKit Go.Proofs.YtfameghednapkaaDoorW.PrintWords Go.Proofs.YtfameghednapkaaDoorW.PrintLast Go.Proofs.YtfameghednapkaaDoorW.PrintMore Go.Proofs.YtfameghednapkaaDoor.K Go.Proofs.YtfameghednapkaaDoor.Fixed
set_option linter.unusedVariables false
set_option linter.unusedSimpArgs false
def errF (f : Nat → Int × Int) : Nat → Nat → Int
  | 0, _ => 0
  | m + 1, k => if (f k).2 = 0 then errF f m (k + 1) else (f k).2
def outL (f : Nat → Int × Int) (n : Nat) : List Int := (List.range n).map fun k => (f k).1
theorem outL_length (f : Nat → Int × Int) (n : Nat) : (outL f n).length = n := by simp [outL]
theorem outL_succ (f : Nat → Int × Int) (n : Nat) : outL f (n + 1) = outL f n ++ [(f n).1] := by simp [outL, List.range_succ]
def TellsAt (fid : Nat) (fa lb : Array Value) (f : Nat → Int × Int) (n : Nat) (w : World) : Prop := ∀ k, k < n → ∀ W, Below w.heap.size w W → Calls Tryd.prog fid (fa ++ #[.int .i64 (k : Int)] ++ lb) W fun e W' => e = .returned (.tuple #[.int .i64 (f k).1, .int .i64 (f k).2]) ∧ Below W.heap.size W W'
def EachEnd (f : Nat → Int × Int) (n : Nat) (w : World) (e : Ending) (w' : World) : Prop :=
  (errF f n 0 ≠ 0 → e = .returned (.tuple #[.slice none 0 0, .int .i64 (errF f n 0)])) ∧ (errF f n 0 = 0 → ∃ v, e = .returned (.tuple #[v, .int .i64 0]) ∧ Kd.R (Kd.int .i64) 3 w' w.heap.size (fun _ => True) v (outL f n)) ∧ Below w.heap.size w w'
set_option maxHeartbeats 4000000 in
set_option maxRecDepth 100000 in
theorem each_calls (fid : Nat) (fa lb : Array Value) (f : Nat → Int × Int) (n : Nat) (w : World) (hn : n ≤ 1000000) (eg : ∀ args w, (callFunc fid args).run Tryd.prog w = .ok (.enter fid args) w) (ht : TellsAt fid fa lb f n w) :
    Calls Tryd.prog 48 #[.int .i64 (n : Int), .func (.func fid) fa lb] w (EachEnd f n w) := by
  have HT := Aside0.mk ht
  have HN := Aside0.mk hn
  clear ht hn
  go_enter Tryd.func48, Tryd.ntmps48
  go_wp2_with (fail)
  go_step3
  go_wp2
  go_step3
  go_wp2_with (fail)
  have HSm : Aside0 (∀ k, k < n → errF f (n - k) k = if (f k).2 = 0 then errF f (n - (k + 1)) (k + 1) else (f k).2) := ⟨fun k hk => by
    rw [show n - k = (n - (k + 1)) + 1 by omega]
    rfl⟩
  go_loopw [6, 7, 12] (fun o z i wr => ∃ k : Nat, k ≤ n ∧ i = .int .i64 (k : Int) ∧ z = .int .i64 0 ∧ Aside0 (errF f n 0 = errF f (n - k) k ∧ wr.ownsRow w.heap.size 3 1 o (outL f k).length (nums .i64 (outL f k)) ∧ Below w.heap.size w wr)) (fun _ _ i _ => n - (intOf i).toNat)
  case atStart => exact ⟨0, Nat.zero_le _, rfl, rfl, ⟨rfl, own_nil _ _ _ _, Below.refl _ _⟩⟩
  case round =>
    obtain ⟨k, hk, rfl, rfl, HO⟩ := hrel
    by_cases hlt : k < n
    · have HE := Aside0.mk (HT.out k hlt wr HO.out.2.2)
      have HS := Aside0.mk (HSm.out k hlt)
      have HX := Aside0.mk (outL_succ f k)
      have HLen := Aside0.mk (outL_length f k)
      have HF : ∃ p, p = f k := ⟨_, rfl⟩
      obtain ⟨p, hp⟩ := HF
      rw [← hp] at HE HS HX
      clear hp
      obtain ⟨x, z⟩ := p
      obtain ⟨A3, c3, rfl⟩ := own_slice HO.out.2.1
      generalize outL f k = es at *
      go_wp2_with (fail)
      refine HE.out.mono ?_
      rintro e w1 ⟨rfl, hb⟩
      have HB1 := Aside0.mk (below_step HO.out.2.2 hb)
      have HO1 : Aside0 (w1.ownsRow w.heap.size 3 1 (.slice A3 es.length c3) es.length (nums .i64 es)) := ⟨own_int (Kd.R_below (R_int HO.out.2.1) hb)⟩
      clear hb
      have hwk : IntKind.i64.wrap ((k : Int) + 1) = (k : Int) + 1 := by have := HN.out; rw [IntKind.wrap_i64]; omega
      by_cases hz : z = 0
      · subst hz
        have HE2 : Aside0 (errF f n 0 = errF f (n - (k + 1)) (k + 1)) := ⟨by rw [HO.out.1, HS.out, if_pos rfl]⟩
        go_wp2_with (at_builtin; refine print_append_num (w0 := w) w.heap.size rfl (.tmp 24) (.tmp 26) 22 3 .i64 8 rfl Tryd.underlying22 info_int (by decide) _ es _ rfl rfl HO1.out HB1.out HB1.out.size ?_ ?_; rotate_left; intro v1 w2 hown hbw hgr hat; have HA := Aside0.mk (And.intro hown hbw); clear hown hbw hgr hat)
        · go_roundw
          case rel => exact ⟨k + 1, by omega, by go_num, rfl, ⟨HE2.out, by rw [HX.out]; exact HA.out.1, HA.out.2⟩⟩
          case measure => simp [intOf]; omega
        · have := HLen.out
          have := HN.out
          omega
      · have hzd : (z != 0) = true := by simpa using hz
        have HE2 : Aside0 (errF f n 0 = z) := ⟨by rw [HO.out.1, HS.out, if_neg hz]⟩
        have HZ := Aside0.mk hz
        clear hz
        go_wp2
        rw [Exit.noGoto_ret]
        go_ret2
        exact ⟨fun _ => by rw [HE2.out]; rfl, fun h => absurd (HE2.out.symm.trans h) HZ.out, HB1.out⟩
    · obtain rfl : k = n := by omega
      have HE2 : Aside0 (errF f k 0 = 0) := ⟨by rw [HO.out.1, Nat.sub_self]; rfl⟩
      go_wp2
      rw [Exit.noGoto_ret]
      go_ret2
      exact ⟨fun h => absurd HE2.out h, fun _ => ⟨_, rfl, R_int HO.out.2.1⟩, HO.out.2.2⟩
end Go.Proofs.YtfameghednapkaaDoor.Ten
namespace Go.Proofs.YtfameghednapkaaDoor.Ten
open Go.RowKit Go.Proofs.YtfameghednapkaaDoorW.PrintWords Go.Proofs.YtfameghednapkaaDoorW.PrintLast Go.Proofs.YtfameghednapkaaDoorW.PrintMore Go.Proofs.YtfameghednapkaaDoor.K Go.Proofs.YtfameghednapkaaDoor.Fixed Go.Proofs.YtfameghednapkaaDoor.PTensorDots
set_option linter.unusedVariables false
set_option linter.unusedSimpArgs false
theorem w64_in (x : Int) (h0 : -9223372036854775808 ≤ x) (h1 : x < 9223372036854775808) : wrap64 x = x := by
  rw [wrap64]
  omega
theorem rweight_f (x : Int) : cupelref07_Weight.f x = some (isW x) := by
  unfold cupelref07_Weight.f isW
  by_cases h : -16777216 ≤ x
  · rw [if_pos h]
    simp [h]
  · rw [if_neg h]
    simp [h]
theorem ris_f (x : Int) : cupelref06_Is.f x = some (inR x) := by
  unfold cupelref06_Is.f inR
  by_cases h : -2147483648 ≤ x
  · rw [if_pos h]
    simp [h]
  · rw [if_neg h]
    simp [h]
theorem rtold_f (x : Int) : cupelref07_told.f x = some (toldV x) := by
  unfold cupelref07_told.f
  rw [ris_f]
  simp only [Option.bind_some]
  unfold toldV
  split <;> rfl
theorem rround_f (x : Int) (h0 : -4611686018427387904 ≤ x) (h1 : x ≤ 4611686018427387904) : cupelref06_Round.f x = some (rndV x) := by
  have hw : wrap64 (x + 32768) = x + 32768 := w64_in _ (by omega) (by omega)
  unfold cupelref06_Round.f cupelref06_Floor.f
  rw [hw, if_neg (by decide)]
  have h2 : Int.tmod (x + 32768) 65536 = if 0 ≤ x + 32768 then (x + 32768) % 65536 else -((-(x + 32768)) % 65536) := by
    split
    · rename_i h; exact Int.tmod_eq_emod_of_nonneg h
    · rename_i h
      rw [show x + 32768 = -(-(x + 32768)) by omega, Int.neg_tmod, Int.tmod_eq_emod_of_nonneg (by omega), Int.neg_neg]
  have h3 : Int.tdiv (x + 32768) 65536 = if 0 ≤ x + 32768 then (x + 32768) / 65536 else -((-(x + 32768)) / 65536) := by
    split
    · rename_i h; exact Int.tdiv_eq_ediv_of_nonneg h
    · rename_i h
      rw [show x + 32768 = -(-(x + 32768)) by omega, Int.neg_tdiv, Int.tdiv_eq_ediv_of_nonneg (by omega), Int.neg_neg]
  rw [h2, h3]
  have hw2 : ∀ y : Int, -4611686018427387904 ≤ y → y ≤ 4611686018427387904 → wrap64 y = y := fun y _ _ => w64_in _ (by omega) (by omega)
  unfold rndV
  by_cases hx : 0 ≤ x + 32768
  · rw [if_pos hx, if_pos hx, if_neg (by omega), hw2 _ (by omega) (by omega)]
    rfl
  · rw [if_neg hx, if_neg hx]
    by_cases hy : -(-(x + 32768) % 65536) < 0
    · rw [if_pos hy, hw2 (-(-(x + 32768) / 65536)) (by omega) (by omega), hw2 _ (by omega) (by omega)]
      simp only [Option.bind_some]
      congr 1
      omega
    · rw [if_neg hy, hw2 _ (by omega) (by omega)]
      simp only [Option.bind_some]
      congr 1
      omega
theorem rd_nat (l : List Int) (k : Nat) : rd l (k : Int) = l.getD k 0 := rfl
theorem dot_end (r v : List Int) (hr : r.all isW = true) (hv : v.all inR = true) (hn : v.length ≤ 64) : cupelref07_Dot.l0 1 r v (dotS r v v.length) (v.length : Int) = some (rtV (dotS r v v.length)) := by
  have hb := dotS_bd hr hv v.length
  generalize dotS r v v.length = s at *
  unfold cupelref07_Dot.l0
  rw [if_neg (by omega), rround_f s (by omega) (by omega)]
  simp only [Option.bind_some]
  rw [rtold_f]
  rfl
theorem dot_step (r v : List Int) (m k : Nat) (s s' : Int) (hl : r.length = v.length) (hk : k < v.length) (hn : v.length ≤ 64) (hw : isW (r.getD k 0) = true) (hq : inR (v.getD k 0) = true) (h1 : wrap64 (s + wrap64 (r.getD k 0 * v.getD k 0)) = s') :
    cupelref07_Dot.l0 (m + 1) r v s (k : Int) = cupelref07_Dot.l0 m r v s' ((k + 1 : Nat) : Int) := by
  rw [cupelref07_Dot.l0]
  rw [if_pos (by omega), if_pos (by omega), if_pos (by omega), rweight_f, rd_nat, hw]
  simp only [Option.bind_some, if_true]
  rw [ris_f, rd_nat, hq]
  simp only [Option.bind_some, if_true]
  rw [h1, w64_in ((k : Int) + 1) (by omega) (by omega), Int.natCast_add]
  rfl
theorem dot_good (r v : List Int) (hl : r.length = v.length) (hn : v.length ≤ 64) (hr : r.all isW = true) (hv : v.all inR = true) (m : Nat) : ∀ k : Nat, m + k = v.length → cupelref07_Dot.l0 (m + 1) r v (dotS r v k) (k : Int) = some (rtV (dotS r v v.length)) := by
  induction m with
  | zero => 
    intro k h
    obtain rfl : k = v.length := by omega
    exact dot_end r v hr hv hn
  | succ m ih =>
    intro k h
    have hb := dotS_bd hr hv (k + 1)
    have h1 := getD_w hr k
    have h2 := getD_r hv k
    have hx := mul_bd (A := 16777216) (B := 2147483648) h1 (show -2147483648 ≤ v.getD k 0 ∧ v.getD k 0 ≤ 2147483648 by omega) (by decide) (by decide)
    have hS : dotS r v (k + 1) = dotS r v k + r.getD k 0 * v.getD k 0 := rfl
    rw [dot_step r v (m + 1) k (dotS r v k) (dotS r v (k + 1)) hl (by omega) hn (decide_eq_true h1) (decide_eq_true h2) (by
      rw [w64_in (r.getD k 0 * v.getD k 0) (by omega) (by omega), w64_in _ (by omega) (by omega)]
      exact hS.symm)]
    exact ih (k + 1) (by omega)
theorem dot_wrong (r v : List Int) (hl : r.length = v.length) (hn : v.length ≤ 64) : ∀ (m k : Nat) (s : Int), m + k = v.length → (∃ i, k ≤ i ∧ i < v.length ∧ (isW (r.getD i 0) = false ∨ inR (v.getD i 0) = false)) → cupelref07_Dot.l0 (m + 1) r v s (k : Int) = some (0, 10)
  | 0, k, s, h, ⟨i, h1, h2, _⟩ => by omega
  | m + 1, k, s, h, ⟨i, h1, h2, h3⟩ => by
    unfold cupelref07_Dot.l0
    rw [if_pos (by omega), if_pos (by omega), if_pos (by omega), rweight_f, rd_nat]
    simp only [Option.bind_some]
    cases hw : isW (r.getD k 0) with
    | false => rfl
    | true =>
      simp only [if_true]
      rw [ris_f, rd_nat]
      simp only [Option.bind_some]
      cases hq : inR (v.getD k 0) with
      | false => rfl
      | true =>
        simp only [if_true]
        rw [w64_in ((k : Int) + 1) (by omega) (by omega)]
        have h9 := fun s h => dot_wrong r v hl hn m (k + 1) s (by omega) ⟨i, h, h2, h3⟩
        rw [show ((k + 1 : Nat) : Int) = (k : Int) + 1 from Int.natCast_add k 1] at h9
        refine h9 _ ?_
        clear h9
        rcases Nat.lt_or_ge k i with h8 | h8
        · omega
        · obtain rfl : i = k := by omega
          rw [hw, hq] at h3
          simp at h3
theorem all_false {p : Int → Bool} {l : List Int} (h : l.all p = false) : ∃ i, i < l.length ∧ p (l.getD i 0) = false := by
  induction l with
  | nil => simp at h
  | cons x t ih =>
    rw [List.all_cons] at h
    cases hx : p x with
    | false => exact ⟨0, by simp, hx⟩
    | true =>
      rw [hx, Bool.true_and] at h
      obtain ⟨i, h1, h2⟩ := ih h
      exact ⟨i + 1, by simpa using h1, h2⟩
theorem rdot_f (r v : List Int) : cupelref07_Dot.f (v.length + 2) r v = some (dotV r v) := by
  have hj : ∀ b, cupelref07_Dot.j0 (v.length + 2) r v b = if b = true then some (0, 13) else cupelref07_Dot.l0 (v.length + 1) r v 0 0 := fun b => by rw [cupelref07_Dot.j0]
  unfold cupelref07_Dot.f dotV
  by_cases h1 : r.length = v.length
  · rw [if_pos (by omega)]
    by_cases h2 : v.length = 0
    · rw [if_pos (by omega), hj, if_pos rfl, if_pos (.inr (.inl h2))]
    · rw [if_neg (by omega), hj]
      by_cases h3 : 64 < v.length
      · rw [if_pos (by simp; omega), if_pos (.inr (.inr h3))]
      · rw [if_neg (by simp; omega), if_neg (by omega)]
        by_cases h4 : r.all isW = true ∧ v.all inR = true
        · rw [if_pos h4]
          exact dot_good r v h1 (by omega) h4.1 h4.2 v.length 0 rfl
        · rw [if_neg h4]
          refine dot_wrong r v h1 (by omega) v.length 0 0 rfl ?_
          cases hr : r.all isW with
          | false =>
            obtain ⟨i, h5, h6⟩ := all_false hr
            exact ⟨i, Nat.zero_le _, by omega, .inl h6⟩
          | true =>
            cases hv : v.all inR with
            | false =>
              obtain ⟨i, h5, h6⟩ := all_false hv
              exact ⟨i, Nat.zero_le _, by omega, .inr h6⟩
            | true => exact absurd ⟨hr, hv⟩ h4
  · rw [if_neg (by omega), hj, if_pos rfl, if_pos (.inl h1)]
end Go.Proofs.YtfameghednapkaaDoor.Ten
namespace Go.Proofs.YtfameghednapkaaDoor.Ten
open Go.RowKit Go.Proofs.YtfameghednapkaaDoorW.PrintWords Go.Proofs.YtfameghednapkaaDoorW.PrintLast Go.Proofs.YtfameghednapkaaDoorW.PrintMore Go.Proofs.YtfameghednapkaaDoor.K Go.Proofs.YtfameghednapkaaDoor.Fixed Go.Proofs.YtfameghednapkaaDoor.PTensorDots
set_option linter.unusedVariables false
set_option linter.unusedSimpArgs false
def mV (rows cols : Int) (l : List Int) : Int := if rows < 1 ∨ 512 < rows ∨ cols < 1 ∨ 64 < cols ∨ (l.length : Int) ≠ rows * cols then 13 else if l.all isW = true then 0 else 10
def matA (rows cols : Int) (A : Option Addr) (n c : Nat) : Array Value := #[.int .i64 rows, .int .i64 cols, .slice A n c]
set_option maxHeartbeats 4000000 in
set_option maxRecDepth 100000 in
theorem mcheck_calls (rows cols : Int) (A : Option Addr) (c : Nat) (l : List Int) (w : World) (hC : Kd.C (Kd.int .i64) w A l.length l) :
    Calls Tryd.prog 23 #[.agg #[.int .i64 rows, .int .i64 cols, .slice A l.length c]] w fun e w' => e = .returned (.int .i64 (mV rows cols l)) ∧ Below w.heap.size w w' := by
  have hend : (rows < 1 ∨ 512 < rows ∨ cols < 1 ∨ 64 < cols ∨ (l.length : Int) ≠ rows * cols) → Aside0 (mV rows cols l = 13) := fun h => ⟨if_pos h⟩
  have HB0 : Aside0 (Below w.heap.size w (w.alloc (.cells #[.int .i64 rows, .int .i64 cols, .slice A l.length c] 36))) := ⟨bel_alloc (Below.refl _ _) _⟩
  have HK : Aside0 (∀ W, Below w.heap.size w W → Calls Tryd.prog 34 #[.slice A l.length c, .func (.func 35) #[] #[]] W fun e w' => e = .returned (.bool (l.all isW)) ∧ Below W.heap.size W w') := ⟨fun W hb => all_calls 35 #[] #[] isW A c l W (Kd.C_below hC hb) (enters_ Tryd.func35 (by kernel_rfl) rfl) (fun x W hb => weight_calls x W)⟩
  clear hC
  by_cases h1 : rows < 1
  · have d1 : decide (rows < 1) = true := by simpa using h1
    have HE := hend (.inl h1)
    rw [HE.out]
    clear hend h1
    go_enter Tryd.func23, Tryd.ntmps23
    go_wp2
    go_ret
    exact ⟨rfl, HB0.out⟩
  · have d1 : decide (rows < 1) = false := by simpa using h1
    by_cases h2 : 512 < rows
    · have d2 : decide (512 < rows) = true := by simpa using h2
      have HE := hend (.inr (.inl h2))
      rw [HE.out]
      clear hend h1 h2
      go_enter Tryd.func23, Tryd.ntmps23
      go_wp2
      go_ret
      exact ⟨rfl, HB0.out⟩
    · have d2 : decide (512 < rows) = false := by simpa using h2
      by_cases h3 : cols < 1
      · have d3 : decide (cols < 1) = true := by simpa using h3
        have HE := hend (.inr (.inr (.inl h3)))
        rw [HE.out]
        clear hend h1 h2 h3
        go_enter Tryd.func23, Tryd.ntmps23
        go_wp2
        go_ret
        exact ⟨rfl, HB0.out⟩
      · have d3 : decide (cols < 1) = false := by simpa using h3
        by_cases h4 : 64 < cols
        · have d4 : decide (64 < cols) = true := by simpa using h4
          have HE := hend (.inr (.inr (.inr (.inl h4))))
          rw [HE.out]
          clear hend h1 h2 h3 h4
          go_enter Tryd.func23, Tryd.ntmps23
          go_wp2
          go_ret
          exact ⟨rfl, HB0.out⟩
        · have d4 : decide (64 < cols) = false := by simpa using h4
          obtain ⟨p, hp⟩ : ∃ p, p = rows * cols := ⟨_, rfl⟩
          have hpb := mul_bd (a := rows) (b := cols) (A := 512) (B := 64) (by omega) (by omega) (by decide) (by decide)
          have hwp : IntKind.i64.wrap (rows * cols) = p := by rw [hp, IntKind.wrap_i64]; omega
          by_cases h5 : (l.length : Int) ≠ rows * cols
          · have d5 : ((l.length : Int) != p) = true := by rw [hp]; simpa using h5
            have HE := hend (.inr (.inr (.inr (.inr h5))))
            rw [HE.out]
            clear hend h1 h2 h3 h4 h5 hp hpb
            go_enter Tryd.func23, Tryd.ntmps23
            go_wp2
            go_ret
            exact ⟨rfl, HB0.out⟩
          · have d5 : ((l.length : Int) != p) = false := by rw [hp]; simpa using h5
            obtain ⟨q, hq⟩ : ∃ q, l.all isW = q := ⟨_, rfl⟩
            have HE : Aside0 (mV rows cols l = if q = true then 0 else 10) := ⟨by rw [← hq]; exact if_neg (by omega)⟩
            have HK2 := Aside0.mk (HK.out _ HB0.out)
            rw [hq] at HK2
            rw [HE.out]
            clear hend h1 h2 h3 h4 h5 hp hpb HE hq
            cases q with
            | true =>
              go_enter Tryd.func23, Tryd.ntmps23
              go_wp2_with (fail)
              refine HK2.out.mono ?_
              rintro e w1 ⟨rfl, hb⟩
              have HB1 := Aside0.mk (below_step HB0.out hb)
              clear hb
              go_wp2
              go_ret
              exact ⟨rfl, HB1.out⟩
            | false =>
              go_enter Tryd.func23, Tryd.ntmps23
              go_wp2_with (fail)
              refine HK2.out.mono ?_
              rintro e w1 ⟨rfl, hb⟩
              have HB1 := Aside0.mk (below_step HB0.out hb)
              clear hb
              go_wp2
              go_ret
              exact ⟨rfl, HB1.out⟩
theorem rweight_calls (x : Int) (w : World) :
    Calls Tryd.prog 38 #[.int .i64 x] w fun e w' => e = .returned (.bool (isW x)) ∧ Drawn0 w w' :=
  cupelref07_Weight.calls x _ w (rweight_f x)
set_option maxHeartbeats 4000000 in
set_option maxRecDepth 100000 in
theorem rmatrix_calls (rows cols : Int) (A : Option Addr) (c : Nat) (l : List Int) (w : World) (hC : Kd.C (Kd.int .i64) w A l.length l) :
    Calls Tryd.prog 21 #[.int .i64 rows, .int .i64 cols, .slice A l.length c] w fun e w' => e = .returned (.int .i64 (mV rows cols l)) ∧ Below w.heap.size w w' := by
  have hend : (rows < 1 ∨ 512 < rows ∨ cols < 1 ∨ 64 < cols ∨ (l.length : Int) ≠ rows * cols) → Aside0 (mV rows cols l = 13) := fun h => ⟨if_pos h⟩
  have HC := Aside0.mk hC
  have hm := hC.2.1
  clear hC
  by_cases h1 : rows < 1
  · have d1 : decide (rows < 1) = true := by simpa using h1
    have HE := hend (.inl h1)
    rw [HE.out]
    clear hend h1
    go_enter Tryd.func21, Tryd.ntmps21
    go_wp2
    go_ret
    exact ⟨rfl, Below.refl _ _⟩
  · have d1 : decide (rows < 1) = false := by simpa using h1
    by_cases h2 : 512 < rows
    · have d2 : decide (512 < rows) = true := by simpa using h2
      have HE := hend (.inr (.inl h2))
      rw [HE.out]
      clear hend h1 h2
      go_enter Tryd.func21, Tryd.ntmps21
      go_wp2
      go_ret
      exact ⟨rfl, Below.refl _ _⟩
    · have d2 : decide (512 < rows) = false := by simpa using h2
      by_cases h3 : cols < 1
      · have d3 : decide (cols < 1) = true := by simpa using h3
        have HE := hend (.inr (.inr (.inl h3)))
        rw [HE.out]
        clear hend h1 h2 h3
        go_enter Tryd.func21, Tryd.ntmps21
        go_wp2
        go_ret
        exact ⟨rfl, Below.refl _ _⟩
      · have d3 : decide (cols < 1) = false := by simpa using h3
        by_cases h4 : 64 < cols
        · have d4 : decide (64 < cols) = true := by simpa using h4
          have HE := hend (.inr (.inr (.inr (.inl h4))))
          rw [HE.out]
          clear hend h1 h2 h3 h4
          go_enter Tryd.func21, Tryd.ntmps21
          go_wp2
          go_ret
          exact ⟨rfl, Below.refl _ _⟩
        · have d4 : decide (64 < cols) = false := by simpa using h4
          obtain ⟨p, hp⟩ : ∃ p, p = rows * cols := ⟨_, rfl⟩
          have hpb := mul_bd (a := rows) (b := cols) (A := 512) (B := 64) (by omega) (by omega) (by decide) (by decide)
          have hwp : IntKind.i64.wrap (rows * cols) = p := by rw [hp, IntKind.wrap_i64]; omega
          by_cases h5 : (l.length : Int) ≠ rows * cols
          · have d5 : ((l.length : Int) != p) = true := by rw [hp]; simpa using h5
            have HE := hend (.inr (.inr (.inr (.inr h5))))
            rw [HE.out]
            clear hend h1 h2 h3 h4 h5 hp hpb
            go_enter Tryd.func21, Tryd.ntmps21
            go_wp2
            go_ret
            exact ⟨rfl, Below.refl _ _⟩
          · have d5 : ((l.length : Int) != p) = false := by rw [hp]; simpa using h5
            have HE : Aside0 (mV rows cols l = if l.all isW = true then 0 else 10) := ⟨if_neg (by omega)⟩
            clear hend h1 h2 h3 h4 h5 hp hpb
            go_enter Tryd.func21, Tryd.ntmps21
            go_wp2_with (fail)
            go_loopw [7] (fun i wr => ∃ k : Nat, k ≤ l.length ∧ i = .int .i64 (k : Int) ∧ Aside0 ((l.take k).all isW = true ∧ Below w.heap.size w wr)) (fun i _ => l.length - (intOf i).toNat)
            case atStart => exact ⟨0, Nat.zero_le _, rfl, ⟨by simp, Below.refl _ _⟩⟩
            case round =>
              obtain ⟨k, hk, rfl, HR⟩ := hrel
              by_cases hlt : k < l.length
              · obtain ⟨ad, rfl, hc⟩ := int_at' HC.out HR.out.2 k hlt
                have HS : Aside0 ((l.take (k + 1)).all isW = isW (l.getD k 0)) := ⟨by rw [List.take_succ_eq_append_getElem hlt, List.all_append, HR.out.1, List.getD_eq_getElem?_getD, List.getElem?_eq_getElem hlt]; simp⟩
                have HN : Aside0 (isW (l.getD k 0) = false → l.all isW = false) := ⟨fun h => by
                  rw [← List.take_append_drop (k + 1) l, List.all_append, HS.out, h, Bool.false_and]⟩
                generalize l.getD k 0 = x at *
                go_wp2_with (fail)
                refine (rweight_calls x wr).mono ?_
                rintro e w1 ⟨rfl, hd⟩
                have HB := Aside0.mk (below_step HR.out.2 hd.below)
                clear hd hc
                cases hp : isW x with
                | true =>
                  have HF : Aside0 ((l.take (k + 1)).all isW = true) := ⟨by rw [HS.out, hp]⟩
                  clear hp
                  go_wp2
                  go_roundw
                  case rel => exact ⟨k + 1, by omega, by go_num, ⟨HF.out, HB.out⟩⟩
                  case measure => simp [intOf]; omega
                | false =>
                  have HF : Aside0 (mV rows cols l = 10) := ⟨by rw [HE.out, HN.out hp]; rfl⟩
                  clear hp
                  go_wp2
                  go_ret
                  exact ⟨by rw [HF.out]; rfl, HB.out⟩
              · obtain rfl : k = l.length := by omega
                have HF : Aside0 (mV rows cols l = 0) := ⟨by rw [HE.out, if_pos (by have := HR.out.1; rwa [List.take_of_length_le (Nat.le_refl _)] at this)]⟩
                go_wp2
                go_ret
                exact ⟨by rw [HF.out]; rfl, HR.out.2⟩
end Go.Proofs.YtfameghednapkaaDoor.Ten
namespace Go.Proofs.YtfameghednapkaaDoor.Ten
open Go.RowKit Go.Proofs.YtfameghednapkaaDoorW.PrintWords Go.Proofs.YtfameghednapkaaDoorW.PrintLast Go.Proofs.YtfameghednapkaaDoorW.PrintMore Go.Proofs.YtfameghednapkaaDoor.K Go.Proofs.YtfameghednapkaaDoor.Fixed
set_option linter.unusedVariables false
set_option linter.unusedSimpArgs false
theorem m_ok {rows cols : Int} {l : List Int} (h : mV rows cols l = 0) : 1 ≤ rows ∧ rows ≤ 512 ∧ 1 ≤ cols ∧ cols ≤ 64 ∧ (l.length : Int) = rows * cols ∧ l.all isW = true := by
  unfold mV at h
  split at h
  · cases h
  · rename_i h9
    split at h
    · rename_i h8; exact ⟨by omega, by omega, by omega, by omega, by omega, h8⟩
    · cases h
theorem m_len {rows cols : Int} {l : List Int} (h : mV rows cols l = 0) : l.length ≤ 32768 := by
  obtain ⟨h1, h2, h3, h4, h5, _⟩ := m_ok h
  have h6 := mul_bd (a := rows) (b := cols) (A := 512) (B := 64) (by omega) (by omega) (by decide) (by decide)
  omega
def rowL (cols : Int) (l : List Int) (i : Int) : List Int := (l.drop (i * cols).toNat).take cols.toNat
theorem info_ten : (Tryd.prog.info? 3).map (fun i => (i.zero, i.size, i.bytes)) = some (some (.int .i64 0), 1, 8) := by kernel_rfl
theorem row_in {rows cols i : Int} (h1 : 1 ≤ rows) (h2 : rows ≤ 512) (h3 : 1 ≤ cols) (h4 : cols ≤ 64) (hi0 : 0 ≤ i) (hi1 : i < rows) : 0 ≤ i * cols ∧ i * cols + cols ≤ rows * cols ∧ i * cols ≤ 32768 := by
  have e1 := Int.mul_le_mul_of_nonneg_right (show i + 1 ≤ rows by omega) (show 0 ≤ cols by omega)
  rw [Int.add_mul, Int.one_mul] at e1
  have e2 := Int.mul_nonneg hi0 (show 0 ≤ cols by omega)
  have e3 := mul_bd (a := i) (b := cols) (A := 512) (B := 64) (by omega) (by omega) (by decide) (by decide)
  exact ⟨e2, e1, by omega⟩
set_option maxHeartbeats 4000000 in
set_option maxRecDepth 100000 in
theorem row_calls (rows cols i : Int) (A : Option Addr) (c : Nat) (l : List Int) (w : World) (hC : Kd.C (Kd.int .i64) w A l.length l) (hc : l.length ≤ c) (hm : mV rows cols l = 0) (hi0 : 0 ≤ i) (hi1 : i < rows) :
    Calls Tryd.prog 47 #[.agg #[.int .i64 rows, .int .i64 cols, .slice A l.length c], .int .i64 i] w fun e w' => ∃ A' c', e = .returned (.slice A' (rowL cols l i).length c') ∧ Kd.C (Kd.int .i64) w' A' (rowL cols l i).length (rowL cols l i) ∧ (rowL cols l i).length ≤ c' ∧ Below w.heap.size w w' := by
  obtain ⟨h1, h2, h3, h4, h5, _⟩ := m_ok hm
  obtain ⟨e1, e2, e3⟩ := row_in h1 h2 h3 h4 hi0 hi1
  have e4 : (i + 1) * cols = i * cols + cols := by rw [Int.add_mul, Int.one_mul]
  have HBx : Aside0 (Below w.heap.size w (w.alloc (.cells #[.int .i64 rows, .int .i64 cols, .slice A l.length c] 36))) := ⟨bel_alloc (Below.refl _ _) _⟩
  have HCx : Aside0 (Kd.C (Kd.int .i64) (w.alloc (.cells #[.int .i64 rows, .int .i64 cols, .slice A l.length c] 36)) A l.length l) := ⟨Kd.C_below hC HBx.out⟩
  obtain ⟨p, hp⟩ : ∃ p, p = i * cols := ⟨_, rfl⟩
  obtain ⟨q, hq⟩ : ∃ q, q = i * cols + cols := ⟨_, rfl⟩
  have hwp : IntKind.i64.wrap (i * cols) = p := by rw [hp, IntKind.wrap_i64]; omega
  have hwj : IntKind.i64.wrap (i + 1) = i + 1 := by rw [IntKind.wrap_i64]; omega
  have hwq : IntKind.i64.wrap ((i + 1) * cols) = q := by rw [hq, IntKind.wrap_i64, e4]; omega
  obtain ⟨A', hsl, hC6, hle6⟩ := mid_int (k := .i64) (P := Tryd.prog) 22 3 Tryd.underlying22 info_ten A c l p q p.toNat cols.toNat (by omega) (by omega) (by omega) hc
  have hR : (l.drop p.toNat).take cols.toNat = rowL cols l i := by rw [hp]; rfl
  rw [hR] at hC6 hle6 hsl
  have HC6 : Aside0 (∀ w : World, Kd.C (Kd.int .i64) w A l.length l → Kd.C (Kd.int .i64) w A' (rowL cols l i).length (rowL cols l i)) := ⟨hC6⟩
  have HLe := Aside0.mk hle6
  have h9 := hC.2.1
  clear hC6 hle6 hR hC hc hm h1 h2 h3 h4 h5 e1 e2 e3 e4 hp hq hi0 hi1
  generalize rowL cols l i = ro at *
  go_enter Tryd.func47, Tryd.ntmps47
  go_wp2
  go_ret
  exact ⟨A', _, rfl, HC6.out _ HCx.out, HLe.out, HBx.out⟩
theorem mat_info : (Tryd.prog.info? 36).map (fun x => x.size) = some 3 := by kernel_rfl
set_option maxHeartbeats 4000000 in
set_option maxRecDepth 100000 in
theorem Row_bad_calls (rows cols i : Int) (A : Option Addr) (c : Nat) (l : List Int) (w : World) (hC : Kd.C (Kd.int .i64) w A l.length l) (hm : mV rows cols l ≠ 0) :
    Calls Tryd.prog 22 #[.agg #[.int .i64 rows, .int .i64 cols, .slice A l.length c], .int .i64 i] w fun e w' => e = .returned (.tuple #[.slice none 0 0, .int .i64 (mV rows cols l)]) ∧ Below w.heap.size w w' := by
  have HB0 : Aside0 (Below w.heap.size w (w.alloc (.cells #[.int .i64 rows, .int .i64 cols, .slice A l.length c] 36))) := ⟨bel_alloc (Below.refl _ _) _⟩
  have HR0 : Aside0 ((w.alloc (.cells #[.int .i64 rows, .int .i64 cols, .slice A l.length c] 36)).heap[w.heap.size]? = some (.cells #[.int .i64 rows, .int .i64 cols, .slice A l.length c] 36 (0, 0))) := ⟨heap_alloc_new _ _⟩
  have HK := Aside0.mk (mcheck_calls rows cols A c l (w.alloc (.cells #[.int .i64 rows, .int .i64 cols, .slice A l.length c] 36)) (Kd.C_below hC HB0.out))
  have hd : (mV rows cols l != 0) = true := by simpa using hm
  clear hm hC
  generalize mV rows cols l = z at *
  go_enter Tryd.func22, Tryd.ntmps22
  go_wp2_with (fail)
  generalize (w.alloc (.cells #[.int .i64 rows, .int .i64 cols, .slice A l.length c] 36)) = w0 at *
  refine HK.out.mono ?_
  rintro e w1 ⟨rfl, hb⟩
  have HB1 := Aside0.mk (below_step HB0.out hb)
  clear hb
  go_wp2_with (fail)
  go_ret2
  exact ⟨rfl, HB1.out⟩
set_option maxHeartbeats 4000000 in
set_option maxRecDepth 100000 in
theorem Row_range_calls (rows cols i : Int) (A : Option Addr) (c : Nat) (l : List Int) (w : World) (hC : Kd.C (Kd.int .i64) w A l.length l) (hm : mV rows cols l = 0) (hi : i < 0 ∨ rows ≤ i) :
    Calls Tryd.prog 22 #[.agg #[.int .i64 rows, .int .i64 cols, .slice A l.length c], .int .i64 i] w fun e w' => e = .returned (.tuple #[.slice none 0 0, .int .i64 10]) ∧ Below w.heap.size w w' := by
  have HB0 : Aside0 (Below w.heap.size w (w.alloc (.cells #[.int .i64 rows, .int .i64 cols, .slice A l.length c] 36))) := ⟨bel_alloc (Below.refl _ _) _⟩
  have HR0 : Aside0 ((w.alloc (.cells #[.int .i64 rows, .int .i64 cols, .slice A l.length c] 36)).heap[w.heap.size]? = some (.cells #[.int .i64 rows, .int .i64 cols, .slice A l.length c] 36 (0, 0))) := ⟨heap_alloc_new _ _⟩
  have HK := Aside0.mk (mcheck_calls rows cols A c l (w.alloc (.cells #[.int .i64 rows, .int .i64 cols, .slice A l.length c] 36)) (Kd.C_below hC HB0.out))
  rw [hm] at HK
  clear hm hC
  by_cases h1 : i < 0
  · have hd : decide (i < 0) = true := by simpa using h1
    clear h1 hi
    go_enter Tryd.func22, Tryd.ntmps22
    go_wp2_with (fail)
    generalize (w.alloc (.cells #[.int .i64 rows, .int .i64 cols, .slice A l.length c] 36)) = w0 at *
    refine HK.out.mono ?_
    rintro e w1 ⟨rfl, hb⟩
    have HB1 := Aside0.mk (below_step HB0.out hb)
    clear hb
    go_wp2_with (fail)
    go_ret2
    exact ⟨rfl, HB1.out⟩
  · have hd : decide (i < 0) = false := by simpa using h1
    have hd2 : decide (rows ≤ i) = true := by simp; omega
    clear h1 hi
    go_enter Tryd.func22, Tryd.ntmps22
    go_wp2_with (fail)
    generalize (w.alloc (.cells #[.int .i64 rows, .int .i64 cols, .slice A l.length c] 36)) = w0 at *
    refine HK.out.mono ?_
    rintro e w1 ⟨rfl, hb⟩
    have HB1 := Aside0.mk (below_step HB0.out hb)
    have hc0 := blk_cell ((hb.block _ (blk_lt HR0.out)).trans HR0.out) 0
    simp only [List.getElem?_toArray, List.getElem?_cons_zero] at hc0
    clear hb
    go_wp2_with (fail)
    go_ret2
    exact ⟨rfl, HB1.out⟩
set_option maxHeartbeats 4000000 in
set_option maxRecDepth 100000 in
theorem Row_ok_calls (rows cols i : Int) (A : Option Addr) (c : Nat) (l : List Int) (w : World) (hC : Kd.C (Kd.int .i64) w A l.length l) (hc : l.length ≤ c) (hm : mV rows cols l = 0) (hi0 : 0 ≤ i) (hi1 : i < rows) :
    Calls Tryd.prog 22 #[.agg #[.int .i64 rows, .int .i64 cols, .slice A l.length c], .int .i64 i] w fun e w' => ∃ v, e = .returned (.tuple #[v, .int .i64 0]) ∧ Kd.R (Kd.int .i64) 3 w' w.heap.size (fun _ => True) v (rowL cols l i) ∧ Below w.heap.size w w' := by
  have HB0 : Aside0 (Below w.heap.size w (w.alloc (.cells #[.int .i64 rows, .int .i64 cols, .slice A l.length c] 36))) := ⟨bel_alloc (Below.refl _ _) _⟩
  have HR0 : Aside0 ((w.alloc (.cells #[.int .i64 rows, .int .i64 cols, .slice A l.length c] 36)).heap[w.heap.size]? = some (.cells #[.int .i64 rows, .int .i64 cols, .slice A l.length c] 36 (0, 0))) := ⟨heap_alloc_new _ _⟩
  have HK := Aside0.mk (mcheck_calls rows cols A c l (w.alloc (.cells #[.int .i64 rows, .int .i64 cols, .slice A l.length c] 36)) (Kd.C_below hC HB0.out))
  have HRow : Aside0 (∀ W, Below w.heap.size w W → Calls Tryd.prog 47 #[.agg #[.int .i64 rows, .int .i64 cols, .slice A l.length c], .int .i64 i] W fun e w' => ∃ A' c', e = .returned (.slice A' (rowL cols l i).length c') ∧ Kd.C (Kd.int .i64) w' A' (rowL cols l i).length (rowL cols l i) ∧ (rowL cols l i).length ≤ c' ∧ Below W.heap.size W w') := ⟨fun W hb => row_calls rows cols i A c l W (Kd.C_below hC hb) hc hm hi0 hi1⟩
  have HLen : Aside0 ((rowL cols l i).length ≤ 1000000) := ⟨by have := m_len hm; rw [rowL, List.length_take, List.length_drop]; omega⟩
  rw [hm] at HK
  have hd : decide (i < 0) = false := by simp; omega
  have hd2 : decide (rows ≤ i) = false := by simp; omega
  clear hm hC hi0 hi1
  go_enter Tryd.func22, Tryd.ntmps22
  go_wp2_with (fail)
  generalize (w.alloc (.cells #[.int .i64 rows, .int .i64 cols, .slice A l.length c] 36)) = w0 at *
  refine HK.out.mono ?_
  rintro e w1 ⟨rfl, hb⟩
  have HB1 := Aside0.mk (below_step HB0.out hb)
  have HR1 : Aside0 (w1.heap[w.heap.size]? = some (.cells #[.int .i64 rows, .int .i64 cols, .slice A l.length c] 36 (0, 0))) := ⟨(hb.block _ (blk_lt HR0.out)).trans HR0.out⟩
  have hc0 := blk_cell HR1.out 0
  have hc1 := blk_cell HR1.out 1
  have hc2 := blk_cell HR1.out 2
  simp only [List.getElem?_toArray, List.getElem?_cons_zero, List.getElem?_cons_succ] at hc0 hc1 hc2
  clear hb
  go_wp2_with (fail)
  refine (HRow.out w1 HB1.out).mono ?_
  rintro e w2 ⟨A', c', rfl, hC', hc', hb⟩
  have HB2 := Aside0.mk (below_step HB1.out hb)
  have HCl := Aside0.mk (CloneI.clonei_calls A' _ c' _ w2 hC' HLen.out)
  clear hb hC' hc' hc0 hc1 hc2
  go_wp2_with (fail)
  refine HCl.out.mono ?_
  rintro e w3 ⟨v, rfl, hr, hb⟩
  have HB3 := Aside0.mk (below_step HB2.out hb)
  have HRv := Aside0.mk hr
  clear hr hb
  go_wp2_with (fail)
  go_ret2
  exact ⟨v, rfl, Kd.R_lower HRv.out HB2.out.size, HB3.out⟩
end Go.Proofs.YtfameghednapkaaDoor.Ten
namespace Go.Proofs.YtfameghednapkaaDoor.Ten
open Go.RowKit Go.Proofs.YtfameghednapkaaDoorW.PrintWords Go.Proofs.YtfameghednapkaaDoorW.PrintLast Go.Proofs.YtfameghednapkaaDoorW.PrintMore Go.Proofs.YtfameghednapkaaDoor.K Go.Proofs.YtfameghednapkaaDoor.RI Go.Proofs.YtfameghednapkaaDoor.Fixed
set_option linter.unusedVariables false
set_option linter.unusedSimpArgs false
theorem mat_cells {W : World} {g : Nat} {x y z : Value} (h : W.heap[g]? = some (.cells #[x, y, z] 36 (0, 0))) : W.cell? ⟨g, 0, none⟩ = some x ∧ W.cell? ⟨g, 1, none⟩ = some y ∧ W.cell? ⟨g, 2, none⟩ = some z :=
  ⟨blk_cell h 0, blk_cell h 1, blk_cell h 2⟩
def MulF (rows cols : Int) (A : Option Addr) (c : Nat) (l : List Int) (Av : Option Addr) (cv : Nat) (vv : List Int) (ix : Int) (iv : Nat) (xv : Value) (W : World) : Prop := match iv with
  | 0 => xv = .agg #[.int .i64 rows, .int .i64 cols, .slice A l.length c]
  | 1 => xv = .int .i64 ix
  | 2 => ∃ A' c', xv = .slice A' (rowL cols l ix).length c' ∧ Kd.C (Kd.int .i64) W A' (rowL cols l ix).length (rowL cols l ix)
  | 3 => xv = .slice Av vv.length cv
  | 4 => xv = .tuple #[.int .i64 (dotV (rowL cols l ix) vv).1, .int .i64 (dotV (rowL cols l ix) vv).2]
  | 5 => xv = .int .i64 (dotV (rowL cols l ix) vv).1
  | 6 => xv = .int .i64 (dotV (rowL cols l ix) vv).2
  | 7 => xv = .int .i64 (dotV (rowL cols l ix) vv).1
  | 8 => xv = .int .i64 (dotV (rowL cols l ix) vv).2
  | _ => True
theorem MulF.step (rows cols : Int) (A : Option Addr) (c : Nat) (l : List Int) (Av : Option Addr) (cv : Nat) (vv : List Int) (ix : Int) (i_ : Nat) (x : Value) (W W' : World) (hb : Below W.heap.size W W') (h : MulF rows cols A c l Av cv vv ix i_ x W) : MulF rows cols A c l Av cv vv ix i_ x W' := by
  unfold MulF at *
  split <;> simp only at h ⊢
  · exact h
  · exact h
  · obtain ⟨A', c', e, h⟩ := h; exact ⟨A', c', e, Kd.C_below h hb⟩
  · exact h
  · exact h
  · exact h
  · exact h
  · exact h
  · exact h
set_option maxHeartbeats 4000000 in
set_option maxRecDepth 100000 in
theorem mul1_calls (rows cols : Int) (A : Option Addr) (c : Nat) (l : List Int) (Av : Option Addr) (cv : Nat) (vv : List Int) (i : Int) (Bm Bv : Nat) (w : World) (hC : Kd.C (Kd.int .i64) w A l.length l) (hc : l.length ≤ c) (hm : mV rows cols l = 0) (hi0 : 0 ≤ i) (hi1 : i < rows) (hV : Kd.C (Kd.int .i64) w Av vv.length vv)
    (hbm : w.heap[Bm]? = some (.cells #[.int .i64 rows, .int .i64 cols, .slice A l.length c] 36 (0, 0))) (hbv : w.heap[Bv]? = some (.cells #[.slice Av vv.length cv] 22 (0, 0))) :
    Calls Tryd.prog 49 #[.int .i64 i, .pointer (some ⟨Bm, 0, none⟩), .pointer (some ⟨Bv, 0, none⟩)] w fun e w' => e = .returned (.tuple #[.int .i64 (dotV (rowL cols l i) vv).1, .int .i64 (dotV (rowL cols l i) vv).2]) ∧ Below w.heap.size w w' := by
  have HM := Aside0.mk hbm
  have HV := Aside0.mk hbv
  have HVC := Aside0.mk hV
  have HRow : Aside0 (∀ W, Below w.heap.size w W → Calls Tryd.prog 47 #[.agg #[.int .i64 rows, .int .i64 cols, .slice A l.length c], .int .i64 i] W fun e w' => ∃ A' c', e = .returned (.slice A' (rowL cols l i).length c') ∧ Kd.C (Kd.int .i64) w' A' (rowL cols l i).length (rowL cols l i) ∧ (rowL cols l i).length ≤ c' ∧ Below W.heap.size W w') := ⟨fun W hb => row_calls rows cols i A c l W (Kd.C_below hC hb) hc hm hi0 hi1⟩
  clear hC hc hm hi0 hi1 hV hbm hbv
  go_enter Tryd.func49, Tryd.ntmps49
  go_upto_region 1 with (fail)
  refine wp_region_fin [false, false, false, false, true, true, true, true, true, true, true, true, true] (by kernel_rfl) (by kernel_rfl) (fun W => Below w.heap.size w W) (fun W W' => Below W.heap.size W W') (MulF rows cols A c l Av cv vv i) (fun iv xv W W' _ hb h => MulF.step rows cols A c l Av cv vv i iv xv W W' hb h) (below_drew (Below.refl _ _)) ?_ ?_
  · refine ⟨?_, ?_, ?_, ?_, ?_, ?_, ?_, ?_, ?_, trivial⟩
    · intro v W hb hd
      obtain ⟨hc0, hc1, hc2⟩ := mat_cells ((hb.block _ (blk_lt HM.out)).trans HM.out)
      refine step_list fun K hK => ?_
      simp only [fill_lit, fillL, Act.put, List.setIfInBounds_toArray, List.set_cons_zero, List.set_cons_succ, Nat.reduceAdd] at hK ⊢
      clear hd
      go_wp2
      exact ⟨hb, Below.refl _ _, rfl⟩
    · intro v W hb hd
      refine step_list fun K hK => ?_
      simp only [fill_lit, fillL, Act.put, List.setIfInBounds_toArray, List.set_cons_zero, List.set_cons_succ, Nat.reduceAdd] at hK ⊢
      clear hd
      go_wp2
      exact ⟨hb, Below.refl _ _, rfl⟩
    · intro v W hb hd
      have h0 : v 6 = .agg #[.int .i64 rows, .int .i64 cols, .slice A l.length c] := hd 0 (by kernel_rfl)
      have h1 : v 7 = .int .i64 i := hd 1 (by kernel_rfl)
      refine step_list fun K hK => ?_
      simp only [fill_lit, fillL, Act.put, List.setIfInBounds_toArray, List.set_cons_zero, List.set_cons_succ, Nat.reduceAdd] at hK ⊢
      rw [h0, h1] at hK ⊢
      clear hd h0 h1
      go_wp2_with (fail)
      refine (HRow.out W hb).mono ?_
      rintro e W' ⟨A', c', rfl, hC', _, hb'⟩
      have HB' := Aside0.mk hb'
      have HC' := Aside0.mk hC'
      clear hb' hC'
      go_wp2_with (fail)
      exact ⟨below_step hb HB'.out, HB'.out, A', c', rfl, HC'.out⟩
    · intro v W hb hd
      have hcv := blk_cell ((hb.block _ (blk_lt HV.out)).trans HV.out) 0
      simp only [List.getElem?_toArray, List.getElem?_cons_zero] at hcv
      refine step_list fun K hK => ?_
      simp only [fill_lit, fillL, Act.put, List.setIfInBounds_toArray, List.set_cons_zero, List.set_cons_succ, Nat.reduceAdd] at hK ⊢
      clear hd
      go_wp2
      exact ⟨hb, Below.refl _ _, rfl⟩
    · intro v W hb hd
      obtain ⟨A', c', h2, hC'⟩ := hd 2 (by kernel_rfl)
      replace h2 : v 8 = .slice A' (rowL cols l i).length c' := h2
      have HC' := Aside0.mk hC'
      have h3 : v 9 = .slice Av vv.length cv := hd 3 (by kernel_rfl)
      refine step_list fun K hK => ?_
      simp only [fill_lit, fillL, Act.put, List.setIfInBounds_toArray, List.set_cons_zero, List.set_cons_succ, Nat.reduceAdd] at hK ⊢
      rw [h2, h3] at hK ⊢
      clear hd h2 h3 hC'
      go_wp2_with (fail)
      refine (dot_calls A' Av c' cv (rowL cols l i) vv W HC'.out (Kd.C_below HVC.out hb)).mono ?_
      rintro e W' ⟨rfl, hb'⟩
      have HB' := Aside0.mk hb'
      clear hb'
      go_wp2_with (fail)
      exact ⟨below_step hb HB'.out, HB'.out, rfl⟩
    · intro v W hb hd
      have h4 : v 10 = .tuple #[.int .i64 (dotV (rowL cols l i) vv).1, .int .i64 (dotV (rowL cols l i) vv).2] := hd 4 (by kernel_rfl)
      refine step_list fun K hK => ?_
      simp only [fill_lit, fillL, Act.put, List.setIfInBounds_toArray, List.set_cons_zero, List.set_cons_succ, Nat.reduceAdd] at hK ⊢
      rw [h4] at hK ⊢
      clear hd h4
      go_wp2
      exact ⟨hb, Below.refl _ _, rfl⟩
    · intro v W hb hd
      have h4 : v 10 = .tuple #[.int .i64 (dotV (rowL cols l i) vv).1, .int .i64 (dotV (rowL cols l i) vv).2] := hd 4 (by kernel_rfl)
      refine step_list fun K hK => ?_
      simp only [fill_lit, fillL, Act.put, List.setIfInBounds_toArray, List.set_cons_zero, List.set_cons_succ, Nat.reduceAdd] at hK ⊢
      rw [h4] at hK ⊢
      clear hd h4
      go_wp2
      exact ⟨hb, Below.refl _ _, rfl⟩
    · intro v W hb hd
      have h5 : v 11 = .int .i64 (dotV (rowL cols l i) vv).1 := hd 5 (by kernel_rfl)
      refine step_list fun K hK => ?_
      simp only [fill_lit, fillL, Act.put, List.setIfInBounds_toArray, List.set_cons_zero, List.set_cons_succ, Nat.reduceAdd] at hK ⊢
      rw [h5] at hK ⊢
      clear hd h5
      go_wp2
      exact ⟨hb, Below.refl _ _, rfl⟩
    · intro v W hb hd
      have h6 : v 12 = .int .i64 (dotV (rowL cols l i) vv).2 := hd 6 (by kernel_rfl)
      refine step_list fun K hK => ?_
      simp only [fill_lit, fillL, Act.put, List.setIfInBounds_toArray, List.set_cons_zero, List.set_cons_succ, Nat.reduceAdd] at hK ⊢
      rw [h6] at hK ⊢
      clear hd h6
      go_wp2
      exact ⟨hb, Below.refl _ _, rfl⟩
  · intro v W hb hF
    have h7 : v 4 = .int .i64 (dotV (rowL cols l i) vv).1 := hF 7 (of_decide_eq_true (by kernel_rfl))
    have h8 : v 5 = .int .i64 (dotV (rowL cols l i) vv).2 := hF 8 (of_decide_eq_true (by kernel_rfl))
    simp only [fill_lit, fillL, Nat.reduceAdd]
    rw [h7, h8]
    clear hF h7 h8
    go_wp2
    go_ret2
    exact ⟨rfl, hb⟩
end Go.Proofs.YtfameghednapkaaDoor.Ten
namespace Go.Proofs.YtfameghednapkaaDoor.Ten
open Go.RowKit Go.Proofs.YtfameghednapkaaDoorW.PrintWords Go.Proofs.YtfameghednapkaaDoorW.PrintLast Go.Proofs.YtfameghednapkaaDoorW.PrintMore Go.Proofs.YtfameghednapkaaDoor.K Go.Proofs.YtfameghednapkaaDoor.RI Go.Proofs.YtfameghednapkaaDoor.Fixed
set_option linter.unusedVariables false
set_option linter.unusedSimpArgs false
set_option maxHeartbeats 4000000 in
set_option maxRecDepth 100000 in
theorem mul_bad_calls (rows cols : Int) (A : Option Addr) (c : Nat) (l : List Int) (Av : Option Addr) (cv : Nat) (vv : List Int) (w : World) (hC : Kd.C (Kd.int .i64) w A l.length l) (hm : mV rows cols l ≠ 0) :
    Calls Tryd.prog 25 #[.agg #[.int .i64 rows, .int .i64 cols, .slice A l.length c], .slice Av vv.length cv] w fun e w' => e = .returned (.tuple #[.slice none 0 0, .int .i64 (mV rows cols l)]) ∧ Below w.heap.size w w' := by
  have HB0 : Aside0 (Below w.heap.size w ((w.alloc (.cells #[.int .i64 rows, .int .i64 cols, .slice A l.length c] 36)).alloc (.cells #[.slice Av vv.length cv] 22))) := ⟨bel_alloc (bel_alloc (Below.refl _ _) _) _⟩
  have HM0 : Aside0 (((w.alloc (.cells #[.int .i64 rows, .int .i64 cols, .slice A l.length c] 36)).alloc (.cells #[.slice Av vv.length cv] 22)).heap[w.heap.size]? = some (.cells #[.int .i64 rows, .int .i64 cols, .slice A l.length c] 36 (0, 0))) := ⟨blk_alloc (heap_alloc_new _ _) _⟩
  have HV0 : Aside0 (((w.alloc (.cells #[.int .i64 rows, .int .i64 cols, .slice A l.length c] 36)).alloc (.cells #[.slice Av vv.length cv] 22)).heap[w.heap.size + 1]? = some (.cells #[.slice Av vv.length cv] 22 (0, 0))) := ⟨by
    have h := heap_alloc_new (w.alloc (.cells #[.int .i64 rows, .int .i64 cols, .slice A l.length c] 36)) (.cells #[.slice Av vv.length cv] 22)
    rwa [World.size_alloc] at h⟩
  have HK := Aside0.mk (mcheck_calls rows cols A c l ((w.alloc (.cells #[.int .i64 rows, .int .i64 cols, .slice A l.length c] 36)).alloc (.cells #[.slice Av vv.length cv] 22)) (Kd.C_below hC HB0.out))
  have hd : (mV rows cols l != 0) = true := by simpa using hm
  clear hm hC
  generalize mV rows cols l = z at *
  go_enter Tryd.func25, Tryd.ntmps25
  go_wp2_with (fail)
  generalize ((w.alloc (.cells #[.int .i64 rows, .int .i64 cols, .slice A l.length c] 36)).alloc (.cells #[.slice Av vv.length cv] 22)) = w0 at *
  refine HK.out.mono ?_
  rintro e w1 ⟨rfl, hb⟩
  have HB1 := Aside0.mk (below_step HB0.out hb)
  have HM1 : Aside0 (w1.heap[w.heap.size]? = some (.cells #[.int .i64 rows, .int .i64 cols, .slice A l.length c] 36 (0, 0))) := ⟨(hb.block _ (blk_lt HM0.out)).trans HM0.out⟩
  have HV1 : Aside0 (w1.heap[w.heap.size + 1]? = some (.cells #[.slice Av vv.length cv] 22 (0, 0))) := ⟨(hb.block _ (blk_lt HV0.out)).trans HV0.out⟩
  obtain ⟨hc0, hc1, hc2⟩ := mat_cells HM1.out
  have hcv := blk_cell HV1.out 0
  simp only [List.getElem?_toArray, List.getElem?_cons_zero] at hcv
  clear hb
  go_wp2_with (fail)
  go_ret2
  exact ⟨rfl, HB1.out⟩
set_option maxHeartbeats 4000000 in
set_option maxRecDepth 100000 in
theorem mul_size_calls (rows cols : Int) (A : Option Addr) (c : Nat) (l : List Int) (Av : Option Addr) (cv : Nat) (vv : List Int) (w : World) (hC : Kd.C (Kd.int .i64) w A l.length l) (hm : mV rows cols l = 0) (hv : (vv.length : Int) ≠ cols) :
    Calls Tryd.prog 25 #[.agg #[.int .i64 rows, .int .i64 cols, .slice A l.length c], .slice Av vv.length cv] w fun e w' => e = .returned (.tuple #[.slice none 0 0, .int .i64 13]) ∧ Below w.heap.size w w' := by
  have HB0 : Aside0 (Below w.heap.size w ((w.alloc (.cells #[.int .i64 rows, .int .i64 cols, .slice A l.length c] 36)).alloc (.cells #[.slice Av vv.length cv] 22))) := ⟨bel_alloc (bel_alloc (Below.refl _ _) _) _⟩
  have HM0 : Aside0 (((w.alloc (.cells #[.int .i64 rows, .int .i64 cols, .slice A l.length c] 36)).alloc (.cells #[.slice Av vv.length cv] 22)).heap[w.heap.size]? = some (.cells #[.int .i64 rows, .int .i64 cols, .slice A l.length c] 36 (0, 0))) := ⟨blk_alloc (heap_alloc_new _ _) _⟩
  have HV0 : Aside0 (((w.alloc (.cells #[.int .i64 rows, .int .i64 cols, .slice A l.length c] 36)).alloc (.cells #[.slice Av vv.length cv] 22)).heap[w.heap.size + 1]? = some (.cells #[.slice Av vv.length cv] 22 (0, 0))) := ⟨by
    have h := heap_alloc_new (w.alloc (.cells #[.int .i64 rows, .int .i64 cols, .slice A l.length c] 36)) (.cells #[.slice Av vv.length cv] 22)
    rwa [World.size_alloc] at h⟩
  have HK := Aside0.mk (mcheck_calls rows cols A c l ((w.alloc (.cells #[.int .i64 rows, .int .i64 cols, .slice A l.length c] 36)).alloc (.cells #[.slice Av vv.length cv] 22)) (Kd.C_below hC HB0.out))
  rw [hm] at HK
  have hd : ((vv.length : Int) != cols) = true := by simpa using hv
  clear hm hC hv
  go_enter Tryd.func25, Tryd.ntmps25
  go_wp2_with (fail)
  generalize ((w.alloc (.cells #[.int .i64 rows, .int .i64 cols, .slice A l.length c] 36)).alloc (.cells #[.slice Av vv.length cv] 22)) = w0 at *
  refine HK.out.mono ?_
  rintro e w1 ⟨rfl, hb⟩
  have HB1 := Aside0.mk (below_step HB0.out hb)
  have HM1 : Aside0 (w1.heap[w.heap.size]? = some (.cells #[.int .i64 rows, .int .i64 cols, .slice A l.length c] 36 (0, 0))) := ⟨(hb.block _ (blk_lt HM0.out)).trans HM0.out⟩
  have HV1 : Aside0 (w1.heap[w.heap.size + 1]? = some (.cells #[.slice Av vv.length cv] 22 (0, 0))) := ⟨(hb.block _ (blk_lt HV0.out)).trans HV0.out⟩
  obtain ⟨hc0, hc1, hc2⟩ := mat_cells HM1.out
  have hcv := blk_cell HV1.out 0
  simp only [List.getElem?_toArray, List.getElem?_cons_zero] at hcv
  clear hb
  go_wp2_with (fail)
  go_ret2
  exact ⟨rfl, HB1.out⟩
set_option maxHeartbeats 4000000 in
set_option maxRecDepth 100000 in
theorem mul_ok_calls (rows cols : Int) (A : Option Addr) (c : Nat) (l : List Int) (Av : Option Addr) (cv : Nat) (vv : List Int) (w : World) (hC : Kd.C (Kd.int .i64) w A l.length l) (hc : l.length ≤ c) (hV : Kd.C (Kd.int .i64) w Av vv.length vv) (hm : mV rows cols l = 0) (hv : (vv.length : Int) = cols) :
    Calls Tryd.prog 25 #[.agg #[.int .i64 rows, .int .i64 cols, .slice A l.length c], .slice Av vv.length cv] w (EachEnd (fun k => dotV (rowL cols l (k : Int)) vv) rows.toNat w) := by
  have HB0 : Aside0 (Below w.heap.size w ((w.alloc (.cells #[.int .i64 rows, .int .i64 cols, .slice A l.length c] 36)).alloc (.cells #[.slice Av vv.length cv] 22))) := ⟨bel_alloc (bel_alloc (Below.refl _ _) _) _⟩
  have HM0 : Aside0 (((w.alloc (.cells #[.int .i64 rows, .int .i64 cols, .slice A l.length c] 36)).alloc (.cells #[.slice Av vv.length cv] 22)).heap[w.heap.size]? = some (.cells #[.int .i64 rows, .int .i64 cols, .slice A l.length c] 36 (0, 0))) := ⟨blk_alloc (heap_alloc_new _ _) _⟩
  have HV0 : Aside0 (((w.alloc (.cells #[.int .i64 rows, .int .i64 cols, .slice A l.length c] 36)).alloc (.cells #[.slice Av vv.length cv] 22)).heap[w.heap.size + 1]? = some (.cells #[.slice Av vv.length cv] 22 (0, 0))) := ⟨by
    have h := heap_alloc_new (w.alloc (.cells #[.int .i64 rows, .int .i64 cols, .slice A l.length c] 36)) (.cells #[.slice Av vv.length cv] 22)
    rwa [World.size_alloc] at h⟩
  have HK := Aside0.mk (mcheck_calls rows cols A c l ((w.alloc (.cells #[.int .i64 rows, .int .i64 cols, .slice A l.length c] 36)).alloc (.cells #[.slice Av vv.length cv] 22)) (Kd.C_below hC HB0.out))
  rw [hm] at HK
  have hd : ((vv.length : Int) != cols) = false := by simpa using hv
  obtain ⟨n, rfl⟩ : ∃ n : Nat, rows = (n : Int) := ⟨rows.toNat, by have := (m_ok hm).1; omega⟩
  have HZ := Aside0.mk (And.intro hc hm)
  have HC := Aside0.mk hC
  have HVv := Aside0.mk hV
  clear hm hC hv hc hV
  go_enter Tryd.func25, Tryd.ntmps25
  go_wp2_with (fail)
  generalize ((w.alloc (.cells #[.int .i64 (n : Int), .int .i64 cols, .slice A l.length c] 36)).alloc (.cells #[.slice Av vv.length cv] 22)) = w0 at *
  refine HK.out.mono ?_
  rintro e w1 ⟨rfl, hb⟩
  have HB1 := Aside0.mk (below_step HB0.out hb)
  have HM1 : Aside0 (w1.heap[w.heap.size]? = some (.cells #[.int .i64 (n : Int), .int .i64 cols, .slice A l.length c] 36 (0, 0))) := ⟨(hb.block _ (blk_lt HM0.out)).trans HM0.out⟩
  have HV1 : Aside0 (w1.heap[w.heap.size + 1]? = some (.cells #[.slice Av vv.length cv] 22 (0, 0))) := ⟨(hb.block _ (blk_lt HV0.out)).trans HV0.out⟩
  obtain ⟨hc0, hc1, hc2⟩ := mat_cells HM1.out
  have hcv := blk_cell HV1.out 0
  simp only [List.getElem?_toArray, List.getElem?_cons_zero] at hcv
  clear hb
  have HT : TellsAt 49 #[] #[.pointer (some ⟨w.heap.size, 0, none⟩), .pointer (some ⟨w.heap.size + 1, 0, none⟩)] (fun k => dotV (rowL cols l (k : Int)) vv) n w1 := fun k hk W hb =>
    mul1_calls (n : Int) cols A c l Av cv vv (k : Int) w.heap.size (w.heap.size + 1) W (Kd.C_below HC.out (below_step HB1.out hb)) HZ.out.1 HZ.out.2 (by omega) (by omega) (Kd.C_below HVv.out (below_step HB1.out hb)) ((hb.block _ (blk_lt HM1.out)).trans HM1.out) ((hb.block _ (blk_lt HV1.out)).trans HV1.out)
  have HEa := Aside0.mk (each_calls 49 #[] #[.pointer (some ⟨w.heap.size, 0, none⟩), .pointer (some ⟨w.heap.size + 1, 0, none⟩)] (fun k => dotV (rowL cols l (k : Int)) vv) n w1 (by have := (m_ok HZ.out.2).2.1; omega) (enters_ Tryd.func49 (by kernel_rfl) rfl) HT)
  clear HT
  go_wp2_with (fail)
  refine HEa.out.mono ?_
  rintro e w2 ⟨h1, h2, hb⟩
  have HB2 := Aside0.mk (below_step HB1.out hb)
  by_cases hz : errF (fun k => dotV (rowL cols l (k : Int)) vv) n 0 = 0
  · obtain ⟨v, rfl, hr⟩ := h2 hz
    have HR := Aside0.mk hr
    have HZz := Aside0.mk hz
    clear h1 h2 hb hr hz hc0 hc1 hc2 hcv
    go_wp2_with (fail)
    go_ret2
    exact ⟨fun h => absurd HZz.out h, fun _ => ⟨v, rfl, Kd.R_lower HR.out HB1.out.size⟩, HB2.out⟩
  · have he := h1 hz
    subst he
    have HZz := Aside0.mk hz
    clear h1 h2 hb hz hc0 hc1 hc2 hcv
    go_wp2_with (fail)
    go_ret2
    exact ⟨fun _ => rfl, fun h => absurd h HZz.out, HB2.out⟩
end Go.Proofs.YtfameghednapkaaDoor.Ten
namespace Go.Proofs.YtfameghednapkaaDoor.Ten
open Go.RowKit Go.Proofs.YtfameghednapkaaDoorW.PrintWords Go.Proofs.YtfameghednapkaaDoorW.PrintLast Go.Proofs.YtfameghednapkaaDoorW.PrintMore Go.Proofs.YtfameghednapkaaDoor.K Go.Proofs.YtfameghednapkaaDoor.Fixed
set_option linter.unusedVariables false
set_option linter.unusedSimpArgs false
theorem errF_shift {f g : Nat → Int × Int} (s : Nat) : ∀ (m k : Nat), (∀ j, k ≤ j → j < k + m → f (s + j) = g j) → errF f m (s + k) = errF g m k
  | 0, _, _ => rfl
  | m + 1, k, h => by
    have h1 := h k (Nat.le_refl _) (by omega)
    have h2 := errF_shift (f := f) (g := g) s m (k + 1) (fun j hj1 hj2 => h j (by omega) (by omega))
    simp only [errF]
    rw [h1, show s + k + 1 = s + (k + 1) by omega, h2]
theorem errF_congr {f g : Nat → Int × Int} (m : Nat) (h : ∀ j, j < m → f j = g j) : errF f m 0 = errF g m 0 := by
  have := errF_shift (f := f) (g := g) 0 m 0 (fun j _ hj => by rw [Nat.zero_add]; exact h j (by omega))
  rwa [Nat.zero_add] at this
theorem errF_add (f : Nat → Int × Int) (n : Nat) : ∀ (m k : Nat), errF f (m + n) k = if errF f m k = 0 then errF f n (k + m) else errF f m k
  | 0, k => by simp [errF]
  | m + 1, k => by
    rw [show m + 1 + n = (m + n) + 1 by omega]
    by_cases h : (f k).2 = 0
    · have e1 : errF f (m + n + 1) k = errF f (m + n) (k + 1) := if_pos h
      have e2 : errF f (m + 1) k = errF f m (k + 1) := if_pos h
      rw [e1, e2, errF_add f n m (k + 1), show k + 1 + m = k + (m + 1) by omega]
    · have e1 : errF f (m + n + 1) k = (f k).2 := if_neg h
      have e2 : errF f (m + 1) k = (f k).2 := if_neg h
      rw [e1, e2, if_neg h]
theorem errF_zero (f : Nat → Int × Int) : ∀ (m k : Nat), (∀ j, k ≤ j → j < k + m → (f j).2 = 0) → errF f m k = 0
  | 0, _, _ => rfl
  | m + 1, k, h => by
    simp only [errF]
    rw [if_pos (h k (Nat.le_refl _) (by omega))]
    exact errF_zero f m (k + 1) (fun j h1 h2 => h j (by omega) (by omega))
theorem outL_getD (f : Nat → Int × Int) (n k : Nat) (h : k < n) : (outL f n).getD k 0 = (f k).1 := by
  simp [outL, List.getD_eq_getElem?_getD, h]
theorem outL_congr {f g : Nat → Int × Int} (m : Nat) (h : ∀ j, j < m → f j = g j) : outL f m = outL g m := by
  unfold outL
  refine List.map_congr_left fun k hk => ?_
  rw [h k (List.mem_range.1 hk)]
theorem outL_add {f g : Nat → Int × Int} (n : Nat) : ∀ m : Nat, (∀ j, j < m → f (n + j) = g j) → outL f (n + m) = outL f n ++ outL g m
  | 0, _ => by simp [outL]
  | m + 1, h => by
    rw [← Nat.add_assoc, outL_succ, outL_succ, outL_add n m (fun j hj => h j (by omega)), h m (by omega), List.append_assoc]
theorem rowL_nat (cn k : Nat) (l : List Int) : rowL (cn : Int) l (k : Int) = (l.drop (k * cn)).take cn := by
  unfold rowL
  rw [← Int.natCast_mul, Int.toNat_natCast, Int.toNat_natCast]
theorem rowL_left {cn ra k : Nat} {la lb : List Int} (hl : la.length = ra * cn) (hk : k < ra) : rowL (cn : Int) (la ++ lb) (k : Int) = rowL (cn : Int) la (k : Int) := by
  have h1 : (k + 1) * cn ≤ ra * cn := Nat.mul_le_mul_right _ hk
  rw [Nat.add_mul, Nat.one_mul] at h1
  rw [rowL_nat, rowL_nat, List.drop_append_of_le_length (by omega), List.take_append_of_le_length (by rw [List.length_drop]; omega)]
theorem rowL_right {cn ra k : Nat} {la lb : List Int} (hl : la.length = ra * cn) : rowL (cn : Int) (la ++ lb) ((ra + k : Nat) : Int) = rowL (cn : Int) lb (k : Int) := by
  rw [rowL_nat, rowL_nat, Nat.add_mul, ← hl, List.drop_append, List.drop_of_length_le (by omega), List.nil_append, show la.length + k * cn - la.length = k * cn by omega]
theorem rowL_len {cn ra k : Nat} {l : List Int} (hl : l.length = ra * cn) (hk : k < ra) : (rowL (cn : Int) l (k : Int)).length = cn := by
  have h1 : (k + 1) * cn ≤ ra * cn := Nat.mul_le_mul_right _ hk
  rw [Nat.add_mul, Nat.one_mul] at h1
  rw [rowL_nat, List.length_take, List.length_drop]
  omega
theorem rowL_get {cn ra k j : Nat} {l : List Int} (hl : l.length = ra * cn) (hk : k < ra) (hj : j < cn) : (rowL (cn : Int) l (k : Int)).getD j 0 = l.getD (k * cn + j) 0 := by
  rw [rowL_nat, List.getD_eq_getElem?_getD, List.getElem?_take, if_pos hj, List.getElem?_drop, List.getD_eq_getElem?_getD]
theorem rowL_w {cols : Int} {l : List Int} (k : Int) (h : l.all isW = true) : (rowL cols l k).all isW = true := by
  rw [List.all_eq_true] at h ⊢
  intro x hx
  exact h x (List.mem_of_mem_drop (List.mem_of_mem_take hx))
theorem m_nat {rows cols : Int} {l : List Int} (h : mV rows cols l = 0) : ∃ r c : Nat, rows = (r : Int) ∧ cols = (c : Int) ∧ 1 ≤ r ∧ r ≤ 512 ∧ 1 ≤ c ∧ c ≤ 64 ∧ l.length = r * c ∧ l.all isW = true := by
  obtain ⟨h1, h2, h3, h4, h5, h6⟩ := m_ok h
  obtain ⟨r, rfl⟩ : ∃ r : Nat, rows = (r : Int) := ⟨rows.toNat, by omega⟩
  obtain ⟨c, rfl⟩ : ∃ r : Nat, cols = (r : Int) := ⟨cols.toNat, by omega⟩
  refine ⟨r, c, rfl, rfl, by omega, by omega, by omega, by omega, ?_, h6⟩
  rw [← Int.natCast_mul] at h5
  omega
theorem m_mk {r c : Nat} {l : List Int} (h1 : 1 ≤ r) (h2 : r ≤ 512) (h3 : 1 ≤ c) (h4 : c ≤ 64) (h5 : l.length = r * c) (h6 : l.all isW = true) : mV (r : Int) (c : Int) l = 0 := by
  unfold mV
  rw [if_neg, if_pos h6]
  rw [h5, Int.natCast_mul]
  simp
  omega
theorem m_both {ra rb cols : Int} {la lb : List Int} (ha : mV ra cols la = 0) (hb : mV rb cols lb = 0) (h : ra + rb ≤ 512) : mV (ra + rb) cols (la ++ lb) = 0 := by
  obtain ⟨r, c, rfl, rfl, h1, h2, h3, h4, h5, h6⟩ := m_nat ha
  obtain ⟨r', c', rfl, hc, g1, g2, g3, g4, g5, g6⟩ := m_nat hb
  obtain rfl : c = c' := by omega
  rw [← Int.natCast_add]
  exact m_mk (by omega) (by omega) h3 h4 (by rw [List.length_append, h5, g5, Nat.add_mul]) (by rw [List.all_append, h6, g6]; rfl)
def rowF (cols : Int) (l v : List Int) (k : Nat) : Int × Int := dotV (rowL cols l (k : Int)) v
theorem both_err {ra rb cols : Int} {la lb v : List Int} (ha : mV ra cols la = 0) (hb : mV rb cols lb = 0) :
    errF (rowF cols (la ++ lb) v) (ra + rb).toNat 0 = if errF (rowF cols la v) ra.toNat 0 = 0 then errF (rowF cols lb v) rb.toNat 0 else errF (rowF cols la v) ra.toNat 0 := by
  obtain ⟨r, c, rfl, rfl, h1, h2, h3, h4, h5, h6⟩ := m_nat ha
  obtain ⟨r', c', rfl, hc, g1, g2, g3, g4, g5, g6⟩ := m_nat hb
  obtain rfl : c = c' := by omega
  rw [← Int.natCast_add, Int.toNat_natCast, Int.toNat_natCast, Int.toNat_natCast, errF_add]
  have e1 : errF (rowF (c : Int) (la ++ lb) v) r 0 = errF (rowF (c : Int) la v) r 0 := errF_congr r (fun j hj => by unfold rowF; rw [rowL_left h5 hj])
  have e2 : errF (rowF (c : Int) (la ++ lb) v) r' (0 + r) = errF (rowF (c : Int) lb v) r' 0 := by
    rw [show 0 + r = r + 0 by omega]
    exact errF_shift r r' 0 (fun j _ _ => by unfold rowF; rw [rowL_right h5])
  rw [e1, e2]
theorem both_out {ra rb cols : Int} {la lb v : List Int} (ha : mV ra cols la = 0) (hb : mV rb cols lb = 0) :
    outL (rowF cols (la ++ lb) v) (ra + rb).toNat = outL (rowF cols la v) ra.toNat ++ outL (rowF cols lb v) rb.toNat := by
  obtain ⟨r, c, rfl, rfl, h1, h2, h3, h4, h5, h6⟩ := m_nat ha
  obtain ⟨r', c', rfl, hc, g1, g2, g3, g4, g5, g6⟩ := m_nat hb
  obtain rfl : c = c' := by omega
  rw [← Int.natCast_add, Int.toNat_natCast, Int.toNat_natCast, Int.toNat_natCast, outL_add r r' (fun j hj => by unfold rowF; rw [rowL_right h5])]
  rw [outL_congr r (f := rowF (c : Int) (la ++ lb) v) (g := rowF (c : Int) la v) (fun j hj => by unfold rowF; rw [rowL_left h5 hj])]
  rfl
theorem dotV_ok {r v : List Int} (h1 : r.length = v.length) (h2 : 1 ≤ v.length) (h3 : v.length ≤ 64) (h4 : r.all isW = true) (h5 : v.all inR = true) : dotV r v = rtV (dotS r v v.length) := by
  unfold dotV
  rw [if_neg (by omega), if_pos ⟨h4, h5⟩]
theorem dotS_one (r v : List Int) (k : Nat) (y : Int) (h : ∀ j, j < v.length → r.getD j 0 * v.getD j 0 = if j = k then y else 0) : ∀ m, m ≤ v.length → dotS r v m = if k < m then y else 0
  | 0, _ => by simp [dotS]
  | m + 1, hm => by
    simp only [dotS]
    rw [dotS_one r v k y h m (by omega), h m (by omega)]
    by_cases e : m = k
    · subst e
      rw [if_neg (by omega), if_pos rfl, if_pos (by omega)]
      omega
    · rw [if_neg e]
      by_cases e2 : k < m
      · rw [if_pos e2, if_pos (by omega)]; omega
      · rw [if_neg e2, if_neg (by omega)]; omega
theorem rtV_zero : rtV 0 = (0, 0) := by decide
theorem zeros_all {c : Nat} : (List.replicate c (0 : Int)).all inR = true := by
  rw [List.all_eq_true]
  intro x hx
  rw [(List.mem_replicate.1 hx).2]
  decide
theorem zero_row {rows cols : Int} {l : List Int} {n : Nat} (hn : (n : Int) = cols) (h : mV rows cols l = 0) (k : Nat) (hk : k < rows.toNat) : rowF cols l (List.replicate n 0) k = (0, 0) := by
  obtain ⟨r, c, rfl, rfl, h1, h2, h3, h4, h5, h6⟩ := m_nat h
  obtain rfl : n = c := by omega
  rw [Int.toNat_natCast] at hk
  unfold rowF
  rw [dotV_ok (by rw [rowL_len h5 hk, List.length_replicate]) (by rw [List.length_replicate]; omega) (by rw [List.length_replicate]; omega) (rowL_w _ h6) zeros_all]
  rw [dotS_one _ _ 0 0 (fun j hj => by
    rw [List.length_replicate] at hj
    simp [List.getD_eq_getElem?_getD, hj]) _ (Nat.le_refl _)]
  rw [show (if 0 < (List.replicate n (0 : Int)).length then (0 : Int) else 0) = 0 by split <;> rfl]
  exact rtV_zero
theorem zero_err {rows cols : Int} {l : List Int} {n : Nat} (hn : (n : Int) = cols) (h : mV rows cols l = 0) : errF (rowF cols l (List.replicate n 0)) rows.toNat 0 = 0 :=
  errF_zero _ _ _ (fun j _ hj => by rw [zero_row hn h j (by omega)])
theorem zero_get {rows cols : Int} {l : List Int} {n : Nat} (hn : (n : Int) = cols) (h : mV rows cols l = 0) (k : Nat) (hk : k < rows.toNat) : (outL (rowF cols l (List.replicate n 0)) rows.toNat).getD k 0 = 0 := by
  rw [outL_getD _ _ _ hk, zero_row hn h k hk]
/-- Of a row of weights with 65536 at one place, and 0 elsewhere, the vector's number of that place. -/
theorem unit_dot {r v : List Int} {k : Nat} (h1 : r.length = v.length) (h3 : v.length ≤ 64) (hk : k < v.length) (h : ∀ j, j < v.length → r.getD j 0 = if j = k then 65536 else 0) (h5 : v.all inR = true) : dotV r v = (v.getD k 0, 0) := by
  have hw : r.all isW = true := by
    rw [List.all_eq_true]
    intro x hx
    obtain ⟨j, hj, rfl⟩ := List.mem_iff_getElem.1 hx
    have := h j (by omega)
    rw [List.getD_eq_getElem?_getD, List.getElem?_eq_getElem hj, Option.getD_some] at this
    rw [this]
    split <;> decide
  rw [dotV_ok h1 (by omega) h3 hw h5, dotS_one r v k (65536 * v.getD k 0) (fun j hj => by
    rw [h j hj]
    by_cases e : j = k
    · subst e; rw [if_pos rfl, if_pos rfl]
    · rw [if_neg e, if_neg e, Int.zero_mul]) _ (Nat.le_refl _), if_pos hk]
  have hr := getD_r h5 k
  have e : rndV (65536 * v.getD k 0) = v.getD k 0 := by unfold rndV; omega
  unfold rtV toldV
  rw [e, if_pos (show inR (v.getD k 0) = true from decide_eq_true hr)]
end Go.Proofs.YtfameghednapkaaDoor.Ten
namespace Go.Proofs.YtfameghednapkaaDoor.Ten
open Go.RowKit Go.Proofs.YtfameghednapkaaDoorW.PrintWords Go.Proofs.YtfameghednapkaaDoorW.PrintLast Go.Proofs.YtfameghednapkaaDoorW.PrintMore Go.Proofs.YtfameghednapkaaDoor.K Go.Proofs.YtfameghednapkaaDoor.RI Go.Proofs.YtfameghednapkaaDoor.Fixed
set_option linter.unusedVariables false
set_option linter.unusedSimpArgs false
def mulE (rows cols : Int) (l v : List Int) : Int := if mV rows cols l = 0 then (if (v.length : Int) = cols then errF (rowF cols l v) rows.toNat 0 else 13) else mV rows cols l
def mulL (rows cols : Int) (l v : List Int) : List Int := outL (rowF cols l v) rows.toNat
def ListEnd (E : Int) (L : List Int) (w : World) (e : Ending) (w' : World) : Prop :=
  (E ≠ 0 → e = .returned (.tuple #[.slice none 0 0, .int .i64 E])) ∧ (E = 0 → ∃ A c, e = .returned (.tuple #[.slice A L.length c, .int .i64 0]) ∧ Kd.C (Kd.int .i64) w' A L.length L ∧ L.length ≤ c) ∧ Below w.heap.size w w'
theorem own_slice_le {w : World} {B : Nat} {e : TypeId} {v : Value} {L : List Int} {ok : Nat → Prop} (h : Kd.R (Kd.int .i64) e w B ok v L) : ∃ A c, v = .slice A L.length c ∧ Kd.C (Kd.int .i64) w A L.length L ∧ L.length ≤ c := by
  obtain ⟨A, c, rfl, hc, hle⟩ := Kd.R_reads h
  exact ⟨A, c, rfl, hle, hc⟩
theorem mul_calls (rows cols : Int) (A : Option Addr) (c : Nat) (l : List Int) (Av : Option Addr) (cv : Nat) (v : List Int) (w : World) (hC : Kd.C (Kd.int .i64) w A l.length l) (hc : l.length ≤ c) (hV : Kd.C (Kd.int .i64) w Av v.length v) :
    Calls Tryd.prog 25 #[.agg #[.int .i64 rows, .int .i64 cols, .slice A l.length c], .slice Av v.length cv] w (ListEnd (mulE rows cols l v) (mulL rows cols l v) w) := by
  by_cases hm : mV rows cols l = 0
  · by_cases hv : (v.length : Int) = cols
    · refine (mul_ok_calls rows cols A c l Av cv v w hC hc hV hm hv).mono ?_
      rintro e w' ⟨h1, h2, hb⟩
      have hE : mulE rows cols l v = errF (rowF cols l v) rows.toNat 0 := by unfold mulE; rw [if_pos hm, if_pos hv]
      refine ⟨fun h => ?_, fun h => ?_, hb⟩
      · rw [hE] at h ⊢
        exact h1 h
      · rw [hE] at h
        obtain ⟨x, rfl, hr⟩ := h2 h
        obtain ⟨A2, c2, rfl, hC2, hle⟩ := own_slice_le hr
        exact ⟨A2, c2, rfl, hC2, hle⟩
    · have hE : mulE rows cols l v = 13 := by unfold mulE; rw [if_pos hm, if_neg hv]
      refine (mul_size_calls rows cols A c l Av cv v w hC hm hv).mono ?_
      rintro e w' ⟨rfl, hb⟩
      rw [hE]
      exact ⟨fun _ => rfl, fun h => absurd h (by decide), hb⟩
  · have hE : mulE rows cols l v = mV rows cols l := by unfold mulE; rw [if_neg hm]
    refine (mul_bad_calls rows cols A c l Av cv v w hC hm).mono ?_
    rintro e w' ⟨rfl, hb⟩
    rw [hE]
    exact ⟨fun _ => rfl, fun h => absurd h hm, hb⟩
theorem both_mulE {ra rb cols : Int} {la lb v : List Int} (ha : mV ra cols la = 0) (hb : mV rb cols lb = 0) (h : ra + rb ≤ 512) :
    mulE (ra + rb) cols (la ++ lb) v = if mulE ra cols la v = 0 then mulE rb cols lb v else mulE ra cols la v := by
  have hc := m_both ha hb h
  unfold mulE
  rw [if_pos hc, if_pos ha, if_pos hb]
  by_cases hv : (v.length : Int) = cols
  · rw [if_pos hv, if_pos hv, if_pos hv, both_err ha hb]
  · rw [if_neg hv, if_neg hv, if_neg hv, if_neg (by decide)]
theorem both_mulL {ra rb cols : Int} {la lb v : List Int} (ha : mV ra cols la = 0) (hb : mV rb cols lb = 0) : mulL (ra + rb) cols (la ++ lb) v = mulL ra cols la v ++ mulL rb cols lb v := both_out ha hb
theorem mulL_length (rows cols : Int) (l v : List Int) : (mulL rows cols l v).length = rows.toNat := outL_length _ _
theorem zero_mulE {rows cols : Int} {l : List Int} {n : Nat} (hn : (n : Int) = cols) (h : mV rows cols l = 0) : mulE rows cols l (List.replicate n 0) = 0 := by
  unfold mulE
  rw [if_pos h, if_pos (by rw [List.length_replicate]; exact hn), zero_err hn h]
theorem zero_mulL {rows cols : Int} {l : List Int} {n : Nat} (hn : (n : Int) = cols) (h : mV rows cols l = 0) (k : Nat) (hk : k < (mulL rows cols l (List.replicate n 0)).length) : (mulL rows cols l (List.replicate n 0)).getD k 0 = 0 :=
  zero_get hn h k (by rwa [mulL_length] at hk)
theorem made_C (W : World) (m : Nat) (hm : m ≤ 9223372036854775807) : Kd.C (Kd.int .i64) (W.alloc (.cells (madeCells #[.int .i64 0] m) 3)) (some ⟨W.heap.size, 0, none⟩) m (List.replicate m 0) := by
  have h := own_made W W.heap.size 3 .i64 m (Nat.le_refl _) hm
  have e : (List.replicate m (0 : Int)).length = m := List.length_replicate
  have h2 : (W.alloc (.cells (madeCells #[.int .i64 0] m) 3)).ownsRow W.heap.size 3 1 (.slice (some ⟨W.heap.size, 0, none⟩) m m) (List.replicate m (0 : Int)).length (nums .i64 (List.replicate m 0)) := by rw [e]; exact h
  have h3 := own_C h2
  rwa [e] at h3
theorem list_err {E : Int} {L : List Int} {w w' : World} {e : Ending} (h : ListEnd E L w e w') (hE : E ≠ 0) : e = .returned (.tuple #[.slice none 0 0, .int .i64 E]) := h.1 hE
end Go.Proofs.YtfameghednapkaaDoor.Ten
namespace Go.Proofs.YtfameghednapkaaDoor.Ten
open Go.RowKit Go.Proofs.YtfameghednapkaaDoorW.PrintWords Go.Proofs.YtfameghednapkaaDoorW.PrintLast Go.Proofs.YtfameghednapkaaDoorW.PrintMore Go.Proofs.YtfameghednapkaaDoor.K Go.Proofs.YtfameghednapkaaDoor.RI Go.Proofs.YtfameghednapkaaDoor.Fixed
set_option linter.unusedVariables false
set_option linter.unusedSimpArgs false
def sameL (L : List (List Int)) (v : List Int) : Bool := decide (v.length = (L.getD 0 []).length)
def firstE : List (List Int) → Int
  | [] => 0
  | v :: t => if checkV v = 0 then firstE t else checkV v
def checksV (L : List (List Int)) : Int := if L.all (sameL L) = true then firstE L else 13
theorem firstE_drop (L : List (List Int)) (k : Nat) (h : k < L.length) : firstE (L.drop k) = if checkV (L.getD k []) = 0 then firstE (L.drop (k + 1)) else checkV (L.getD k []) := by
  rw [List.drop_eq_getElem_cons h, List.getD_eq_getElem?_getD, List.getElem?_eq_getElem h, Option.getD_some]
  rfl
theorem allL_succ {p : List Int → Bool} {l : List (List Int)} {k : Nat} (h : k < l.length) (hk : (l.take k).all p = true) (hp : p (l.getD k []) = true) : (l.take (k + 1)).all p = true := by
  rw [List.take_succ_eq_append_getElem h, List.all_append, hk]
  rw [List.getD_eq_getElem?_getD, List.getElem?_eq_getElem h, Option.getD_some] at hp
  simp [hp]
theorem allL_not {p : List Int → Bool} {l : List (List Int)} {k : Nat} (h : k < l.length) (hp : p (l.getD k []) = false) : l.all p = false := by
  rw [List.all_eq_false]
  rw [List.getD_eq_getElem?_getD, List.getElem?_eq_getElem h, Option.getD_some] at hp
  exact ⟨_, List.getElem_mem h, by simp [hp]⟩
theorem checksV_not {L : List (List Int)} (h : L.all (sameL L) = false) : checksV L = 13 := by unfold checksV; rw [if_neg (by rw [h]; simp)]
theorem checksV_same {L : List (List Int)} (h : L.all (sameL L) = true) : checksV L = firstE L := if_pos h
theorem add_zero_ (ad : Addr) : ad.add 0 = ad := by cases ad; simp [Addr.add]
set_option maxHeartbeats 8000000 in
set_option maxRecDepth 100000 in
theorem checks_list_calls (A : Option Addr) (c : Nat) (L : List (List Int)) (w : World) (hC : Kd.C (Kd.slice 3 (Kd.int .i64)) w A L.length L) :
    Calls Tryd.prog 51 #[.slice A L.length c] w fun e w' => e = .returned (.int .i64 (checksV L)) ∧ Below w.heap.size w w' := by
  have HC := Aside0.mk hC
  have hm := hC.2.1
  clear hC
  go_enter Tryd.func51, Tryd.ntmps51
  go_wp2_with (fail)
  go_loop [10] (fun i => ∃ k : Nat, k ≤ L.length ∧ i = .int .i64 (k : Int) ∧ Aside0 ((L.take k).all (sameL L) = true)) (fun i => L.length - (intOf i).toNat)
  case atStart => exact ⟨0, Nat.zero_le _, rfl, ⟨rfl⟩⟩
  case round =>
    obtain ⟨k, hk, rfl, HA⟩ := hrel
    by_cases hlt : k < L.length
    · obtain ⟨ad, A1, c1, rfl, hcell, hle1, hrow⟩ := row_at HC.out k hlt
      obtain ⟨A0, c0, hcell0, hle0⟩ := row_cell HC.out (Below.refl _ _) 0 (by omega)
      rw [add_zero_] at hcell0
      have hwk : IntKind.i64.wrap ((k : Int) + 1) = (k : Int) + 1 := by rw [IntKind.wrap_i64]; omega
      have hp : 0 < L.length := by omega
      clear hrow hle1 hle0
      obtain ⟨v, hv⟩ : ∃ v, v = L.getD k [] := ⟨_, rfl⟩
      obtain ⟨u, hu⟩ : ∃ v, v = L.getD 0 [] := ⟨_, rfl⟩
      rw [← hv] at hcell
      rw [← hu] at hcell0
      by_cases hs : v.length = u.length
      · have dn : ((v.length : Int) != (u.length : Int)) = false := by simp [hs]
        have HA2 : Aside0 ((L.take (k + 1)).all (sameL L) = true) := ⟨allL_succ hlt HA.out (by unfold sameL; rw [← hv, ← hu]; simpa using hs)⟩
        clear hs hv hu
        go_wp2
        go_round
        case rel => exact ⟨k + 1, by omega, by go_num, HA2⟩
        case measure => simp [intOf]; omega
      · have dn : ((v.length : Int) != (u.length : Int)) = true := by simp; omega
        have HE : Aside0 (checksV L = 13) := ⟨checksV_not (allL_not hlt (by unfold sameL; rw [← hv, ← hu]; simpa using hs))⟩
        clear hs hv hu
        go_wp2
        go_ret
        exact ⟨by rw [HE.out]; rfl, Below.refl _ _⟩
    · obtain rfl : k = L.length := by omega
      have HS : Aside0 (checksV L = firstE L) := ⟨checksV_same (by have := HA.out; rwa [List.take_length] at this)⟩
      clear hlt
      go_wp2_with (fail)
      go_loopw [24] (fun i wr => ∃ k : Nat, k ≤ L.length ∧ i = .int .i64 (k : Int) ∧ Aside0 (firstE L = firstE (L.drop k) ∧ Below w.heap.size w wr)) (fun i _ => L.length - (intOf i).toNat)
      case atStart => exact ⟨0, Nat.zero_le _, rfl, ⟨rfl, Below.refl _ _⟩⟩
      case round =>
        obtain ⟨k, hk, rfl, HB⟩ := hrel
        by_cases hlt : k < L.length
        · obtain ⟨ad, A1, c1, rfl, hcell0, hle1, hrow⟩ := row_get HC.out k hlt
          have hcell := hcell0 wr HB.out.2
          have HRw := Aside0.mk (Kd.C_below hrow HB.out.2)
          have HF := Aside0.mk (firstE_drop L k hlt)
          have hwk : IntKind.i64.wrap ((k : Int) + 1) = (k : Int) + 1 := by rw [IntKind.wrap_i64]; omega
          clear hrow hle1 hcell0
          generalize L.getD k [] = v at *
          go_wp2_with (fail)
          refine (tcheck_calls A1 c1 v wr HRw.out).mono ?_
          rintro e w1 ⟨rfl, hb⟩
          have HB1 := Aside0.mk (below_step HB.out.2 hb)
          clear hb hcell
          obtain ⟨z, hz⟩ : ∃ z, z = checkV v := ⟨_, rfl⟩
          rw [← hz] at HF ⊢
          clear hz
          by_cases hz0 : z = 0
          · subst hz0
            have HF2 : Aside0 (firstE L = firstE (L.drop (k + 1))) := ⟨by rw [HB.out.1, HF.out, if_pos rfl]⟩
            go_wp2
            go_roundw
            case rel => exact ⟨k + 1, by omega, by go_num, ⟨HF2.out, HB1.out⟩⟩
            case measure => simp [intOf]; omega
          · have dz : (z != 0) = true := by simpa using hz0
            have HF2 : Aside0 (checksV L = z) := ⟨by rw [HS.out, HB.out.1, HF.out, if_neg hz0]⟩
            clear hz0
            go_wp2
            go_ret
            exact ⟨by rw [HF2.out]; rfl, HB1.out⟩
        · obtain rfl : k = L.length := by omega
          have HF2 : Aside0 (checksV L = 0) := ⟨by rw [HS.out, HB.out.1, List.drop_length]; rfl⟩
          go_wp2
          go_ret
          exact ⟨by rw [HF2.out]; rfl, HB.out.2⟩
end Go.Proofs.YtfameghednapkaaDoor.Ten
namespace Go.Proofs.YtfameghednapkaaDoor.Ten
open Go.RowKit Go.Proofs.YtfameghednapkaaDoorW.PrintWords Go.Proofs.YtfameghednapkaaDoorW.PrintLast Go.Proofs.YtfameghednapkaaDoorW.PrintMore Go.Proofs.YtfameghednapkaaDoor.K Go.Proofs.YtfameghednapkaaDoor.RI Go.Proofs.YtfameghednapkaaDoor.Fixed
set_option linter.unusedVariables false
set_option linter.unusedSimpArgs false
def isSh (n : Int) : Bool := decide (0 ≤ n ∧ n ≤ 65536)
def mixS (sh : List Int) (L : List (List Int)) (k : Nat) : Nat → Int
  | 0 => 0
  | m + 1 => mixS sh L k m + sh.getD m 0 * (L.getD m []).getD k 0
def mixF (sh : List Int) (L : List (List Int)) (k : Nat) : Int × Int := rtV (mixS sh L k sh.length)
def mixE (sh : List Int) (L : List (List Int)) : Int := if L.length = 0 ∨ 64 < L.length ∨ sh.length ≠ L.length then 13 else if checksV L = 0 then (if sh.all isSh = true then errF (mixF sh L) (L.getD 0 []).length 0 else 10) else checksV L
def mixL (sh : List Int) (L : List (List Int)) : List Int := outL (mixF sh L) (L.getD 0 []).length
theorem firstE_zero {L : List (List Int)} (h : firstE L = 0) : ∀ v ∈ L, checkV v = 0 := by
  induction L with
  | nil => intro v hv; cases hv
  | cons x t ih =>
    simp only [firstE] at h
    split at h
    · rename_i h1
      intro v hv
      cases hv with
      | head => exact h1
      | tail _ hv => exact ih h v hv
    · rename_i h1
      exact absurd h h1
theorem getD_mem_ {L : List (List Int)} {k : Nat} (h : k < L.length) : L.getD k [] ∈ L := by
  rw [List.getD_eq_getElem?_getD, List.getElem?_eq_getElem h]
  exact List.getElem_mem h
theorem checks_ok {L : List (List Int)} (h : checksV L = 0) (k : Nat) (hk : k < L.length) : (L.getD k []).length = (L.getD 0 []).length ∧ checkV (L.getD k []) = 0 := by
  unfold checksV at h
  split at h
  · rename_i h1
    exact ⟨of_decide_eq_true (List.all_eq_true.1 h1 _ (getD_mem_ hk)), firstE_zero h _ (getD_mem_ hk)⟩
  · cases h
theorem sh_get {sh : List Int} (h : sh.all isSh = true) (k : Nat) : 0 ≤ sh.getD k 0 ∧ sh.getD k 0 ≤ 65536 := by
  rcases Nat.lt_or_ge k sh.length with h1 | h1
  · rw [List.getD_eq_getElem?_getD, List.getElem?_eq_getElem h1]
    exact of_decide_eq_true (List.all_eq_true.1 h _ (List.getElem_mem h1))
  · rw [List.getD_eq_getElem?_getD, List.getElem?_eq_none h1]
    decide
theorem mixS_bd {sh : List Int} {L : List (List Int)} {k : Nat} (hs : sh.all isSh = true) (hL : checksV L = 0) : ∀ m : Nat, m ≤ L.length → -((m : Int) * 140737488355328) ≤ mixS sh L k m ∧ mixS sh L k m ≤ (m : Int) * 140737488355328
  | 0, _ => by simp [mixS]
  | m + 1, hm => by
    have h1 := mixS_bd (k := k) hs hL m (by omega)
    have h3 := sh_get hs m
    have h4 := getD_r (check_ok_in (checks_ok hL m (by omega)).2).1 k
    have h2 := mul_bd (a := sh.getD m 0) (b := (L.getD m []).getD k 0) (A := 65536) (B := 2147483648) (by omega) (by omega) (by decide) (by decide)
    simp only [mixS]
    rw [Int.natCast_add]
    omega
theorem slice_cells {W : World} {g : Nat} {v : Value} {t : TypeId} (h : W.heap[g]? = some (.cells #[v] t (0, 0))) : W.cell? ⟨g, 0, none⟩ = some v := by
  have h1 := blk_cell h 0
  simpa only [List.getElem?_toArray, List.getElem?_cons_zero] using h1
set_option maxHeartbeats 8000000 in
set_option maxRecDepth 100000 in
theorem mix2_calls (As : Option Addr) (cs : Nat) (sh : List Int) (Al : Option Addr) (cl : Nat) (L : List (List Int)) (k Bs Bl : Nat) (w : World) (hS : Kd.C (Kd.int .i64) w As sh.length sh) (hL : Kd.C (Kd.slice 3 (Kd.int .i64)) w Al L.length L)
    (hbs : w.heap[Bs]? = some (.cells #[.slice As sh.length cs] 22 (0, 0))) (hbl : w.heap[Bl]? = some (.cells #[.slice Al L.length cl] 44 (0, 0))) (h64 : L.length ≤ 64) (hl : sh.length = L.length) (hsh : sh.all isSh = true) (hch : checksV L = 0) (hk : k < (L.getD 0 []).length) :
    Calls Tryd.prog 53 #[.int .i64 (k : Int), .pointer (some ⟨Bs, 0, none⟩), .pointer (some ⟨Bl, 0, none⟩)] w fun e w' => e = .returned (.tuple #[.int .i64 (mixF sh L k).1, .int .i64 (mixF sh L k).2]) ∧ Below w.heap.size w w' := by
  have hcs := slice_cells hbs
  have hcl := slice_cells hbl
  have HS := Aside0.mk hS
  have HL := Aside0.mk hL
  have HX := Aside0.mk (And.intro hl (And.intro hsh (And.intro hch hk)))
  have HP : Aside0 (mixF sh L k = rtV (mixS sh L k sh.length)) := ⟨rfl⟩
  have h64' : sh.length ≤ 64 := by omega
  have hm1 := hS.2.1
  have hm2 := hL.2.1
  clear hbs hbl hS hL hl hsh hch hk
  generalize mixF sh L k = p at *
  go_enter Tryd.func53, Tryd.ntmps53
  go_wp2_with (fail)
  go_loop [6, 11] (fun s i => ∃ m : Nat, m ≤ sh.length ∧ i = .int .i64 (m : Int) ∧ s = .int .i64 (mixS sh L k m)) (fun _ i => sh.length - (intOf i).toNat)
  case atStart => exact ⟨0, Nat.zero_le _, rfl, rfl⟩
  case round =>
    obtain ⟨m, hm, rfl, rfl⟩ := hrel
    by_cases hlt : m < sh.length
    · have hlt2 : m < L.length := by have := HX.out.1; omega
      obtain ⟨ads, rfl, hx⟩ := int_at HS.out m hlt
      obtain ⟨adl, A1, c1, rfl, hcell, hle1, hrow⟩ := row_at HL.out m hlt2
      have hkk : k < (L.getD m []).length := by rw [(checks_ok HX.out.2.2.1 m hlt2).1]; exact HX.out.2.2.2
      obtain ⟨ad1, rfl, hy⟩ := int_at hrow k hkk
      have hs1 : mixS sh L k (m + 1) = mixS sh L k m + sh.getD m 0 * (L.getD m []).getD k 0 := rfl
      have hb1 := mixS_bd (k := k) HX.out.2.1 HX.out.2.2.1 (m + 1) hlt2
      have hs3 := sh_get HX.out.2.1 m
      have hs4 := getD_r (check_ok_in (checks_ok HX.out.2.2.1 m hlt2).2).1 k
      have hs2 := mul_bd (a := sh.getD m 0) (b := (L.getD m []).getD k 0) (A := 65536) (B := 2147483648) (by omega) (by omega) (by decide) (by decide)
      obtain ⟨y, hye⟩ : ∃ y, y = (L.getD m []).getD k 0 := ⟨_, rfl⟩
      obtain ⟨x, hxe⟩ : ∃ x, x = sh.getD m 0 := ⟨_, rfl⟩
      rw [← hye] at hy hs1 hs2
      rw [← hxe] at hx hs1 hs2
      obtain ⟨q, hq⟩ : ∃ q, q = x * y := ⟨_, rfl⟩
      obtain ⟨s', hs'⟩ : ∃ s, s = mixS sh L k (m + 1) := ⟨_, rfl⟩
      rw [← hq] at hs1 hs2
      rw [← hs'] at hs1 hb1
      have hw1 : IntKind.i64.wrap (x * y) = q := by rw [← hq, IntKind.wrap_i64]; omega
      have hw2 : IntKind.i64.wrap (mixS sh L k m + q) = s' := by rw [hs1, IntKind.wrap_i64]; omega
      have hwk : IntKind.i64.wrap ((m : Int) + 1) = (m : Int) + 1 := by rw [IntKind.wrap_i64]; omega
      have HS' := Aside0.mk hs'
      generalize mixS sh L k m = s at *
      generalize L.getD m [] = row at *
      clear hrow hs1 hb1 hs2 hs3 hs4 hq hs' hxe hye hle1
      go_wp2
      go_round
      case rel => exact ⟨m + 1, by omega, by go_num, by rw [HS'.out]⟩
      case measure => simp [intOf]; omega
    · obtain rfl : m = sh.length := by omega
      have hb1 := mixS_bd (k := k) HX.out.2.1 HX.out.2.2.1 sh.length (by have := HX.out.1; omega)
      have HR : Aside0 (-4611686018427387904 ≤ mixS sh L k sh.length ∧ mixS sh L k sh.length ≤ 4611686018427387904) := ⟨by omega⟩
      clear hb1
      generalize mixS sh L k sh.length = s at *
      go_wp2_with (fail)
      refine (rounded_calls s w HR.out.1 HR.out.2).mono ?_
      rintro e w1 ⟨rfl, hb⟩
      have HB1 := Aside0.mk hb
      clear hb
      generalize rtV s = r at *
      go_wp2
      go_ret2
      exact ⟨by rw [HP.out]; rfl, HB1.out⟩
theorem mix1_calls (x : Int) (w : World) :
    Calls Tryd.prog 52 #[.int .i64 x] w fun e w' => e = .returned (.bool (isSh x)) ∧ Below w.heap.size w w' := by
  by_cases h0 : 0 ≤ x
  · have d0 : decide (0 ≤ x) = true := by simpa using h0
    by_cases h1 : x ≤ 65536
    · have d1 : decide (x ≤ 65536) = true := by simpa using h1
      have HE : Aside0 (isSh x = true) := ⟨by unfold isSh; simp; omega⟩
      rw [HE.out]
      clear h0 h1
      go_enter Tryd.func52, Tryd.ntmps52
      go_wp2
      go_ret
      exact ⟨rfl, Below.refl _ _⟩
    · have d1 : decide (x ≤ 65536) = false := by simpa using h1
      have HE : Aside0 (isSh x = false) := ⟨by unfold isSh; simp; omega⟩
      rw [HE.out]
      clear h0 h1
      go_enter Tryd.func52, Tryd.ntmps52
      go_wp2
      go_ret
      exact ⟨rfl, Below.refl _ _⟩
  · have d0 : decide (0 ≤ x) = false := by simpa using h0
    have HE : Aside0 (isSh x = false) := ⟨by unfold isSh; simp; omega⟩
    rw [HE.out]
    clear h0
    go_enter Tryd.func52, Tryd.ntmps52
    go_wp2
    go_ret
    exact ⟨rfl, Below.refl _ _⟩
set_option maxHeartbeats 8000000 in
set_option maxRecDepth 100000 in
theorem mix_calls (As : Option Addr) (cs : Nat) (sh : List Int) (Al : Option Addr) (cl : Nat) (L : List (List Int)) (w : World) (hS : Kd.C (Kd.int .i64) w As sh.length sh) (hL : Kd.C (Kd.slice 3 (Kd.int .i64)) w Al L.length L) :
    Calls Tryd.prog 28 #[.slice As sh.length cs, .slice Al L.length cl] w (ListEnd (mixE sh L) (mixL sh L) w) := by
  have HS := Aside0.mk hS
  have HL := Aside0.mk hL
  have hm1 := hS.2.1
  have hm2 := hL.2.1
  have HB0 : Aside0 (Below w.heap.size w ((w.alloc (.cells #[.slice As sh.length cs] 22)).alloc (.cells #[.slice Al L.length cl] 44))) := ⟨bel_alloc (bel_alloc (Below.refl _ _) _) _⟩
  have HX0 : Aside0 (((w.alloc (.cells #[.slice As sh.length cs] 22)).alloc (.cells #[.slice Al L.length cl] 44)).heap[w.heap.size]? = some (.cells #[.slice As sh.length cs] 22 (0, 0))) := ⟨blk_alloc (heap_alloc_new _ _) _⟩
  have HY0 : Aside0 (((w.alloc (.cells #[.slice As sh.length cs] 22)).alloc (.cells #[.slice Al L.length cl] 44)).heap[w.heap.size + 1]? = some (.cells #[.slice Al L.length cl] 44 (0, 0))) := ⟨by
    have h := heap_alloc_new (w.alloc (.cells #[.slice As sh.length cs] 22)) (.cells #[.slice Al L.length cl] 44)
    rwa [World.size_alloc] at h⟩
  clear hS hL
  have hend : (L.length = 0 ∨ 64 < L.length ∨ sh.length ≠ L.length) → Aside0 (mixE sh L = 13) := fun h => ⟨if_pos h⟩
  by_cases h1 : L.length = 0
  · have d1 : ((L.length : Int) == 0) = true := by simp [h1]
    have HE := hend (.inl h1)
    clear hend h1
    go_enter Tryd.func28, Tryd.ntmps28
    go_wp2
    go_ret2
    exact ⟨fun _ => by rw [HE.out]; rfl, fun h => absurd (HE.out.symm.trans h) (by decide), HB0.out⟩
  · have d1 : ((L.length : Int) == 0) = false := by simp; exact fun h => h1 (by rw [h]; rfl)
    by_cases h2 : 64 < L.length
    · have d2 : decide (64 < (L.length : Int)) = true := by simp; omega
      have HE := hend (.inr (.inl h2))
      clear hend h1 h2
      go_enter Tryd.func28, Tryd.ntmps28
      go_wp2
      go_ret2
      exact ⟨fun _ => by rw [HE.out]; rfl, fun h => absurd (HE.out.symm.trans h) (by decide), HB0.out⟩
    · have d2 : decide (64 < (L.length : Int)) = false := by simp; omega
      by_cases h3 : sh.length = L.length
      · have d3 : ((sh.length : Int) != (L.length : Int)) = false := by simp [h3]
        have HN : Aside0 (¬ (L.length = 0 ∨ 64 < L.length ∨ sh.length ≠ L.length)) := ⟨by omega⟩
        have HM : Aside0 (mixE sh L = if checksV L = 0 then (if sh.all isSh = true then errF (mixF sh L) (L.getD 0 []).length 0 else 10) else checksV L) := ⟨if_neg HN.out⟩
        have hp : 0 < L.length := by omega
        have HP64 : Aside0 (L.length ≤ 64 ∧ sh.length = L.length ∧ 0 < L.length) := ⟨by omega⟩
        clear hend h1 h2
        obtain ⟨z, hz⟩ : ∃ z, z = checksV L := ⟨_, rfl⟩
        have HZ := Aside0.mk hz
        by_cases hz0 : z = 0
        · subst hz0
          have HM2 : Aside0 (mixE sh L = if sh.all isSh = true then errF (mixF sh L) (L.getD 0 []).length 0 else 10) := ⟨by rw [HM.out, if_pos hz.symm]⟩
          clear hz HM h3
          obtain ⟨b, hb⟩ : ∃ b, b = sh.all isSh := ⟨_, rfl⟩
          have HBb := Aside0.mk hb
          clear hb
          cases b with
          | false =>
            have HE : Aside0 (mixE sh L = 10) := ⟨by rw [HM2.out, if_neg (by rw [← HBb.out]; simp)]⟩
            go_enter Tryd.func28, Tryd.ntmps28
            go_wp2_with (fail)
            generalize ((w.alloc (.cells #[.slice As sh.length cs] 22)).alloc (.cells #[.slice Al L.length cl] 44)) = w0 at *
            refine (checks_list_calls Al cl L w0 (Kd.C_below HL.out HB0.out)).mono ?_
            rw [← HZ.out]
            rintro e w1 ⟨rfl, hb⟩
            have HB1 := Aside0.mk (below_step HB0.out hb)
            have hcs := slice_cells ((hb.block _ (blk_lt HX0.out)).trans HX0.out)
            clear hb
            go_wp2_with (fail)
            clear hcs
            refine (all_calls 52 #[] #[] isSh As cs sh w1 (Kd.C_below HS.out HB1.out) (enters_ Tryd.func52 (by kernel_rfl) rfl) (fun x W _ => mix1_calls x W)).mono ?_
            rw [← HBb.out]
            rintro e w2 ⟨rfl, hb⟩
            have HB2 := Aside0.mk (below_step HB1.out hb)
            clear hb
            go_wp2
            go_ret2
            exact ⟨fun _ => by rw [HE.out]; rfl, fun h => absurd (HE.out.symm.trans h) (by decide), HB2.out⟩
          | true =>
            have HE : Aside0 (mixE sh L = errF (mixF sh L) (L.getD 0 []).length 0) := ⟨by rw [HM2.out, if_pos HBb.out.symm]⟩
            go_enter Tryd.func28, Tryd.ntmps28
            go_wp2_with (fail)
            generalize ((w.alloc (.cells #[.slice As sh.length cs] 22)).alloc (.cells #[.slice Al L.length cl] 44)) = w0 at *
            refine (checks_list_calls Al cl L w0 (Kd.C_below HL.out HB0.out)).mono ?_
            rw [← HZ.out]
            rintro e w1 ⟨rfl, hb⟩
            have HB1 := Aside0.mk (below_step HB0.out hb)
            have HX1 : Aside0 (w1.heap[w.heap.size]? = some (.cells #[.slice As sh.length cs] 22 (0, 0))) := ⟨(hb.block _ (blk_lt HX0.out)).trans HX0.out⟩
            have HY1 : Aside0 (w1.heap[w.heap.size + 1]? = some (.cells #[.slice Al L.length cl] 44 (0, 0))) := ⟨(hb.block _ (blk_lt HY0.out)).trans HY0.out⟩
            have hcs := slice_cells HX1.out
            clear hb
            go_wp2_with (fail)
            clear hcs
            refine (all_calls 52 #[] #[] isSh As cs sh w1 (Kd.C_below HS.out HB1.out) (enters_ Tryd.func52 (by kernel_rfl) rfl) (fun x W _ => mix1_calls x W)).mono ?_
            rw [← HBb.out]
            rintro e w2 ⟨rfl, hb⟩
            have HB2 := Aside0.mk (below_step HB1.out hb)
            have HX2 : Aside0 (w2.heap[w.heap.size]? = some (.cells #[.slice As sh.length cs] 22 (0, 0))) := ⟨(hb.block _ (blk_lt HX1.out)).trans HX1.out⟩
            have HY2 : Aside0 (w2.heap[w.heap.size + 1]? = some (.cells #[.slice Al L.length cl] 44 (0, 0))) := ⟨(hb.block _ (blk_lt HY1.out)).trans HY1.out⟩
            have hcl := slice_cells HY2.out
            obtain ⟨ad, A0, c0, rfl, hcell0, hle0, hrow0⟩ := row_get HL.out 0 hp
            have hcell := hcell0 w2 HB2.out
            rw [add_zero_] at hcell
            have HT : TellsAt 53 #[] #[.pointer (some ⟨w.heap.size, 0, none⟩), .pointer (some ⟨w.heap.size + 1, 0, none⟩)] (mixF sh L) (L.getD 0 []).length w2 := fun k hk W hb =>
              mix2_calls As cs sh (some ad) cl L k w.heap.size (w.heap.size + 1) W (Kd.C_below HS.out (below_step HB2.out hb)) (Kd.C_below HL.out (below_step HB2.out hb)) ((hb.block _ (blk_lt HX2.out)).trans HX2.out) ((hb.block _ (blk_lt HY2.out)).trans HY2.out) HP64.out.1 HP64.out.2.1 HBb.out.symm HZ.out.symm hk
            have HEa := Aside0.mk (each_calls 53 #[] #[.pointer (some ⟨w.heap.size, 0, none⟩), .pointer (some ⟨w.heap.size + 1, 0, none⟩)] (mixF sh L) (L.getD 0 []).length w2 (by have := (check_ok_in (checks_ok HZ.out.symm 0 hp).2).2.2; omega) (enters_ Tryd.func53 (by kernel_rfl) rfl) HT)
            have HML : Aside0 (mixL sh L = outL (mixF sh L) (L.getD 0 []).length) := ⟨rfl⟩
            clear HT hb hcell0 hle0 hrow0
            generalize L.getD 0 [] = u at *
            go_wp2_with (fail)
            refine HEa.out.mono ?_
            rintro e w3 ⟨h1, h2, hb⟩
            have HB3 := Aside0.mk (below_step HB2.out hb)
            clear hcell hcl hb
            by_cases hz : errF (mixF sh L) u.length 0 = 0
            · obtain ⟨v, rfl, hr⟩ := h2 hz
              obtain ⟨A3, c3, rfl, hC3, hle3⟩ := own_slice_le hr
              have HC3 := Aside0.mk hC3
              have HLe := Aside0.mk hle3
              have HEz : Aside0 (mixE sh L = 0) := ⟨HE.out.trans hz⟩
              clear h1 h2 hr hz hC3 hle3
              go_wp2_with (fail)
              go_ret2
              exact ⟨fun h => absurd HEz.out h, fun _ => ⟨A3, c3, by rw [HML.out]; rfl, by rw [HML.out]; exact HC3.out, by rw [HML.out]; exact HLe.out⟩, HB3.out⟩
            · have he := h1 hz
              subst he
              have HEz := Aside0.mk hz
              clear h1 h2 hz
              go_wp2_with (fail)
              go_ret2
              exact ⟨fun _ => by rw [HE.out]; rfl, fun h => absurd (HE.out.symm.trans h) HEz.out, HB3.out⟩
        · have dz : (z != 0) = true := by simpa using hz0
          have HE : Aside0 (mixE sh L = z) := ⟨by rw [HM.out, ← hz, if_neg hz0]⟩
          have HNz := Aside0.mk hz0
          clear hz hz0 h3
          go_enter Tryd.func28, Tryd.ntmps28
          go_wp2_with (fail)
          generalize ((w.alloc (.cells #[.slice As sh.length cs] 22)).alloc (.cells #[.slice Al L.length cl] 44)) = w0 at *
          refine (checks_list_calls Al cl L w0 (Kd.C_below HL.out HB0.out)).mono ?_
          rw [← HZ.out]
          rintro e w1 ⟨rfl, hb⟩
          have HB1 := Aside0.mk (below_step HB0.out hb)
          clear hb
          go_wp2
          go_ret2
          exact ⟨fun _ => by rw [HE.out]; rfl, fun h => absurd (HE.out.symm.trans h) HNz.out, HB1.out⟩
      · have d3 : ((sh.length : Int) != (L.length : Int)) = true := by simp; omega
        have HE := hend (.inr (.inr h3))
        clear hend h1 h2 h3
        go_enter Tryd.func28, Tryd.ntmps28
        go_wp2
        go_ret2
        exact ⟨fun _ => by rw [HE.out]; rfl, fun h => absurd (HE.out.symm.trans h) (by decide), HB0.out⟩
end Go.Proofs.YtfameghednapkaaDoor.Ten
