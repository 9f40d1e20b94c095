/- bpe: a coder in the world. -/
import Derived.Test.YtbgiccbegcepcaaBpeMap
namespace Go.Proofs.Ytbgiccbegcepcaa.Bpe
open Go.RowKit Go.Proofs.YtbgiccbegcepcaaW.PrintWords Go.Proofs.YtbgiccbegcepcaaW.PrintLast Go.Proofs.YtbgiccbegcepcaaW.PrintMore Go.Proofs.Ytbgiccbegcepcaa.K
set_option linter.unusedVariables false
set_option linter.unusedSimpArgs false
theorem info_u8 : (Try.prog.info? 5).map (fun i => (i.zero, i.size, i.bytes)) = some (some (.int .u8 0), 1, 1) := by kernel_rfl
theorem info_int : (Try.prog.info? 3).map (fun i => (i.zero, i.size, i.bytes)) = some (some (.int .i64 0), 1, 8) := by kernel_rfl
theorem info_bs : (Try.prog.info? 22).map (fun i => (i.zero, i.size, i.bytes)) = some (some (.slice none 0 0), 1, 24) := by kernel_rfl
theorem info_pr : (Try.prog.info? 44).map (fun i => (i.zero, i.size, i.bytes)) = some (some (.agg #[.int .i64 0, .int .i64 0]), 2, 16) := by kernel_rfl
abbrev kT : Kd (List Int) := Kd.slice 5 (Kd.int .u8)
abbrev kP : Kd Pr := Kd.pair (Kd.int .i64) (Kd.int .i64)
def cdCells (vt : Value) (of : List Int) (b : Nat) (vo : Value) (n : Int) : List Value := vt :: (nums .i64 of ++ [.map (some b), vo, .int .i64 n])
def CodAt (W : World) (B g : Nat) (vt vo : Value) (b : Nat) (T : List (List Int)) (of : List Int) (n : Int) (ps os : List Pr) : Prop :=
  B ≤ g ∧ B ≤ b ∧ of.length = 256 ∧ W.heap[g]? = some (.cells (cdCells vt of b vo n).toArray 60 (0, 0)) ∧ kT.R 22 W B (fun _ => True) vt T ∧ PMap W b n ps ∧ kP.R 44 W B (fun _ => True) vo os
section
variable {W W1 : World} {B g b : Nat} {vt vo : Value} {T : List (List Int)} {of : List Int} {n : Int} {ps os : List Pr}
theorem R_from {α : Type} {d : Kd α} {e : Nat} {w w1 : World} {base : Nat} {v : Value} {xs : List α} (h : d.R e w base (fun _ => True) v xs) (hm : ∀ k, base ≤ k → k < w.heap.size → w1.heap[k]? = w.heap[k]?) : d.R e w1 base (fun _ => True) v xs :=
  Kd.R_mono (Kd.R_step (Kd.R_bound h) (fun k hk hl => hm k hk.2.1 hl)) (fun _ _ => trivial)
theorem CodAt.move (h : CodAt W B g vt vo b T of n ps os) (hm : ∀ k, B ≤ k → k < W.heap.size → W1.heap[k]? = W.heap[k]?) : CodAt W1 B g vt vo b T of n ps os :=
  ⟨h.1, h.2.1, h.2.2.1, (hm g h.1 (blk_lt h.2.2.2.1)).trans h.2.2.2.1, R_from h.2.2.2.2.1 hm, h.2.2.2.2.2.1.move (hm b h.2.1 h.2.2.2.2.2.1.lt), R_from h.2.2.2.2.2.2 hm⟩
theorem CodAt.below (h : CodAt W B g vt vo b T of n ps os) (hb : Below W.heap.size W W1) : CodAt W1 B g vt vo b T of n ps os :=
  h.move (fun k _ hk => hb.block k hk)
theorem cd0 (h : CodAt W B g vt vo b T of n ps os) : W.cell? ⟨g, 0, none⟩ = some vt := blk_cell h.2.2.2.1 0
theorem cd0f (h : CodAt W B g vt vo b T of n ps os) : W.frozen? ⟨g, 0, none⟩ = false := blk_frozen h.2.2.2.1 0
theorem cdof (h : CodAt W B g vt vo b T of n ps os) (i : Nat) (hi : i < 256) : W.cell? ⟨g, 1 + i, none⟩ = some (.int .i64 (of.getD i 0)) := by
  rw [blk_cell h.2.2.2.1 (1 + i)]
  have hl := h.2.2.1
  rw [List.getElem?_toArray, Nat.add_comm, cdCells, List.getElem?_cons_succ, List.getElem?_append_left (by simp [nums]; omega)]
  simp only [nums, List.getElem?_map, List.getElem?_eq_getElem (show i < of.length by omega), Option.map_some, List.getD_eq_getElem?_getD, Option.getD_some]
theorem cd_tail (h : CodAt W B g vt vo b T of n ps os) (j : Nat) : W.cell? ⟨g, 257 + j, none⟩ = [Value.map (some b), vo, .int .i64 n][j]? := by
  rw [blk_cell h.2.2.2.1 (257 + j)]
  have hl := h.2.2.1
  have hn : (nums .i64 of).length = 256 := by simpa [nums] using hl
  rw [List.getElem?_toArray, show 257 + j = (256 + j) + 1 by omega, cdCells, List.getElem?_cons_succ, List.getElem?_append_right (by omega), hn, show 256 + j - 256 = j by omega]
theorem cdm (h : CodAt W B g vt vo b T of n ps os) : W.cell? ⟨g, 257, none⟩ = some (.map (some b)) := cd_tail h 0
theorem cdo (h : CodAt W B g vt vo b T of n ps os) : W.cell? ⟨g, 258, none⟩ = some vo := cd_tail h 1
theorem cdn (h : CodAt W B g vt vo b T of n ps os) : W.cell? ⟨g, 259, none⟩ = some (.int .i64 n) := cd_tail h 2
theorem set_of (vt : Value) (of : List Int) (b : Nat) (vo : Value) (n : Int) (i : Nat) (hi : i < of.length) (x : Int) : (cdCells vt of b vo n).toArray.setIfInBounds (1 + i) (.int .i64 x) = (cdCells vt (of.set i x) b vo n).toArray := by
  rw [List.setIfInBounds_toArray, Nat.add_comm, cdCells, List.set_cons_succ, List.set_append_left _ _ (by simpa [nums] using hi)]
  simp only [cdCells, nums, List.map_set]
theorem set_t (vt : Value) (of : List Int) (b : Nat) (vo : Value) (n : Int) (u : Value) : (cdCells vt of b vo n).toArray.setIfInBounds 0 u = (cdCells u of b vo n).toArray := rfl
theorem typ_T (q : Nat) (hq : q ∈ 22 :: kT.E) : q ≠ 60 := by
  have : q = 22 ∨ q = 5 := by simpa [kT, Kd.slice, Kd.int, Kd.scalar] using hq
  rcases this with rfl | rfl <;> decide
theorem typ_P (q : Nat) (hq : q ∈ 44 :: kP.E) : q = 44 := by
  simpa [kP, Kd.pair, Kd.int, Kd.scalar] using hq
theorem map_ne (h : CodAt W B g vt vo b T of n ps os) : b ≠ g := by
  rintro rfl
  obtain ⟨es, ck, hb⟩ := h.2.2.2.2.2.1.obj
  rw [h.2.2.2.1] at hb
  cases hb
theorem CodAt.setOf (h : CodAt W B g vt vo b T of n ps os) (i : Nat) (hi : i < 256) (x : Int) : CodAt (W.setCell ⟨g, 1 + i, none⟩ (.int .i64 x)) B g vt vo b T (of.set i x) n ps os :=
  ⟨h.1, h.2.1, by rw [List.length_set]; exact h.2.2.1, by rw [blk_set h.2.2.2.1, set_of _ _ _ _ _ _ (by rw [h.2.2.1]; exact hi)], Kd.R_set h.2.2.2.2.1 h.2.2.2.1 typ_T _ _,
    h.2.2.2.2.2.1.move (Below.heap_setCell W _ _ b (map_ne h)), Kd.R_set h.2.2.2.2.2.2 h.2.2.2.1 (fun q hq => by rw [typ_P q hq]; decide) _ _⟩
theorem cd_ne (h : CodAt W B g vt vo b T of n ps os) : some g ≠ vt.ownBlock := Kd.R_ne h.2.2.2.2.1 h.2.2.2.1 (by decide)
/-- A row's blocks hold cells: none is a map's. -/
theorem R_nomap {α : Type} {d : Kd α} {e : Nat} {w w1 : World} {base : Nat} {v : Value} {xs : List α} {b0 : Nat} {es : Array MapEntry} {ck : Nat} (h : d.R e w base (fun _ => True) v xs) (hb : w.heap[b0]? = some (.map es ck)) (hg : w.grownBy w1 (some b0)) : d.R e w1 base (fun _ => True) v xs :=
  Kd.R_mono (Kd.R_step (Kd.R_bound h) (fun k hk hl => hg.block k hl (fun e => by
    obtain ⟨_, _, _, q, hq, cells, hc⟩ := hk
    injection e with e
    subst e
    rw [hc] at hb
    cases hb))) (fun _ _ => trivial)
theorem CodAt.mapped (h : CodAt W B g vt vo b T of n ps os) {ps1 : List Pr} (hm : PMap W1 b n ps1) (hg : W.grownBy W1 (some b)) : CodAt W1 B g vt vo b T of n ps1 os := by
  obtain ⟨es, ck, hb⟩ := h.2.2.2.2.2.1.obj
  exact ⟨h.1, h.2.1, h.2.2.1, blk_grown h.2.2.2.1 hg (fun e => map_ne h (by injection e with e; exact e.symm)), R_nomap h.2.2.2.2.1 hb hg, hm, R_nomap h.2.2.2.2.2.2 hb hg⟩
theorem own_obj {α : Type} {d : Kd α} {e : Nat} {w : World} {base : Nat} {v : Value} {xs : List α} (h : d.R e w base (fun _ => True) v xs) (k : Nat) (hk : v.ownBlock = some k) : ∃ cells, w.heap[k]? = some (.cells cells e (0, 0)) := by
  obtain ⟨inner, ho⟩ := Kd.R_own h
  exact own_typed ho k hk
/-- The texts behind an append, laid into the coder. -/
theorem CodAt.laid (h : CodAt W B g vt vo b T of n ps os) {v1 : Value} {T1 : List (List Int)} (hg : W.grownBy W1 vt.ownBlock) (hr : kT.R 22 W1 B (fun _ => True) v1 T1) :
    W1.heap[g]? = some (.cells (cdCells vt of b vo n).toArray 60 (0, 0)) ∧ CodAt (W1.setCell ⟨g, 0, none⟩ v1) B g v1 vo b T1 of n ps os := by
  have h2 := blk_grown h.2.2.2.1 hg (cd_ne h)
  refine ⟨h2, h.1, h.2.1, h.2.2.1, by rw [blk_set h2, set_t], Kd.R_set hr h2 typ_T _ _, ?_, ?_⟩
  · refine h.2.2.2.2.2.1.move ((Below.heap_setCell W1 _ _ b (map_ne h)).trans (hg.block b h.2.2.2.2.2.1.lt (fun e => ?_)))
    obtain ⟨es, ck, hb⟩ := h.2.2.2.2.2.1.obj
    obtain ⟨cells, hc⟩ := own_obj h.2.2.2.2.1 b e.symm
    rw [hb] at hc
    cases hc
  · have h3 : kP.R 44 W1 B (fun _ => True) vo os := Kd.R_mono (Kd.R_step (Kd.R_bound h.2.2.2.2.2.2) (fun k hk hl => hg.block k hl (fun e => by
      obtain ⟨_, _, _, q, hq, cells, hc⟩ := hk
      obtain ⟨cells', hc'⟩ := own_obj h.2.2.2.2.1 k e.symm
      rw [hc, typ_P q hq] at hc'
      injection hc' with hc'
      injection hc' with _ hc'
      exact absurd hc' (by decide)))) (fun _ _ => trivial)
    exact Kd.R_set h3 h2 (fun q hq => by rw [typ_P q hq]; decide) _ _
end
end Go.Proofs.Ytbgiccbegcepcaa.Bpe
