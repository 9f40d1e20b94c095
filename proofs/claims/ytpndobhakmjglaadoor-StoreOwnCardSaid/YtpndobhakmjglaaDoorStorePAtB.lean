/- store: a store in the world whose blocks are all told of by a property. -/
import Derived.Test.YtpndobhakmjglaaDoorBunS4
namespace Go.Proofs.YtpndobhakmjglaaDoor.StoreP
open Go.RowKit Go.Proofs.YtpndobhakmjglaaDoorW.PrintWords Go.Proofs.YtpndobhakmjglaaDoorW.PrintLast Go.Proofs.YtpndobhakmjglaaDoorW.PrintMore Go.Proofs.YtpndobhakmjglaaDoor.K Go.Proofs.YtpndobhakmjglaaDoor.Sha Go.Proofs.YtpndobhakmjglaaDoor.Store
set_option linter.unusedVariables false
set_option linter.unusedSimpArgs false
/-- A store in a block: its records, their last mark, its bytes. No record and no mark lies in the bytes' block. -/
def StP (P : Nat → Prop) (W : World) (B g : Nat) (vl vm vb : Value) (rs : List (List Int)) (mk bs : List Int) : Prop :=
  B ≤ g ∧ W.heap[g]? = some (.cells #[vl, vm, vb] 56 (0, 0)) ∧ kT.R 22 W B (fun k => P k ∧ some k ≠ vb.ownBlock) vl rs ∧ kB.R 5 W B (fun k => P k ∧ some k ≠ vb.ownBlock) vm mk ∧ kB.R 5 W B P vb bs
section
variable {P : Nat → Prop} {W W1 : World} {B g : Nat} {vl vm vb : Value} {rs : List (List Int)} {mk bs : List Int}
theorem StP.move (h : StP P W B g vl vm vb rs mk bs) (hm : ∀ k, B ≤ k → k < W.heap.size → W1.heap[k]? = W.heap[k]?) : StP P W1 B g vl vm vb rs mk bs :=
  ⟨h.1, (hm g h.1 (blk_lt h.2.1)).trans h.2.1, R_from h.2.2.1 hm, R_from h.2.2.2.1 hm, R_from h.2.2.2.2 hm⟩
theorem StP.below (h : StP P W B g vl vm vb rs mk bs) (hb : Below W.heap.size W W1) : StP P W1 B g vl vm vb rs mk bs := h.move (fun k _ hk => hb.block k hk)
theorem st0 (h : StP P W B g vl vm vb rs mk bs) : W.cell? ⟨g, 0, none⟩ = some vl := blk_cell h.2.1 0
theorem st1 (h : StP P W B g vl vm vb rs mk bs) : W.cell? ⟨g, 1, none⟩ = some vm := blk_cell h.2.1 1
theorem st2 (h : StP P W B g vl vm vb rs mk bs) : W.cell? ⟨g, 2, none⟩ = some vb := blk_cell h.2.1 2
theorem stf (h : StP P W B g vl vm vb rs mk bs) (j : Nat) : W.frozen? ⟨g, j, none⟩ = false := blk_frozen h.2.1 j
/-- The records behind an append, laid into the store with their mark. -/
theorem StP.added (h : StP P W B g vl vm vb rs mk bs) {v1 vm1 : Value} {rs1 : List (List Int)} {mk1 : List Int} (hg : W.grownBy W1 vl.ownBlock) (hr : kT.R 22 W1 B (fun k => P k ∧ some k ≠ vb.ownBlock) v1 rs1) (hm : kB.R 5 W B (fun k => P k ∧ some k ≠ vb.ownBlock) vm1 mk1) :
    W1.heap[g]? = some (.cells #[vl, vm, vb] 56 (0, 0)) ∧ StP P ((W1.setCell ⟨g, 0, none⟩ v1).setCell ⟨g, 1, none⟩ vm1) B g v1 vm1 vb rs1 mk1 bs := by
  have h2 := blk_grown h.2.1 hg (Kd.R_ne h.2.2.1 h.2.1 (by decide))
  have h3 : (W1.setCell ⟨g, 0, none⟩ v1).heap[g]? = some (.cells #[v1, vm, vb] 56 (0, 0)) := blk_set h2 0 v1
  have hT : ∀ q, q ∈ 22 :: kT.E → q ≠ 56 := fun q hq => by rcases typ_T q hq with h | h <;> rw [h] <;> decide
  have hB : ∀ q, q ∈ 5 :: kB.E → q ≠ 56 := fun q hq => by rw [typ_B q hq]; decide
  have keep : ∀ {ok : Nat → Prop} {v : Value} {xs : List Int}, kB.R 5 W B ok v xs → kB.R 5 W1 B ok v xs := fun hh =>
    Kd.R_mono (Kd.R_step (Kd.R_bound hh) (fun k hk hl => hg.block k hl (fun e => by
      obtain ⟨_, _, _, q, hq, cells, hc⟩ := hk
      obtain ⟨cells', hc'⟩ := own_obj h.2.2.1 k e.symm
      rw [hc, typ_B q hq] at hc'
      injection hc' with hc'
      injection hc' with _ hc'
      exact absurd hc' (by decide)))) (fun _ hk => hk.1)
  exact ⟨h2, h.1, blk_set h3 1 vm1, Kd.R_set (Kd.R_set hr h2 hT _ _) h3 hT _ _, Kd.R_set (Kd.R_set (keep hm) h2 hB _ _) h3 hB _ _, Kd.R_set (Kd.R_set (keep h.2.2.2.2) h2 hB _ _) h3 hB _ _⟩
/-- The bytes behind an append, laid into the store. -/
theorem StP.laid (h : StP P W B g vl vm vb rs mk bs) {v1 : Value} {bs1 : List Int} (hg : W.grownBy W1 vb.ownBlock) (hat : v1.ownBlock = vb.ownBlock ∨ ∃ b, v1.ownBlock = some b ∧ W.heap.size ≤ b) (hr : kB.R 5 W1 B P v1 bs1) :
    W1.heap[g]? = some (.cells #[vl, vm, vb] 56 (0, 0)) ∧ StP P (W1.setCell ⟨g, 2, none⟩ v1) B g vl vm v1 rs mk bs1 := by
  have h2 := blk_grown h.2.1 hg (Kd.R_ne h.2.2.2.2 h.2.1 (by decide))
  have hT : ∀ q, q ∈ 22 :: kT.E → q ≠ 56 := fun q hq => by rcases typ_T q hq with h | h <;> rw [h] <;> decide
  have hB : ∀ q, q ∈ 5 :: kB.E → q ≠ 56 := fun q hq => by rw [typ_B q hq]; decide
  have keep : ∀ {α : Type} {d : Kd α} {e : Nat} {v : Value} {xs : List α}, d.R e W B (fun k => P k ∧ some k ≠ vb.ownBlock) v xs → d.R e W1 B (fun k => P k ∧ some k ≠ v1.ownBlock) v xs := fun hh =>
    Kd.R_mono (Kd.R_grown (Kd.R_bound hh) hg (fun k hk => hk.1.2)) (fun k hk => by
      refine ⟨hk.1.1, ?_⟩
      rcases hat with e | ⟨b, e, hb⟩
      · rw [e]; exact hk.1.2
      · rw [e]; intro e2; injection e2 with e2; have := hk.2.2.1; omega)
  exact ⟨h2, h.1, blk_set h2 2 v1, Kd.R_set (keep h.2.2.1) h2 hT _ _, Kd.R_set (keep h.2.2.2.1) h2 hB _ _, Kd.R_set hr h2 hB _ _⟩
end
theorem of_StAt {P : Nat → Prop} {W : World} {B g : Nat} {vl vm vb : Value} {rs : List (List Int)} {mk bs : List Int} (h : StAt W B g vl vm vb rs mk bs) (hP : ∀ k, k < W.heap.size → P k) : StP P W B g vl vm vb rs mk bs :=
  ⟨h.1, h.2.1, Kd.R_mono (Kd.R_bound h.2.2.1) (fun k hk => ⟨hP k hk.2.2.1, hk.1⟩), Kd.R_mono (Kd.R_bound h.2.2.2.1) (fun k hk => ⟨hP k hk.2.2.1, hk.1⟩), Kd.R_mono (Kd.R_bound h.2.2.2.2) (fun k hk => hP k hk.2.2.1)⟩
theorem StP.st {P : Nat → Prop} {W : World} {B g : Nat} {vl vm vb : Value} {rs : List (List Int)} {mk bs : List Int} (h : StP P W B g vl vm vb rs mk bs) : StAt W B g vl vm vb rs mk bs :=
  ⟨h.1, h.2.1, Kd.R_mono h.2.2.1 (fun k hk => hk.2), Kd.R_mono h.2.2.2.1 (fun k hk => hk.2), Kd.R_mono h.2.2.2.2 (fun _ _ => trivial)⟩
/-- A store's blocks, where a row grows that is none of them. -/
theorem StP.row_grown {W W1 : World} {B g : Nat} {vl vm vb : Value} {rs : List (List Int)} {mk bs : List Int} {row : Option Nat} (h : StP (fun k => some k ≠ row) W B g vl vm vb rs mk bs) (hgb : some g ≠ row) (hg : W.grownBy W1 row) : StP (fun k => some k ≠ row) W1 B g vl vm vb rs mk bs :=
  ⟨h.1, blk_grown h.2.1 hg hgb, Kd.R_grown h.2.2.1 hg (fun k hk => hk.1), Kd.R_grown h.2.2.2.1 hg (fun k hk => hk.1), Kd.R_grown h.2.2.2.2 hg (fun k hk => hk)⟩
end Go.Proofs.YtpndobhakmjglaaDoor.StoreP
