/- store: a store in the world. -/
import Derived.Test.YtpndobhakmjglaaDoorStoreSeal
namespace Go.Proofs.YtpndobhakmjglaaDoor.Store
open Go.RowKit Go.Proofs.YtpndobhakmjglaaDoorW.PrintWords Go.Proofs.YtpndobhakmjglaaDoorW.PrintLast Go.Proofs.YtpndobhakmjglaaDoorW.PrintMore Go.Proofs.YtpndobhakmjglaaDoor.K Go.Proofs.YtpndobhakmjglaaDoor.Sha
set_option linter.unusedVariables false
set_option linter.unusedSimpArgs false
theorem info_bs : (Tryd.prog.info? 22).map (fun i => (i.zero, i.size, i.bytes)) = some (some (.slice none 0 0), 1, 24) := by kernel_rfl
abbrev kB : Kd Int := Kd.int .u8
abbrev kT : Kd (List Int) := Kd.slice 5 (Kd.int .u8)
/-- A store in a block: its records, their last mark, its bytes. No record and no mark lies in the bytes' block. -/
def StAt (W : World) (B g : Nat) (vl vm vb : Value) (rs : List (List Int)) (mk bs : List Int) : Prop :=
  B ≤ g ∧ W.heap[g]? = some (.cells #[vl, vm, vb] 56 (0, 0)) ∧ kT.R 22 W B (fun k => some k ≠ vb.ownBlock) vl rs ∧ kB.R 5 W B (fun k => some k ≠ vb.ownBlock) vm mk ∧ kB.R 5 W B (fun _ => True) vb bs
/-- The blocks that a call may write: the store's, its records' row's, its bytes'. -/
def Touch (g : Nat) (vl vb : Value) (k : Nat) : Prop := k = g ∨ vl.ownBlock = some k ∨ vb.ownBlock = some k
section
variable {W W1 : World} {B g : Nat} {vl vm vb : Value} {rs : List (List Int)} {mk bs : List Int}
theorem R_from {α : Type} {d : Kd α} {e : Nat} {w w1 : World} {base : Nat} {ok : Nat → Prop} {v : Value} {xs : List α} (h : d.R e w base ok v xs) (hm : ∀ k, base ≤ k → k < w.heap.size → w1.heap[k]? = w.heap[k]?) : d.R e w1 base ok v xs :=
  Kd.R_mono (Kd.R_step (Kd.R_bound h) (fun k hk hl => hm k hk.2.1 hl)) (fun _ hk => hk.1)
theorem StAt.move (h : StAt W B g vl vm vb rs mk bs) (hm : ∀ k, B ≤ k → k < W.heap.size → W1.heap[k]? = W.heap[k]?) : StAt W1 B g vl vm vb rs mk bs :=
  ⟨h.1, (hm g h.1 (blk_lt h.2.1)).trans h.2.1, R_from h.2.2.1 hm, R_from h.2.2.2.1 hm, R_from h.2.2.2.2 hm⟩
theorem StAt.below (h : StAt W B g vl vm vb rs mk bs) (hb : Below W.heap.size W W1) : StAt W1 B g vl vm vb rs mk bs := h.move (fun k _ hk => hb.block k hk)
theorem st0 (h : StAt W B g vl vm vb rs mk bs) : W.cell? ⟨g, 0, none⟩ = some vl := blk_cell h.2.1 0
theorem st1 (h : StAt W B g vl vm vb rs mk bs) : W.cell? ⟨g, 1, none⟩ = some vm := blk_cell h.2.1 1
theorem st2 (h : StAt W B g vl vm vb rs mk bs) : W.cell? ⟨g, 2, none⟩ = some vb := blk_cell h.2.1 2
theorem stf (h : StAt W B g vl vm vb rs mk bs) (j : Nat) : W.frozen? ⟨g, j, none⟩ = false := blk_frozen h.2.1 j
theorem typ_T (q : Nat) (hq : q ∈ 22 :: kT.E) : q = 22 ∨ q = 5 := by
  simpa [kT, Kd.slice, Kd.int, Kd.scalar] using hq
theorem typ_B (q : Nat) (hq : q ∈ 5 :: kB.E) : q = 5 := by
  simpa [kB, Kd.int, Kd.scalar] using hq
theorem own_obj {α : Type} {d : Kd α} {e : Nat} {w : World} {base : Nat} {ok : Nat → Prop} {v : Value} {xs : List α} (h : d.R e w base ok v xs) (k : Nat) (hk : v.ownBlock = some k) : ∃ cells, w.heap[k]? = some (.cells cells e (0, 0)) := by
  obtain ⟨inner, ho⟩ := Kd.R_own h
  exact own_typed ho k hk
/-- The records behind an append, laid into the store with their mark. -/
theorem StAt.added (h : StAt W B g vl vm vb rs mk bs) {v1 vm1 : Value} {rs1 : List (List Int)} {mk1 : List Int} (hg : W.grownBy W1 vl.ownBlock) (hr : kT.R 22 W1 B (fun k => some k ≠ vb.ownBlock) v1 rs1) (hm : kB.R 5 W B (fun k => some k ≠ vb.ownBlock) vm1 mk1) :
    W1.heap[g]? = some (.cells #[vl, vm, vb] 56 (0, 0)) ∧ StAt ((W1.setCell ⟨g, 0, none⟩ v1).setCell ⟨g, 1, none⟩ vm1) B g v1 vm1 vb rs1 mk1 bs := by
  have h2 := blk_grown h.2.1 hg (Kd.R_ne h.2.2.1 h.2.1 (by decide))
  have h3 : (W1.setCell ⟨g, 0, none⟩ v1).heap[g]? = some (.cells #[v1, vm, vb] 56 (0, 0)) := blk_set h2 0 v1
  have hT : ∀ q, q ∈ 22 :: kT.E → q ≠ 56 := fun q hq => by rcases typ_T q hq with h | h <;> rw [h] <;> decide
  have hB : ∀ q, q ∈ 5 :: kB.E → q ≠ 56 := fun q hq => by rw [typ_B q hq]; decide
  have keep : ∀ {ok : Nat → Prop} {v : Value} {xs : List Int}, kB.R 5 W B ok v xs → kB.R 5 W1 B ok v xs := fun hh =>
    Kd.R_mono (Kd.R_step (Kd.R_bound hh) (fun k hk hl => hg.block k hl (fun e => by
      obtain ⟨_, _, _, q, hq, cells, hc⟩ := hk
      obtain ⟨cells', hc'⟩ := own_obj h.2.2.1 k e.symm
      rw [hc, typ_B q hq] at hc'
      injection hc' with hc'
      injection hc' with _ hc'
      exact absurd hc' (by decide)))) (fun _ hk => hk.1)
  exact ⟨h2, h.1, blk_set h3 1 vm1, Kd.R_set (Kd.R_set hr h2 hT _ _) h3 hT _ _, Kd.R_set (Kd.R_set (keep hm) h2 hB _ _) h3 hB _ _, Kd.R_set (Kd.R_set (keep h.2.2.2.2) h2 hB _ _) h3 hB _ _⟩
/-- The bytes behind an append, laid into the store. -/
theorem StAt.laid (h : StAt W B g vl vm vb rs mk bs) {v1 : Value} {bs1 : List Int} (hg : W.grownBy W1 vb.ownBlock) (hat : v1.ownBlock = vb.ownBlock ∨ ∃ b, v1.ownBlock = some b ∧ W.heap.size ≤ b) (hr : kB.R 5 W1 B (fun _ => True) v1 bs1) :
    W1.heap[g]? = some (.cells #[vl, vm, vb] 56 (0, 0)) ∧ StAt (W1.setCell ⟨g, 2, none⟩ v1) B g vl vm v1 rs mk bs1 := by
  have h2 := blk_grown h.2.1 hg (Kd.R_ne h.2.2.2.2 h.2.1 (by decide))
  have hT : ∀ q, q ∈ 22 :: kT.E → q ≠ 56 := fun q hq => by rcases typ_T q hq with h | h <;> rw [h] <;> decide
  have hB : ∀ q, q ∈ 5 :: kB.E → q ≠ 56 := fun q hq => by rw [typ_B q hq]; decide
  have keep : ∀ {α : Type} {d : Kd α} {e : Nat} {v : Value} {xs : List α}, d.R e W B (fun k => some k ≠ vb.ownBlock) v xs → d.R e W1 B (fun k => some k ≠ v1.ownBlock) v xs := fun hh =>
    Kd.R_mono (Kd.R_grown (Kd.R_bound hh) hg (fun k hk => hk.1)) (fun k hk => by
      rcases hat with e | ⟨b, e, hb⟩
      · rw [e]; exact hk.1
      · rw [e]; intro e2; injection e2 with e2; have := hk.2.2.1; omega)
  exact ⟨h2, h.1, blk_set h2 2 v1, Kd.R_set (keep h.2.2.1) h2 hT _ _, Kd.R_set (keep h.2.2.2.1) h2 hB _ _, Kd.R_set hr h2 hB _ _⟩
end
/-! New -/
set_option maxHeartbeats 1000000 in
theorem new_calls (w : World) :
    Calls Tryd.prog 20 #[] w fun e w' => ∃ g, e = .returned (.pointer (some ⟨g, 0, none⟩)) ∧ StAt w' w.heap.size g (.slice none 0 0) (.slice none 0 0) (.slice none 0 0) [] [] [] ∧ Below w.heap.size w w' := by
  have HB : Aside0 (Below w.heap.size w (w.alloc (.cells #[.slice none 0 0, .slice none 0 0, .slice none 0 0] 56))) := ⟨bel_alloc (Below.refl _ _) _⟩
  have HS : Aside0 (StAt (w.alloc (.cells #[.slice none 0 0, .slice none 0 0, .slice none 0 0] 56)) w.heap.size w.heap.size (.slice none 0 0) (.slice none 0 0) (.slice none 0 0) [] [] []) :=
    ⟨⟨Nat.le_refl _, heap_alloc_new _ _, Kd.R_nil _ _ _ _ _, Kd.R_nil _ _ _ _ _, Kd.R_nil _ _ _ _ _⟩⟩
  go_enter Tryd.func20, Tryd.ntmps20
  go_wp2
  go_ret
  exact ⟨_, rfl, HS.out, HB.out⟩
end Go.Proofs.YtpndobhakmjglaaDoor.Store
