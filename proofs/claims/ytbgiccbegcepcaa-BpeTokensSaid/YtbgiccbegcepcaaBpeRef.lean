/- bpe's reference: a coder in the world; strings. -/
import Derived.Test.YtbgiccbegcepcaaBpeMd
namespace Go.Proofs.Ytbgiccbegcepcaa.Bpe
open Go.RowKit Go.Proofs.YtbgiccbegcepcaaW.PrintWords Go.Proofs.YtbgiccbegcepcaaW.PrintLast Go.Proofs.YtbgiccbegcepcaaW.PrintMore Go.Proofs.Ytbgiccbegcepcaa.K
set_option linter.unusedVariables false
set_option linter.unusedSimpArgs false
theorem info_str : (Try.prog.info? 9).map (fun i => (i.zero, i.size, i.bytes)) = some (some (.string ⟨#[]⟩), 1, 16) := by kernel_rfl
theorem info_p2 : (Try.prog.info? 50).map (fun i => (i.zero, i.size, i.bytes)) = some (some (.agg #[.int .i64 0, .int .i64 0]), 2, 16) := by kernel_rfl
abbrev kS : Kd (List Int) := Kd.iso Kd.string strOfNums
theorem str_at {w : World} {A : Option Addr} {n : Nat} {xs : List (List Int)} (h : Kd.C kS w A n xs) (i : Nat) (h1 : i < n) :
    ∃ ad, A = some ad ∧ w.cell? (ad.add i) = some (.string (strOfNums (xs.getD i []))) := by
  obtain ⟨ad, c, e, _, hK, hc0⟩ := Kd.C_get h ([] : List Int) i (by omega) (by omega)
  have hc : ∀ j u, c[j]? = some u → w.cell? (ad.add (i * 1 + j)) = some u := hc0
  have e0 : c = [.string (strOfNums (xs.getD i []))] := hK
  subst e0
  exact ⟨ad, e, by have := hc 0 _ rfl; rwa [Nat.mul_one, Nat.add_zero] at this⟩
theorem str_append (a b : List Int) : strOfNums a ++ strOfNums b = strOfNums (a ++ b) := by
  apply ByteArray.ext
  rw [ByteArray.data_append]
  simp [strOfNums]
theorem str_inj {a b : List Int} (ha : ∀ x ∈ a, 0 ≤ x ∧ x < 256) (hb : ∀ x ∈ b, 0 ≤ x ∧ x < 256) (h : strOfNums a = strOfNums b) : a = b := by
  have h1 : a.map (fun n => UInt8.ofNat n.toNat) = b.map (fun n => UInt8.ofNat n.toNat) := by
    have := congrArg (fun s => s.data.toList) h
    simpa [strOfNums] using this
  have hl : a.length = b.length := by simpa using congrArg List.length h1
  refine List.ext_getElem hl fun i h2 h3 => ?_
  have h4 := congrArg (fun l => l[i]?) h1
  simp only [List.getElem?_map, List.getElem?_eq_getElem h2, List.getElem?_eq_getElem h3, Option.map_some, Option.some.injEq] at h4
  have h5 := congrArg UInt8.toNat h4
  have ha' := ha _ (List.getElem_mem h2)
  have hb' := hb _ (List.getElem_mem h3)
  simp only [UInt8.toNat_ofNat'] at h5
  omega
/-- The reference's coder in a block. -/
def RefAt (W : World) (B g : Nat) (vt vp : Value) (T : List (List Int)) (ps : List Pr) (n : Int) : Prop :=
  B ≤ g ∧ W.heap[g]? = some (.cells #[vt, vp, .int .i64 n] 35 (0, 0)) ∧ kS.R 9 W B (fun _ => True) vt T ∧ kP.R 50 W B (fun _ => True) vp ps
section
variable {W W1 : World} {B g : Nat} {vt vp : Value} {T : List (List Int)} {ps : List Pr} {n : Int}
theorem typ_S (q : Nat) (hq : q ∈ 9 :: kS.E) : q = 9 := by
  simpa [kS, Kd.iso, Kd.string, Kd.scalar] using hq
theorem typ_Q (q : Nat) (hq : q ∈ 50 :: kP.E) : q = 50 := by
  simpa [kP, Kd.pair, Kd.int, Kd.scalar] using hq
theorem RefAt.move (h : RefAt W B g vt vp T ps n) (hm : ∀ k, B ≤ k → k < W.heap.size → W1.heap[k]? = W.heap[k]?) : RefAt W1 B g vt vp T ps n :=
  ⟨h.1, (hm g h.1 (blk_lt h.2.1)).trans h.2.1, R_from h.2.2.1 hm, R_from h.2.2.2 hm⟩
theorem RefAt.below (h : RefAt W B g vt vp T ps n) (hb : Below W.heap.size W W1) : RefAt W1 B g vt vp T ps n := h.move (fun k _ hk => hb.block k hk)
theorem RefAt.drawn (h : RefAt W B g vt vp T ps n) (hd : Drawn0 W W1) : RefAt W1 B g vt vp T ps n := by
  obtain ⟨m, rfl⟩ := hd
  exact h.move (fun _ _ _ => rfl)
theorem RefAt.laidT (h : RefAt W B g vt vp T ps n) {v1 : Value} {T1 : List (List Int)} (hg : W.grownBy W1 vt.ownBlock) (hr : kS.R 9 W1 B (fun _ => True) v1 T1) :
    W1.heap[g]? = some (.cells #[vt, vp, .int .i64 n] 35 (0, 0)) ∧ RefAt (W1.setCell ⟨g, 0, none⟩ v1) B g v1 vp T1 ps n := by
  have h2 := blk_grown h.2.1 hg (Kd.R_ne h.2.2.1 h.2.1 (by decide))
  refine ⟨h2, h.1, blk_set h2 0 v1, Kd.R_set hr h2 (fun q hq => by rw [typ_S q hq]; decide) _ _, ?_⟩
  have h3 : kP.R 50 W1 B (fun _ => True) vp ps := Kd.R_mono (Kd.R_step (Kd.R_bound h.2.2.2) (fun k hk hl => hg.block k hl (fun e => by
    obtain ⟨_, _, _, q, hq, cells, hc⟩ := hk
    obtain ⟨cells', hc'⟩ := own_obj h.2.2.1 k e.symm
    rw [hc, typ_Q q hq] at hc'
    injection hc' with hc'
    injection hc' with _ hc'
    exact absurd hc' (by decide)))) (fun _ _ => trivial)
  exact Kd.R_set h3 h2 (fun q hq => by rw [typ_Q q hq]; decide) _ _
theorem RefAt.laidP (h : RefAt W B g vt vp T ps n) {v1 : Value} {ps1 : List Pr} (hg : W.grownBy W1 vp.ownBlock) (hr : kP.R 50 W1 B (fun _ => True) v1 ps1) :
    W1.heap[g]? = some (.cells #[vt, vp, .int .i64 n] 35 (0, 0)) ∧ RefAt (W1.setCell ⟨g, 1, none⟩ v1) B g vt v1 T ps1 n := by
  have h2 := blk_grown h.2.1 hg (Kd.R_ne h.2.2.2 h.2.1 (by decide))
  refine ⟨h2, h.1, blk_set h2 1 v1, ?_, Kd.R_set hr h2 (fun q hq => by rw [typ_Q q hq]; decide) _ _⟩
  have h3 : kS.R 9 W1 B (fun _ => True) vt T := Kd.R_mono (Kd.R_step (Kd.R_bound h.2.2.1) (fun k hk hl => hg.block k hl (fun e => by
    obtain ⟨_, _, _, q, hq, cells, hc⟩ := hk
    obtain ⟨cells', hc'⟩ := own_obj h.2.2.2 k e.symm
    rw [hc, typ_S q hq] at hc'
    injection hc' with hc'
    injection hc' with _ hc'
    exact absurd hc' (by decide)))) (fun _ _ => trivial)
  exact Kd.R_set h3 h2 (fun q hq => by rw [typ_S q hq]; decide) _ _
/-- A block of the coder's type that is kept while a row grows. -/
theorem cd_kept {α : Type} {d : Kd α} {e gr : Nat} {v : Value} {xs : List α} {cs : Array Value} (h : d.R e W B (fun _ => True) v xs) (hb : W.heap[gr]? = some (.cells cs 35 (0, 0))) (hne : e ≠ 35) (hg : W.grownBy W1 v.ownBlock) : W1.heap[gr]? = some (.cells cs 35 (0, 0)) :=
  blk_grown hb hg (Kd.R_ne h hb hne)
end
end Go.Proofs.Ytbgiccbegcepcaa.Bpe
