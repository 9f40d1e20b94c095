/- store: noted.add. -/
import Derived.Test.YtpndobhakmjglaaDoorStorePAtB
namespace Go.Proofs.YtpndobhakmjglaaDoor.StoreP
open Go.RowKit Go.Proofs.YtpndobhakmjglaaDoorW.PrintWords Go.Proofs.YtpndobhakmjglaaDoorW.PrintLast Go.Proofs.YtpndobhakmjglaaDoorW.PrintMore Go.Proofs.YtpndobhakmjglaaDoor.K Go.Proofs.YtpndobhakmjglaaDoor.Sha Go.Proofs.YtpndobhakmjglaaDoor.Store
set_option linter.unusedVariables false
set_option linter.unusedSimpArgs false
section
variable {P : Nat → Prop} {w : World} {B g : Nat} {vl vm vb : Value} {rs : List (List Int)} {mk bs : List Int}
set_option maxHeartbeats 4000000 in
set_option maxRecDepth 100000 in
theorem add_calls (vx vk : Value) (x m : List Int) (h : StP P w B g vl vm vb rs mk bs) (hB : B ≤ w.heap.size) (hx : kB.R 5 w B (fun k => P k ∧ some k ≠ vb.ownBlock) vx x) (hm : kB.R 5 w B (fun k => P k ∧ some k ≠ vb.ownBlock) vk m) (hl : rs.length ≤ 1000000) (hP : ∀ k, w.heap.size ≤ k → P k) :
    Calls Tryd.prog 31 #[.pointer (some ⟨g, 0, none⟩), vx, vk] w fun e w' => e = .returned (.tuple #[]) ∧ (∃ v1, StP P w' B g v1 vk vb (rs ++ [x]) m bs) ∧ Below B w w' ∧ Kept w w' (Store.Touch g vl vb) := by
  obtain ⟨Al, cl, hvl⟩ := Kd.R_slice h.2.2.1
  obtain ⟨Ax, cx, hvx⟩ := Kd.R_slice hx
  obtain ⟨Ak, ck, hvk⟩ := Kd.R_slice hm
  subst hvl hvx hvk
  have HM : Aside0 (kT.M w B (fun k => (P k ∧ some k ≠ vb.ownBlock) ∧ some k ≠ (Value.slice Al rs.length cl).ownBlock) x [.slice Ax x.length cx]) := ⟨by
    refine Kd.M_row (Kd.R_mono (Kd.R_bound hx) (fun k hk => ⟨hk.1, fun e => ?_⟩))
    obtain ⟨_, _, _, q, hq, cells, hc⟩ := hk
    obtain ⟨cells', hc'⟩ := own_obj h.2.2.1 k e.symm
    rw [hc, typ_B q hq] at hc'
    injection hc' with hc'
    injection hc' with _ hc'
    exact absurd hc' (by decide)⟩
  have HFr : Aside0 (∀ k, w.heap.size ≤ k → P k ∧ some k ≠ vb.ownBlock) := ⟨fun k hk => ⟨hP k hk, Kd.fresh_ok h.2.2.2.2 k hk⟩⟩
  have HH := Aside0.mk h
  have HB := Aside0.mk hB
  have HK := Aside0.mk hm
  have HL := Aside0.mk hl
  have h0 := st0 h
  have f0 := stf h 0
  clear h hx hm hB hl hP
  go_enter Tryd.func31, Tryd.ntmps31
  go_wp2_with (at_builtin; refine Kd.R_append kT (w0 := w) (W := w) B rfl (.tmp 11) (.tmp 13) 31 22 (.slice none 0 0) 24 rfl Tryd.underlying31 info_bs rfl (by decide) (by decide) (.slice Al rs.length cl) rs x [.slice Ax x.length cx] (fun k => P k ∧ some k ≠ vb.ownBlock) (fun k => (P k ∧ some k ≠ vb.ownBlock) ∧ some k ≠ (Value.slice Al rs.length cl).ownBlock) rfl rfl HM.out (fun k hk => hk) HFr.out HH.out.2.2.1 (Below.refl _ _) HB.out (by have := HL.out; omega) ?_; intro v1 w1 ho hb hg hat; obtain ⟨A1, c1, rfl⟩ := Kd.R_slice ho; have HLd := Aside0.mk (HH.out.added hg ho HK.out); have HB1 := Aside0.mk hb; have HK1 : Aside0 (Kept w w1 (Store.Touch g (.slice Al rs.length cl) vb)) := ⟨(Kept.refl w _).of_grown hg (fun k hk => .inl (.inr (.inl hk)))⟩; have h01 : w1.cell? ⟨g, 0, none⟩ = some (.slice Al rs.length cl) := blk_cell HLd.out.1 0; have f01 : w1.frozen? ⟨g, 0, none⟩ = false := blk_frozen HLd.out.1 0; have h11 : w1.cell? ⟨g, 1, none⟩ = some vm := blk_cell HLd.out.1 1; have f11 : w1.frozen? ⟨g, 1, none⟩ = false := blk_frozen HLd.out.1 1; clear ho hb hg hat)
  go_end0
  have hS := HLd.out.2
  rw [List.length_append, List.length_singleton] at hS
  exact ⟨rfl, ⟨_, hS⟩, (HB1.out.setCell HLd.out.2.1 _).setCell HLd.out.2.1 _, (HK1.out.setCell (.inl (.inl rfl)) _).setCell (.inl (.inl rfl)) _⟩
end
end Go.Proofs.YtpndobhakmjglaaDoor.StoreP
