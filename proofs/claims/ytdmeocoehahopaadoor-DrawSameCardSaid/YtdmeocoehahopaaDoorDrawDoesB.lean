/- draw's law: does: one call of a stream. -/
import Derived.Test.YtdmeocoehahopaaDoorBunG8
namespace Go.Proofs.YtdmeocoehahopaaDoor.Draw
open Go.RowKit Go.Proofs.YtdmeocoehahopaaDoorW.PrintWords Go.Proofs.YtdmeocoehahopaaDoorW.PrintLast Go.Proofs.YtdmeocoehahopaaDoorW.PrintMore Go.Proofs.YtdmeocoehahopaaDoor.K Go.Proofs.YtdmeocoehahopaaDoor.Sha Go.Proofs.YtdmeocoehahopaaDoor.Codec Go.Proofs.YtdmeocoehahopaaDoor.RI Go.Proofs.YtdmeocoehahopaaDoor.Ten Go.Proofs.YtdmeocoehahopaaDoor.Top Go.Proofs.YtdmeocoehahopaaDoor.Fixed
set_option linter.unusedVariables false
set_option linter.unusedSimpArgs false
/-- A call: which one, a number, numbers. -/
abbrev Opr := Int × Int × List Int
abbrev kOp : Kd Opr := Kd.pair (Kd.int .i64) (Kd.pair (Kd.int .i64) (Kd.slice 3 (Kd.int .i64)))
theorem addr_succ (ad : Addr) (j : Nat) : ad.add (j + 1) = ⟨(ad.add j).block, (ad.add j).off + 1, none⟩ := by
  unfold Addr.add
  by_cases h : j = 0
  · subst h; simp
  · simp [h, Nat.add_assoc]
theorem op_at {w : World} {A : Option Addr} {n : Nat} {xs : List Opr} (h : Kd.C kOp w A n xs) (i : Nat) (h1 : i < n) :
    ∃ ad A1 c1, A = some ad ∧ w.cell? (ad.add (i * 3)) = some (.int .i64 (xs.getD i (0, 0, [])).1) ∧ w.cell? ⟨(ad.add (i * 3)).block, (ad.add (i * 3)).off + 1, none⟩ = some (.int .i64 (xs.getD i (0, 0, [])).2.1) ∧ w.cell? ⟨(ad.add (i * 3)).block, (ad.add (i * 3)).off + 2, none⟩ = some (.slice A1 (xs.getD i (0, 0, [])).2.2.length c1) ∧ (xs.getD i (0, 0, [])).2.2.length ≤ c1 ∧ Kd.C (Kd.int .i64) w A1 (xs.getD i (0, 0, [])).2.2.length (xs.getD i (0, 0, [])).2.2 := by
  obtain ⟨ad, c, e, _, hK, hc0⟩ := Kd.C_get h ((0, 0, []) : Opr) i (by omega) (by omega)
  have hc : ∀ j u, c[j]? = some u → w.cell? (ad.add (i * 3 + j)) = some u := hc0
  obtain ⟨c0, cr, hcs, h2, h3⟩ := hK
  obtain ⟨c1, c2, hcr, h4, h5⟩ := h3
  obtain ⟨A1, cp, h6, h7, h8⟩ := h5
  have e0 : c0 = [.int .i64 (xs.getD i (0, 0, [])).1] := h2
  have e1 : c1 = [.int .i64 (xs.getD i (0, 0, [])).2.1] := h4
  have e2 : c2 = [.slice A1 (xs.getD i (0, 0, [])).2.2.length cp] := h6
  rw [e1, e2] at hcr
  rw [e0, hcr] at hcs
  subst hcs
  have g1 : w.cell? (ad.add (i * 3 + 1)) = _ := hc 1 _ rfl
  have g2 : w.cell? (ad.add (i * 3 + 1 + 1)) = _ := hc 2 _ rfl
  rw [addr_succ, addr_succ] at g2
  rw [addr_succ] at g1
  exact ⟨ad, A1, cp, e, hc 0 _ rfl, g1, g2, h7, h8⟩
def doesR (d : List Int) (o : Opr) (c x er c' : Int) : Prop :=
  if o.1 = 0 then nextV d c x er c' else if o.1 = 1 then BelowR d o.2.1 c x er c' else if o.1 = 2 then ChooseR d o.2.2 c x er c' else PickR d o.2.2 o.2.1 c x er c'
theorem doesR_det {d : List Int} {o : Opr} {c x er c' y er2 c2 : Int} (h : doesR d o c x er c') (k : doesR d o c y er2 c2) : x = y ∧ er = er2 ∧ c' = c2 := by
  have tri : ∀ {p : Int × Int × Int}, p = (x, er, c') → p = (y, er2, c2) → x = y ∧ er = er2 ∧ c' = c2 := fun h1 h2 => by
    have := h1.symm.trans h2
    simp only [Prod.mk.injEq] at this
    exact this
  unfold doesR at h k
  split at h
  · rename_i h0
    rw [if_pos h0] at k
    unfold nextV at h k
    split at h
    · rename_i h1
      rw [if_pos h1] at k
      omega
    · rename_i h1
      rw [if_neg h1] at k
      omega
  · rename_i h0
    rw [if_neg h0] at k
    split at h
    · rename_i h1
      rw [if_pos h1] at k
      exact tri h k
    · rename_i h1
      rw [if_neg h1] at k
      split at h
      · rename_i h2
        rw [if_pos h2] at k
        exact tri h k
      · rename_i h2
        rw [if_neg h2] at k
        exact tri h k
theorem pickV_c {d l : List Int} {k c x er c' : Int} (h : pickV d l k c = (x, er, c')) (hc : c ≤ 9223372036854775807) : c ≤ c' ∧ c' ≤ c + 64 ∧ c' ≤ 9223372036854775807 := by
  by_cases h0 : checkV l = 0
  · by_cases h1 : k < 1 ∨ (l.length : Int) < k
    · rw [pickV_range h0 h1] at h
      simp only [Prod.mk.injEq] at h
      omega
    · by_cases h2 : k = 1
      · subst h2
        rw [pickV_one h0] at h
        simp only [Prod.mk.injEq] at h
        omega
      · obtain ⟨kn, rfl⟩ : ∃ kn : Nat, k = (kn : Int) := ⟨k.toNat, by omega⟩
        obtain ⟨y, e2, c2, hcv⟩ : ∃ y e2 c2, chooseV d (softV (ownL l kn)) c = (y, e2, c2) := ⟨_, _, _, rfl⟩
        rw [pickV_more h0 (by omega) (by omega) hcv] at h
        simp only [Prod.mk.injEq] at h
        have := chooseV_c hcv hc
        omega
  · rw [pickV_bad h0] at h
    simp only [Prod.mk.injEq] at h
    omega
theorem doesR_c {d : List Int} {o : Opr} {c x er c' : Int} (h : doesR d o c x er c') (hc : c ≤ 9223372036854775807) : c ≤ c' ∧ c' ≤ c + 64 ∧ c' ≤ 9223372036854775807 := by
  unfold doesR at h
  split at h
  · unfold nextV at h
    split at h <;> omega
  · split at h
    · have := belowV_c h hc
      omega
    · split at h
      · have := chooseV_c h hc
        omega
      · exact pickV_c h hc
theorem BackEnd.start {B g : Nat} {d : List Int} {c : Int} {R : Int → Int → Int → Prop} {w0 w w' : World} {e : Ending} (h : BackEnd B g d c R w e w') (hb : Below w0.heap.size w0 w) (hB : B ≤ w0.heap.size) : BackEnd B g d c R w0 e w' := by
  obtain ⟨x, er, c', hR, ⟨h0, he, hm⟩ | ⟨h0, he, hm⟩⟩ := h
  · exact ⟨x, er, c', hR, .inl ⟨h0, he, hm.start hb hB⟩⟩
  · exact ⟨x, er, c', hR, .inr ⟨h0, he, hm.start hb hB⟩⟩
theorem back_form {B g : Nat} {d : List Int} {c : Int} {R : Int → Int → Int → Prop} {w w' : World} {e : Ending} (h : BackEnd B g d c R w e w') : ∃ x er, e = .returned (.tuple #[.int .i64 x, .int .i64 er]) := by
  obtain ⟨x, er, c', hR, ⟨h0, he, hm⟩ | ⟨h0, he, hm⟩⟩ := h
  · exact ⟨_, _, he⟩
  · exact ⟨_, _, he⟩
theorem back_R {B g : Nat} {d : List Int} {c : Int} {R S : Int → Int → Int → Prop} {w w' : World} {e : Ending} (h : BackEnd B g d c R w e w') (hRS : ∀ x er c', R x er c' → S x er c') : BackEnd B g d c S w e w' := by
  obtain ⟨x, er, c', hR, hh⟩ := h
  exact ⟨x, er, c', hRS _ _ _ hR, hh⟩
set_option maxHeartbeats 8000000 in
set_option maxRecDepth 100000 in
theorem does_calls (d : List Int) (ask n : Int) (A : Option Addr) (cc : Nat) (l : List Int) (c : Int) (g B : Nat) (w : World) (hd : d.length = 32) (hby : ∀ x ∈ d, 0 ≤ x ∧ x < 256) (hS : StrAt w g d c) (h0 : 0 ≤ c) (h1 : c ≤ 9223372036854775807) (hn : n ≤ 9223372036854775807) (hB : B ≤ g) (hBw : B ≤ w.heap.size) (hLo : Lo B w) (hL : LaidAt w 0 stepsA) (hC : Kd.C (Kd.int .i64) w A l.length l) (ho : Off g A l.length) :
    Calls Tryd.prog 23 #[.pointer (some ⟨g, 0, none⟩), .agg #[.int .i64 ask, .int .i64 n, .slice A l.length cc]] w (BackEnd B g d c (doesR d (ask, n, l) c) w) := by
  have HW : Aside0 (Below w.heap.size w (w.alloc (.cells #[.int .i64 ask, .int .i64 n, .slice A l.length cc] 50))) := ⟨bel_alloc (Below.refl _ _) _⟩
  have hbx : (w.alloc (.cells #[.int .i64 ask, .int .i64 n, .slice A l.length cc] 50)).heap[w.heap.size]? = some (.cells #[.int .i64 ask, .int .i64 n, .slice A l.length cc] 50 (0, 0)) := heap_alloc_new _ _
  have hx0 : (w.alloc (.cells #[.int .i64 ask, .int .i64 n, .slice A l.length cc] 50)).cell? ⟨w.heap.size, 0, none⟩ = some (.int .i64 ask) := blk_cell hbx 0
  have hx1 : (w.alloc (.cells #[.int .i64 ask, .int .i64 n, .slice A l.length cc] 50)).cell? ⟨w.heap.size, 1, none⟩ = some (.int .i64 n) := blk_cell hbx 1
  have hx2 : (w.alloc (.cells #[.int .i64 ask, .int .i64 n, .slice A l.length cc] 50)).cell? ⟨w.heap.size, 2, none⟩ = some (.slice A l.length cc) := blk_cell hbx 2
  have HN := Aside0.mk (fun w1 (hb : Below w.heap.size w w1) => Next_calls d c g B w1 hd hby (hS.below hb) h0 h1 hB (hLo.below (hb.mono hBw)))
  have HBl := Aside0.mk (fun w1 (hb : Below w.heap.size w w1) => Below_calls d n c g B w1 hd hby (hS.below hb) h0 h1 hn hB (hLo.below (hb.mono hBw)))
  have HCh := Aside0.mk (fun w1 (hb : Below w.heap.size w w1) => Choose_calls d A cc l c g B w1 hd hby (hS.below hb) h0 h1 hB (hLo.below (hb.mono hBw)) (Kd.C_below hC hb) ho)
  have HPk := Aside0.mk (fun w1 (hb : Below w.heap.size w w1) => Pick_calls d A cc l n c g B w1 hd hby (hS.below hb) h0 h1 hB (Nat.le_trans hBw hb.size) (hLo.below (hb.mono hBw)) (hL.below hb) (Kd.C_below hC hb))
  have HBw := Aside0.mk hBw
  clear hbx hd hby hS h0 h1 hn hB hBw hLo hL hC ho
  by_cases a0 : ask = 0
  · subst a0
    have HR : Aside0 (∀ x er c', nextV d c x er c' → doesR d (0, n, l) c x er c') := ⟨fun x er c' h => by unfold doesR; rw [if_pos rfl]; exact h⟩
    go_enter Tryd.func23, Tryd.ntmps23
    go_wp2_with (fail)
    refine (HN.out _ HW.out).mono ?_
    rintro e w1 hh
    obtain ⟨x, er, rfl⟩ := back_form hh
    have HH := Aside0.mk (back_R (hh.start HW.out HBw.out) HR.out)
    clear hh
    go_wp2
    go_ret2
    exact HH.out
  · have d0 : (ask == 0) = false := by simpa using a0
    by_cases a1 : ask = 1
    · subst a1
      have HR : Aside0 (∀ x er c', BelowR d n c x er c' → doesR d (1, n, l) c x er c') := ⟨fun x er c' h => by unfold doesR; rw [if_neg (show ¬ ((1 : Int) = 0) by decide), if_pos rfl]; exact h⟩
      clear d0 a0
      go_enter Tryd.func23, Tryd.ntmps23
      go_wp2_with (fail)
      refine (HBl.out _ HW.out).mono ?_
      rintro e w1 hh
      obtain ⟨x, er, rfl⟩ := back_form hh
      have HH := Aside0.mk (back_R (hh.start HW.out HBw.out) HR.out)
      clear hh
      go_wp2
      go_ret2
      exact HH.out
    · have d1 : (ask == 1) = false := by simpa using a1
      by_cases a2 : ask = 2
      · subst a2
        have HR : Aside0 (∀ x er c', ChooseR d l c x er c' → doesR d (2, n, l) c x er c') := ⟨fun x er c' h => by unfold doesR; rw [if_neg (show ¬ ((2 : Int) = 0) by decide), if_neg (show ¬ ((2 : Int) = 1) by decide), if_pos rfl]; exact h⟩
        clear d0 d1 a0 a1
        go_enter Tryd.func23, Tryd.ntmps23
        go_wp2_with (fail)
        refine (HCh.out _ HW.out).mono ?_
        rintro e w1 hh
        obtain ⟨x, er, rfl⟩ := back_form hh
        have HH := Aside0.mk (back_R (hh.start HW.out HBw.out) HR.out)
        clear hh
        go_wp2
        go_ret2
        exact HH.out
      · have d2 : (ask == 2) = false := by simpa using a2
        have HR : Aside0 (∀ x er c', PickR d l n c x er c' → doesR d (ask, n, l) c x er c') := ⟨fun x er c' h => by unfold doesR; rw [if_neg a0, if_neg a1, if_neg a2]; exact h⟩
        clear a0 a1 a2
        go_enter Tryd.func23, Tryd.ntmps23
        go_wp2_with (fail)
        refine (HPk.out _ HW.out).mono ?_
        rintro e w1 hh
        obtain ⟨x, er, rfl⟩ := back_form hh
        have HH := Aside0.mk (back_R (hh.start HW.out HBw.out) HR.out)
        clear hh
        go_wp2
        go_ret2
        exact HH.out
end Go.Proofs.YtdmeocoehahopaaDoor.Draw
