/- tensor: Mul: a matrix times a vector. -/
import Derived.Test.YtfameghednapkaaDoorTenEachB
import Derived.Test.YtfameghednapkaaDoorTenRowB
import Derived.Test.YtfameghednapkaaDoorBunT3
namespace Go.Proofs.YtfameghednapkaaDoor.Ten
open Go.RowKit Go.Proofs.YtfameghednapkaaDoorW.PrintWords Go.Proofs.YtfameghednapkaaDoorW.PrintLast Go.Proofs.YtfameghednapkaaDoorW.PrintMore Go.Proofs.YtfameghednapkaaDoor.K Go.Proofs.YtfameghednapkaaDoor.RI Go.Proofs.YtfameghednapkaaDoor.Fixed
set_option linter.unusedVariables false
set_option linter.unusedSimpArgs false
theorem mat_cells {W : World} {g : Nat} {x y z : Value} (h : W.heap[g]? = some (.cells #[x, y, z] 36 (0, 0))) : W.cell? ⟨g, 0, none⟩ = some x ∧ W.cell? ⟨g, 1, none⟩ = some y ∧ W.cell? ⟨g, 2, none⟩ = some z :=
  ⟨blk_cell h 0, blk_cell h 1, blk_cell h 2⟩
def MulF (rows cols : Int) (A : Option Addr) (c : Nat) (l : List Int) (Av : Option Addr) (cv : Nat) (vv : List Int) (ix : Int) (iv : Nat) (xv : Value) (W : World) : Prop := match iv with
  | 0 => xv = .agg #[.int .i64 rows, .int .i64 cols, .slice A l.length c]
  | 1 => xv = .int .i64 ix
  | 2 => ∃ A' c', xv = .slice A' (rowL cols l ix).length c' ∧ Kd.C (Kd.int .i64) W A' (rowL cols l ix).length (rowL cols l ix)
  | 3 => xv = .slice Av vv.length cv
  | 4 => xv = .tuple #[.int .i64 (dotV (rowL cols l ix) vv).1, .int .i64 (dotV (rowL cols l ix) vv).2]
  | 5 => xv = .int .i64 (dotV (rowL cols l ix) vv).1
  | 6 => xv = .int .i64 (dotV (rowL cols l ix) vv).2
  | 7 => xv = .int .i64 (dotV (rowL cols l ix) vv).1
  | 8 => xv = .int .i64 (dotV (rowL cols l ix) vv).2
  | _ => True
theorem MulF.step (rows cols : Int) (A : Option Addr) (c : Nat) (l : List Int) (Av : Option Addr) (cv : Nat) (vv : List Int) (ix : Int) (i_ : Nat) (x : Value) (W W' : World) (hb : Below W.heap.size W W') (h : MulF rows cols A c l Av cv vv ix i_ x W) : MulF rows cols A c l Av cv vv ix i_ x W' := by
  unfold MulF at *
  split <;> simp only at h ⊢
  · exact h
  · exact h
  · obtain ⟨A', c', e, h⟩ := h; exact ⟨A', c', e, Kd.C_below h hb⟩
  · exact h
  · exact h
  · exact h
  · exact h
  · exact h
  · exact h
set_option maxHeartbeats 4000000 in
set_option maxRecDepth 100000 in
theorem mul1_calls (rows cols : Int) (A : Option Addr) (c : Nat) (l : List Int) (Av : Option Addr) (cv : Nat) (vv : List Int) (i : Int) (Bm Bv : Nat) (w : World) (hC : Kd.C (Kd.int .i64) w A l.length l) (hc : l.length ≤ c) (hm : mV rows cols l = 0) (hi0 : 0 ≤ i) (hi1 : i < rows) (hV : Kd.C (Kd.int .i64) w Av vv.length vv)
    (hbm : w.heap[Bm]? = some (.cells #[.int .i64 rows, .int .i64 cols, .slice A l.length c] 36 (0, 0))) (hbv : w.heap[Bv]? = some (.cells #[.slice Av vv.length cv] 22 (0, 0))) :
    Calls Tryd.prog 49 #[.int .i64 i, .pointer (some ⟨Bm, 0, none⟩), .pointer (some ⟨Bv, 0, none⟩)] w fun e w' => e = .returned (.tuple #[.int .i64 (dotV (rowL cols l i) vv).1, .int .i64 (dotV (rowL cols l i) vv).2]) ∧ Below w.heap.size w w' := by
  have HM := Aside0.mk hbm
  have HV := Aside0.mk hbv
  have HVC := Aside0.mk hV
  have HRow : Aside0 (∀ W, Below w.heap.size w W → Calls Tryd.prog 47 #[.agg #[.int .i64 rows, .int .i64 cols, .slice A l.length c], .int .i64 i] W fun e w' => ∃ A' c', e = .returned (.slice A' (rowL cols l i).length c') ∧ Kd.C (Kd.int .i64) w' A' (rowL cols l i).length (rowL cols l i) ∧ (rowL cols l i).length ≤ c' ∧ Below W.heap.size W w') := ⟨fun W hb => row_calls rows cols i A c l W (Kd.C_below hC hb) hc hm hi0 hi1⟩
  clear hC hc hm hi0 hi1 hV hbm hbv
  go_enter Tryd.func49, Tryd.ntmps49
  go_upto_region 1 with (fail)
  refine wp_region_fin [false, false, false, false, true, true, true, true, true, true, true, true, true] (by kernel_rfl) (by kernel_rfl) (fun W => Below w.heap.size w W) (fun W W' => Below W.heap.size W W') (MulF rows cols A c l Av cv vv i) (fun iv xv W W' _ hb h => MulF.step rows cols A c l Av cv vv i iv xv W W' hb h) (below_drew (Below.refl _ _)) ?_ ?_
  · refine ⟨?_, ?_, ?_, ?_, ?_, ?_, ?_, ?_, ?_, trivial⟩
    · intro v W hb hd
      obtain ⟨hc0, hc1, hc2⟩ := mat_cells ((hb.block _ (blk_lt HM.out)).trans HM.out)
      refine step_list fun K hK => ?_
      simp only [fill_lit, fillL, Act.put, List.setIfInBounds_toArray, List.set_cons_zero, List.set_cons_succ, Nat.reduceAdd] at hK ⊢
      clear hd
      go_wp2
      exact ⟨hb, Below.refl _ _, rfl⟩
    · intro v W hb hd
      refine step_list fun K hK => ?_
      simp only [fill_lit, fillL, Act.put, List.setIfInBounds_toArray, List.set_cons_zero, List.set_cons_succ, Nat.reduceAdd] at hK ⊢
      clear hd
      go_wp2
      exact ⟨hb, Below.refl _ _, rfl⟩
    · intro v W hb hd
      have h0 : v 6 = .agg #[.int .i64 rows, .int .i64 cols, .slice A l.length c] := hd 0 (by kernel_rfl)
      have h1 : v 7 = .int .i64 i := hd 1 (by kernel_rfl)
      refine step_list fun K hK => ?_
      simp only [fill_lit, fillL, Act.put, List.setIfInBounds_toArray, List.set_cons_zero, List.set_cons_succ, Nat.reduceAdd] at hK ⊢
      rw [h0, h1] at hK ⊢
      clear hd h0 h1
      go_wp2_with (fail)
      refine (HRow.out W hb).mono ?_
      rintro e W' ⟨A', c', rfl, hC', _, hb'⟩
      have HB' := Aside0.mk hb'
      have HC' := Aside0.mk hC'
      clear hb' hC'
      go_wp2_with (fail)
      exact ⟨below_step hb HB'.out, HB'.out, A', c', rfl, HC'.out⟩
    · intro v W hb hd
      have hcv := blk_cell ((hb.block _ (blk_lt HV.out)).trans HV.out) 0
      simp only [List.getElem?_toArray, List.getElem?_cons_zero] at hcv
      refine step_list fun K hK => ?_
      simp only [fill_lit, fillL, Act.put, List.setIfInBounds_toArray, List.set_cons_zero, List.set_cons_succ, Nat.reduceAdd] at hK ⊢
      clear hd
      go_wp2
      exact ⟨hb, Below.refl _ _, rfl⟩
    · intro v W hb hd
      obtain ⟨A', c', h2, hC'⟩ := hd 2 (by kernel_rfl)
      replace h2 : v 8 = .slice A' (rowL cols l i).length c' := h2
      have HC' := Aside0.mk hC'
      have h3 : v 9 = .slice Av vv.length cv := hd 3 (by kernel_rfl)
      refine step_list fun K hK => ?_
      simp only [fill_lit, fillL, Act.put, List.setIfInBounds_toArray, List.set_cons_zero, List.set_cons_succ, Nat.reduceAdd] at hK ⊢
      rw [h2, h3] at hK ⊢
      clear hd h2 h3 hC'
      go_wp2_with (fail)
      refine (dot_calls A' Av c' cv (rowL cols l i) vv W HC'.out (Kd.C_below HVC.out hb)).mono ?_
      rintro e W' ⟨rfl, hb'⟩
      have HB' := Aside0.mk hb'
      clear hb'
      go_wp2_with (fail)
      exact ⟨below_step hb HB'.out, HB'.out, rfl⟩
    · intro v W hb hd
      have h4 : v 10 = .tuple #[.int .i64 (dotV (rowL cols l i) vv).1, .int .i64 (dotV (rowL cols l i) vv).2] := hd 4 (by kernel_rfl)
      refine step_list fun K hK => ?_
      simp only [fill_lit, fillL, Act.put, List.setIfInBounds_toArray, List.set_cons_zero, List.set_cons_succ, Nat.reduceAdd] at hK ⊢
      rw [h4] at hK ⊢
      clear hd h4
      go_wp2
      exact ⟨hb, Below.refl _ _, rfl⟩
    · intro v W hb hd
      have h4 : v 10 = .tuple #[.int .i64 (dotV (rowL cols l i) vv).1, .int .i64 (dotV (rowL cols l i) vv).2] := hd 4 (by kernel_rfl)
      refine step_list fun K hK => ?_
      simp only [fill_lit, fillL, Act.put, List.setIfInBounds_toArray, List.set_cons_zero, List.set_cons_succ, Nat.reduceAdd] at hK ⊢
      rw [h4] at hK ⊢
      clear hd h4
      go_wp2
      exact ⟨hb, Below.refl _ _, rfl⟩
    · intro v W hb hd
      have h5 : v 11 = .int .i64 (dotV (rowL cols l i) vv).1 := hd 5 (by kernel_rfl)
      refine step_list fun K hK => ?_
      simp only [fill_lit, fillL, Act.put, List.setIfInBounds_toArray, List.set_cons_zero, List.set_cons_succ, Nat.reduceAdd] at hK ⊢
      rw [h5] at hK ⊢
      clear hd h5
      go_wp2
      exact ⟨hb, Below.refl _ _, rfl⟩
    · intro v W hb hd
      have h6 : v 12 = .int .i64 (dotV (rowL cols l i) vv).2 := hd 6 (by kernel_rfl)
      refine step_list fun K hK => ?_
      simp only [fill_lit, fillL, Act.put, List.setIfInBounds_toArray, List.set_cons_zero, List.set_cons_succ, Nat.reduceAdd] at hK ⊢
      rw [h6] at hK ⊢
      clear hd h6
      go_wp2
      exact ⟨hb, Below.refl _ _, rfl⟩
  · intro v W hb hF
    have h7 : v 4 = .int .i64 (dotV (rowL cols l i) vv).1 := hF 7 (of_decide_eq_true (by kernel_rfl))
    have h8 : v 5 = .int .i64 (dotV (rowL cols l i) vv).2 := hF 8 (of_decide_eq_true (by kernel_rfl))
    simp only [fill_lit, fillL, Nat.reduceAdd]
    rw [h7, h8]
    clear hF h7 h8
    go_wp2
    go_ret2
    exact ⟨rfl, hb⟩
end Go.Proofs.YtfameghednapkaaDoor.Ten
