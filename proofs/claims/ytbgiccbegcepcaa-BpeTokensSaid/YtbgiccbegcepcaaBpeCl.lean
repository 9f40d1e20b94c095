/- slices.Clone of pairs makes a row of the same pairs; a pair of a row. -/
import Derived.Test.YtbgiccbegcepcaaBpeCod
namespace Go.Proofs.Ytbgiccbegcepcaa.Bpe
open Go.RowKit Go.Proofs.YtbgiccbegcepcaaW.PrintWords Go.Proofs.YtbgiccbegcepcaaW.PrintLast Go.Proofs.YtbgiccbegcepcaaW.PrintMore Go.Proofs.Ytbgiccbegcepcaa.K
set_option linter.unusedVariables false
theorem addr_succ (ad : Addr) (j : Nat) : ad.add (j + 1) = ⟨(ad.add j).block, (ad.add j).off + 1, none⟩ := by
  unfold Addr.add
  by_cases h : j = 0
  · subst h; simp
  · simp [h, Nat.add_assoc]
theorem pair_at {w : World} {A : Option Addr} {n : Nat} {xs : List Pr} (h : Kd.C kP w A n xs) (i : Nat) (h1 : i < n) :
    ∃ ad, A = some ad ∧ w.cell? (ad.add (i * 2)) = some (.int .i64 (xs.getD i (0, 0)).1) ∧ w.cell? ⟨(ad.add (i * 2)).block, (ad.add (i * 2)).off + 1, none⟩ = some (.int .i64 (xs.getD i (0, 0)).2) := by
  obtain ⟨ad, c, e, _, hK, hc0⟩ := Kd.C_get h ((0, 0) : Pr) i (by omega) (by omega)
  have hc : ∀ j u, c[j]? = some u → w.cell? (ad.add (i * 2 + j)) = some u := hc0
  obtain ⟨c0, c1, hcs, h2, h3⟩ := hK
  have e0 : c0 = [.int .i64 (xs.getD i (0, 0)).1] := h2
  have e1 : c1 = [.int .i64 (xs.getD i (0, 0)).2] := h3
  rw [e0, e1] at hcs
  subst hcs
  refine ⟨ad, e, hc 0 _ rfl, ?_⟩
  have h2 : w.cell? (ad.add (i * 2 + 1)) = some (.int .i64 (xs.getD i (0, 0)).2) := hc 1 _ rfl
  rwa [addr_succ] at h2
set_option maxHeartbeats 400000 in
theorem clonep_calls (A : Option Addr) (n c : Nat) (l : List Pr) (w : World) (hr0 : Kd.C kP w A n l) (hb : n ≤ 1000000) :
    Calls Try.prog 21 #[.slice A n c] w fun e w' => ∃ v0_ : Value, e = .returned (v0_) ∧ Kd.R kP 44 w' w.heap.size (fun _ => True) v0_ l ∧ Below w.heap.size w w' := by
  have HR0 := Aside0.mk hr0
  have HN := Aside0.mk (C_len hr0)
  have HL := Aside0.mk hb
  clear hr0 hb
  cases A with
  | none =>
    have h0 : l = [] := by
      have h1 := HR0.out
      have h2 := HN.out
      rcases Nat.eq_zero_or_pos n with h | h
      · exact List.eq_nil_of_length_eq_zero (by omega)
      · obtain ⟨_, h3, _⟩ := h1.2.2 h
        cases h3
    subst h0
    have hnil := fun (w : World) => Lib.run_eql_slice_nil (P := Try.prog) w 23 44 none n c 0 0 Try.underlying23
    go_enter Try.func21, Try.ntmps21
    go_wp2
    go_ret
    exact ⟨_, rfl, Kd.R_nil _ _ _ _ _, Below.refl _ _⟩
  | some a =>
    have hnil := fun (w : World) => Lib.run_eql_slice_nil (P := Try.prog) w 23 44 (some a) n c 0 0 Try.underlying23
    have HO : Aside0 (kP.R 44 (w.alloc (.cells #[] 44)) w.heap.size (fun _ => True) (.slice (some ⟨w.heap.size, 0, none⟩) 0 0) []) :=
      ⟨⟨fun _ _ => trivial, [], ⟨rfl, .inr ⟨w.heap.size, 0, #[], rfl, Nat.le_refl _, heap_alloc_new _ _, Nat.le_refl _, Nat.zero_le _, rfl, rfl⟩⟩, ⟨rfl, fun j p hj => by simp at hj⟩⟩⟩
    have HRw := Aside0.mk (Kd.C_below HR0.out (bel_alloc (Below.refl w.heap.size w) (.cells #[] 44)))
    go_enter Try.func21, Try.ntmps21
    go_wp2_with (at_builtin; refine Kd.R_append_rows kP (w0 := w) w.heap.size rfl (.tmp 5) (.tmp 6) 23 44 (.agg #[.int .i64 0, .int .i64 0]) 16 rfl Try.underlying23 info_pr rfl (by decide) (by decide) (.slice (some ⟨w.heap.size, 0, none⟩) 0 0) [] l (some a) n c (fun _ => True) (fun k => True ∧ some k ≠ (Value.slice (some ⟨w.heap.size, 0, none⟩) 0 0).ownBlock) rfl rfl HO.out HRw.out (fun x cs h => h) (fun _ hk => hk) (fun _ _ => trivial) (bel_alloc (Below.refl _ _) _) (bel_size (Below.refl _ _) _) (by have := HL.out; simp; omega) ?_; intro v1 w1 ho hb hg hat; have HO1 := Aside0.mk ho; have HB1 := Aside0.mk hb; clear ho hb hg hat)
    go_ret
    exact ⟨_, rfl, HO1.out, HB1.out⟩
end Go.Proofs.Ytbgiccbegcepcaa.Bpe
