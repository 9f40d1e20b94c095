/- bpe: merge. -/
import Derived.Test.YtbgiccbegcepcaaBpeLeast
import Derived.Deep.LoopGhost
namespace Go.Proofs.Ytbgiccbegcepcaa.Bpe
open Go.RowKit Go.Proofs.YtbgiccbegcepcaaW.PrintWords Go.Proofs.YtbgiccbegcepcaaW.PrintLast Go.Proofs.YtbgiccbegcepcaaW.PrintMore Go.Proofs.Ytbgiccbegcepcaa.K
set_option linter.unusedVariables false
set_option linter.unusedSimpArgs false
def MergeEnd (w : World) (B gr : Nat) (l : List Int) (e : Ending) (w' : World) : Prop :=
  e = .returned (.tuple #[]) ∧ ∃ v', w'.heap[gr]? = some (.cells #[v'] 65 (0, 0)) ∧ Kd.R (Kd.int .i64) 3 w' w.heap.size (fun _ => True) v' l ∧ Below B w w' ∧ KeepBut w w' gr none
set_option maxHeartbeats 8000000 in
set_option maxRecDepth 100000 in
theorem merge_calls (B gr : Nat) (A : Option Addr) (c : Nat) (l : List Int) (x y t : Int) (w : World) (hC : Kd.C (Kd.int .i64) w A l.length l) (hr : w.heap[gr]? = some (.cells #[.slice A l.length c] 65 (0, 0))) (hB : B ≤ gr) (hlen : l.length ≤ 1000000) :
    Calls Try.prog 25 #[.pointer (some ⟨gr, 0, none⟩), .int .i64 x, .int .i64 y, .int .i64 t] w (MergeEnd w B gr (mergeL (x, y) t l)) := by
  have HC := Aside0.mk hC
  have HR := Aside0.mk hr
  have HB := Aside0.mk hB
  clear hC hr hB
  go_enter Try.func25, Try.ntmps25
  go_wp2
  go_step3
  go_wp2
  go_step3
  go_wp2_with (fail)
  go_loopw [8, 9] (fun o i wr => ∃ k : Nat, k ≤ l.length ∧ i = .int .i64 (k : Int) ∧ Aside0 (∃ es, mergeL (x, y) t l = es ++ mergeL (x, y) t (l.drop k) ∧ wr.ownsRow w.heap.size 3 1 o es.length (nums .i64 es) ∧ es.length ≤ k ∧ Below w.heap.size w wr)) (fun _ i _ => l.length - (intOf i).toNat)
  case atStart => exact ⟨0, Nat.zero_le _, rfl, ⟨⟨[], rfl, own_nil _ _ _ _, Nat.zero_le _, Below.refl _ _⟩⟩⟩
  case round =>
    obtain ⟨k, hk, rfl, HO0⟩ := hrel
    obtain ⟨es, heq, ho, hel, hbw⟩ := HO0.out
    clear HO0
    have HEq := Aside0.mk heq
    have HO := Aside0.mk ho
    have HEl := Aside0.mk hel
    have HBw := Aside0.mk hbw
    have hcg : wr.cell? ⟨gr, 0, none⟩ = some (.slice A l.length c) := blk_cell ((hbw.block _ (blk_lt HR.out)).trans HR.out) 0
    obtain ⟨A3, c3, rfl⟩ := own_slice ho
    clear heq ho hel hbw
    obtain ⟨m, hm⟩ : ∃ m : Nat, m = k + 1 := ⟨_, rfl⟩
    have hmI : (k : Int) + 1 = (m : Int) := by omega
    have HMk := Aside0.mk hm
    by_cases hlt : k < l.length
    · have HHit := Aside0.mk (merge_hit (x, y) t l k)
      have HMs := Aside0.mk (merge_miss (x, y) t l k hlt)
      obtain ⟨ad, rfl, hc0⟩ := int_at' HC.out HBw.out k hlt
      by_cases hlt2 : m < l.length
      · obtain ⟨ad', e, hc1⟩ := int_at' HC.out HBw.out m hlt2
        cases e
        rw [← hm] at HHit HMs
        clear hm
        generalize l.getD k 0 = u at *
        generalize l.getD m 0 = v at *
        by_cases hu : u = x
        · have hud : (u == x) = true := by simpa using hu
          by_cases hv : v = y
          · have hvd : (v == y) = true := by simpa using hv
            have HE : Aside0 (mergeL (x, y) t (l.drop k) = t :: mergeL (x, y) t (l.drop (k + 2))) := ⟨HHit.out hlt2 hu hv⟩
            obtain ⟨m2, hm2⟩ : ∃ m2 : Nat, m2 = k + 2 := ⟨_, rfl⟩
            have hm2I : (m : Int) + 1 = (m2 : Int) := by have := HMk.out; omega
            have HM2 := Aside0.mk hm2
            clear hu hv hm2
            go_wp2_with (at_builtin; refine print_append_num (w0 := w) w.heap.size rfl (.tmp 50) (.tmp 52) 38 3 .i64 8 rfl Try.underlying38 info_int (by decide) _ es _ rfl rfl HO.out HBw.out HBw.out.size ?_ ?_; rotate_left; intro v1 w2 hown hbw hgr hat; have HA := Aside0.mk (And.intro hown hbw); clear hown hbw hgr hat)
            · go_roundw
              case rel => exact ⟨m2, by have := HM2.out; have := HMk.out; omega, rfl, ⟨⟨es ++ [t], by rw [HEq.out, HE.out, HM2.out, List.append_assoc]; rfl, HA.out.1, by have := HEl.out; have := HM2.out; rw [List.length_append]; simp; omega, HA.out.2⟩⟩⟩
              case measure => have := HM2.out; simp [intOf]; omega
            · have := HEl.out
              omega
          · have hvd : (v == y) = false := by simpa using hv
            have HE : Aside0 (mergeL (x, y) t (l.drop k) = u :: mergeL (x, y) t (l.drop m)) := ⟨HMs.out (fun h => hv h.2.2)⟩
            clear hu hv
            go_wp2_with (at_builtin; refine print_append_num (w0 := w) w.heap.size rfl (.tmp 56) (.tmp 64) 38 3 .i64 8 rfl Try.underlying38 info_int (by decide) _ es _ rfl rfl HO.out HBw.out HBw.out.size ?_ ?_; rotate_left; intro v1 w2 hown hbw hgr hat; have HA := Aside0.mk (And.intro hown hbw); clear hown hbw hgr hat)
            · go_roundw
              case rel => exact ⟨m, by omega, rfl, ⟨⟨es ++ [u], by rw [HEq.out, HE.out, List.append_assoc]; rfl, HA.out.1, by have := HEl.out; rw [List.length_append]; simp; omega, HA.out.2⟩⟩⟩
              case measure => have := HMk.out; simp [intOf]; omega
            · have := HEl.out
              omega
        · have hud : (u == x) = false := by simpa using hu
          have HE : Aside0 (mergeL (x, y) t (l.drop k) = u :: mergeL (x, y) t (l.drop m)) := ⟨HMs.out (fun h => hu h.2.1)⟩
          clear hu
          go_wp2_with (at_builtin; refine print_append_num (w0 := w) w.heap.size rfl (.tmp 56) (.tmp 64) 38 3 .i64 8 rfl Try.underlying38 info_int (by decide) _ es _ rfl rfl HO.out HBw.out HBw.out.size ?_ ?_; rotate_left; intro v1 w2 hown hbw hgr hat; have HA := Aside0.mk (And.intro hown hbw); clear hown hbw hgr hat)
          · go_roundw
            case rel => exact ⟨m, by omega, rfl, ⟨⟨es ++ [u], by rw [HEq.out, HE.out, List.append_assoc]; rfl, HA.out.1, by have := HEl.out; rw [List.length_append]; simp; omega, HA.out.2⟩⟩⟩
            case measure => have := HMk.out; simp [intOf]; omega
          · have := HEl.out
            omega
      · rw [← hm] at HMs
        clear hm
        generalize l.getD k 0 = u at *
        have HE : Aside0 (mergeL (x, y) t (l.drop k) = u :: mergeL (x, y) t (l.drop m)) := ⟨HMs.out (fun h => hlt2 h.1)⟩
        go_wp2_with (at_builtin; refine print_append_num (w0 := w) w.heap.size rfl (.tmp 56) (.tmp 64) 38 3 .i64 8 rfl Try.underlying38 info_int (by decide) _ es _ rfl rfl HO.out HBw.out HBw.out.size ?_ ?_; rotate_left; intro v1 w2 hown hbw hgr hat; have HA := Aside0.mk (And.intro hown hbw); clear hown hbw hgr hat)
        · go_roundw
          case rel => exact ⟨m, by omega, rfl, ⟨⟨es ++ [u], by rw [HEq.out, HE.out, List.append_assoc]; rfl, HA.out.1, by have := HEl.out; rw [List.length_append]; simp; omega, HA.out.2⟩⟩⟩
          case measure => have := HMk.out; simp [intOf]; omega
        · have := HEl.out
          omega
    · obtain rfl : k = l.length := by omega
      clear hm hmI
      have HFin : Aside0 (mergeL (x, y) t l = es) := ⟨by rw [HEq.out, List.drop_eq_nil_of_le (Nat.le_refl _)]; simp [mergeL]⟩
      have hfg : wr.frozen? ⟨gr, 0, none⟩ = false := blk_frozen ((HBw.out.block _ (blk_lt HR.out)).trans HR.out) 0
      go_wp2
      rw [Exit.noGoto_normal]
      go_end0
      have hgl := blk_lt HR.out
      refine ⟨rfl, .slice A3 es.length c3, blk_set ((HBw.out.block _ hgl).trans HR.out) 0 _, ?_, (HBw.out.mono (by have := HB.out; omega)).setCell HB.out _, by rw [World.size_setCell]; exact HBw.out.size, fun i hi hne _ => (Below.heap_setCell wr _ _ i hne).trans (HBw.out.block i hi)⟩
      rw [HFin.out]
      exact R_from (R_int HO.out) (fun k hk _ => Below.heap_setCell wr _ _ k (by show k ≠ gr; omega))
end Go.Proofs.Ytbgiccbegcepcaa.Bpe
