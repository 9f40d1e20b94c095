/- the reference's merged. -/
import Derived.Test.YtbgiccbegcepcaaBpeNb
import Derived.Test.YtbgiccbegcepcaaBpeFacts
namespace Go.Proofs.Ytbgiccbegcepcaa.Bpe
open Go.RowKit Go.Proofs.YtbgiccbegcepcaaW.PrintWords Go.Proofs.YtbgiccbegcepcaaW.PrintLast Go.Proofs.YtbgiccbegcepcaaW.PrintMore Go.Proofs.Ytbgiccbegcepcaa.K
set_option linter.unusedVariables false
set_option linter.unusedSimpArgs false
set_option maxHeartbeats 8000000 in
set_option maxRecDepth 100000 in
theorem merged_calls (A : Option Addr) (c : Nat) (l : List Int) (x y t : Int) (w : World) (hC : Kd.C (Kd.int .i64) w A l.length l) (hlen : l.length ≤ 1000000) :
    Calls Try.prog 26 #[.slice A l.length c, .agg #[.int .i64 x, .int .i64 y], .int .i64 t] w fun e w' => ∃ v, e = .returned v ∧ Kd.R (Kd.int .i64) 3 w' w.heap.size (fun _ => True) v (mergeL (x, y) t l) ∧ Below w.heap.size w w' := by
  have HC := Aside0.mk hC
  have HBx : Aside0 ((w.alloc (.cells #[.int .i64 x, .int .i64 y] 50)).heap[w.heap.size]? = some (.cells #[.int .i64 x, .int .i64 y] 50 (0, 0))) := ⟨heap_alloc_new _ _⟩
  have HB : Aside0 (Below w.heap.size w (w.alloc (.cells #[.int .i64 x, .int .i64 y] 50))) := ⟨bel_alloc (Below.refl _ _) _⟩
  clear hC
  go_enter Try.func26, Try.ntmps26
  go_wp2
  generalize w.alloc (.cells #[.int .i64 x, .int .i64 y] 50) = w1 at *
  obtain ⟨gp, hgp⟩ : ∃ gp, gp = w.heap.size := ⟨_, rfl⟩
  rw [← hgp] at HBx ⊢
  clear hgp
  go_loopw [7, 8] (fun o i wr => ∃ k : Nat, k ≤ l.length ∧ i = .int .i64 (k : Int) ∧ Aside0 (∃ es, mergeL (x, y) t l = es ++ mergeL (x, y) t (l.drop k) ∧ wr.ownsRow w.heap.size 3 1 o es.length (nums .i64 es) ∧ es.length ≤ k ∧ Below w.heap.size w wr ∧ wr.heap[gp]? = some (.cells #[.int .i64 x, .int .i64 y] 50 (0, 0)))) (fun _ i _ => l.length - (intOf i).toNat)
  case atStart => exact ⟨0, Nat.zero_le _, rfl, ⟨⟨[], rfl, own_nil _ _ _ _, Nat.zero_le _, HB.out, HBx.out⟩⟩⟩
  case round =>
    obtain ⟨k, hk, rfl, HO0⟩ := hrel
    obtain ⟨es, heq, ho, hel, hbw, hbx⟩ := HO0.out
    clear HO0
    have HEq := Aside0.mk heq
    have HO := Aside0.mk ho
    have HEl := Aside0.mk hel
    have HBw := Aside0.mk hbw
    have HBr := Aside0.mk hbx
    obtain ⟨Ae, ce, rfl⟩ := own_slice ho
    have HNe : Aside0 (some gp ≠ (Value.slice Ae es.length ce).ownBlock) := ⟨Kd.R_ne (R_int ho) hbx (by decide)⟩
    have hcp0 : wr.cell? ⟨gp, 0, none⟩ = some (.int .i64 x) := blk_cell hbx 0
    have hcp1 : wr.cell? ⟨gp, 1, none⟩ = some (.int .i64 y) := blk_cell hbx 1
    clear heq ho hel hbw hbx
    obtain ⟨mm, hmm⟩ : ∃ mm : Nat, mm = k + 1 := ⟨_, rfl⟩
    have hmmI : (k : Int) + 1 = (mm : Int) := by omega
    have HMk := Aside0.mk hmm
    by_cases hlt : k < l.length
    · have HHit := Aside0.mk (merge_hit (x, y) t l k)
      have HMs := Aside0.mk (merge_miss (x, y) t l k hlt)
      obtain ⟨ad, rfl, hc0⟩ := int_at' HC.out HBw.out k hlt
      by_cases hlt2 : mm < l.length
      · obtain ⟨ad', e, hc1⟩ := int_at' HC.out HBw.out mm hlt2
        cases e
        rw [← hmm] at HHit HMs
        clear hmm
        have hw2 : IntKind.i64.wrap ((k : Int) + 1) = (mm : Int) := by rw [IntWalk.i64_in _ (by omega)]; omega
        have hltd : decide ((mm : Int) < (l.length : Int)) = true := by simp; omega
        generalize l.getD k 0 = u at *
        generalize l.getD mm 0 = v at *
        by_cases hu : u = x
        · have hud : (u == x) = true := by simpa using hu
          by_cases hv : v = y
          · have hvd : (v == y) = true := by simpa using hv
            have HE1 : Aside0 (mergeL (x, y) t (l.drop k) = t :: mergeL (x, y) t (l.drop (k + 2))) := ⟨HHit.out hlt2 hu hv⟩
            obtain ⟨m2, hm2⟩ : ∃ m2 : Nat, m2 = k + 2 := ⟨_, rfl⟩
            have hm2I : (k : Int) + 2 = (m2 : Int) := by omega
            have HM2 := Aside0.mk hm2
            clear hu hv hm2
            go_wp2
            go_quiet (fail)
            have HO : Aside0 ((wr.drewN nq).ownsRow w.heap.size 3 1 (.slice Ae es.length ce) es.length (nums .i64 es)) := ⟨pw_own_drewN HO.out nq⟩
            have HBw : Aside0 (Below w.heap.size w (wr.drewN nq)) := ⟨pw_below_drewN HBw.out nq⟩
            have HBr : Aside0 ((wr.drewN nq).heap[gp]? = some (.cells #[.int .i64 x, .int .i64 y] 50 (0, 0))) := ⟨HBr.out⟩
            generalize wr.drewN nq = wq at *
            go_wp2_with (at_builtin; refine print_append_num (w0 := w) w.heap.size rfl (.tmp 37) (.tmp 39) 38 3 .i64 8 rfl Try.underlying38 info_int (by decide) _ es _ rfl rfl HO.out HBw.out HBw.out.size ?_ ?_; rotate_left; intro v1 w2 hown hbw hgr hat; have HA := Aside0.mk (And.intro hown hbw); have HBk := Aside0.mk (blk_grown HBr.out hgr HNe.out); clear hown hbw hgr hat)
            · go_roundw
              case rel => exact ⟨m2, by have := HM2.out; have := HMk.out; omega, rfl, ⟨⟨es ++ [t], by rw [HEq.out, HE1.out, HM2.out, List.append_assoc]; rfl, HA.out.1, by have := HEl.out; have := HM2.out; rw [List.length_append]; simp; omega, HA.out.2, HBk.out⟩⟩⟩
              case measure => have := HM2.out; simp [intOf]; omega
            · have := HEl.out
              omega
          · have hvd : (v == y) = false := by simpa using hv
            have HE1 : Aside0 (mergeL (x, y) t (l.drop k) = u :: mergeL (x, y) t (l.drop mm)) := ⟨HMs.out (fun h => hv h.2.2)⟩
            clear hu hv
            go_wp2
            go_quiet (fail)
            have HO : Aside0 ((wr.drewN nq).ownsRow w.heap.size 3 1 (.slice Ae es.length ce) es.length (nums .i64 es)) := ⟨pw_own_drewN HO.out nq⟩
            have HBw : Aside0 (Below w.heap.size w (wr.drewN nq)) := ⟨pw_below_drewN HBw.out nq⟩
            have HBr : Aside0 ((wr.drewN nq).heap[gp]? = some (.cells #[.int .i64 x, .int .i64 y] 50 (0, 0))) := ⟨HBr.out⟩
            have hcq : (wr.drewN nq).cell? (ad.add k) = some (.int .i64 u) := hc0
            generalize wr.drewN nq = wq at *
            go_wp2_with (at_builtin; refine print_append_num (w0 := w) w.heap.size rfl (.tmp 43) (.tmp 48) 38 3 .i64 8 rfl Try.underlying38 info_int (by decide) _ es _ rfl rfl HO.out HBw.out HBw.out.size ?_ ?_; rotate_left; intro v1 w2 hown hbw hgr hat; have HA := Aside0.mk (And.intro hown hbw); have HBk := Aside0.mk (blk_grown HBr.out hgr HNe.out); clear hown hbw hgr hat)
            · go_roundw
              case rel => exact ⟨mm, by have := HMk.out; omega, rfl, ⟨⟨es ++ [u], by rw [HEq.out, HE1.out, List.append_assoc]; rfl, HA.out.1, by have := HEl.out; have := HMk.out; rw [List.length_append]; simp; omega, HA.out.2, HBk.out⟩⟩⟩
              case measure => have := HMk.out; simp [intOf]; omega
            · have := HEl.out
              omega
        · have hud : (u == x) = false := by simpa using hu
          have HE1 : Aside0 (mergeL (x, y) t (l.drop k) = u :: mergeL (x, y) t (l.drop mm)) := ⟨HMs.out (fun h => hu h.2.1)⟩
          clear hu
          go_wp2
          go_quiet (fail)
          have HO : Aside0 ((wr.drewN nq).ownsRow w.heap.size 3 1 (.slice Ae es.length ce) es.length (nums .i64 es)) := ⟨pw_own_drewN HO.out nq⟩
          have HBw : Aside0 (Below w.heap.size w (wr.drewN nq)) := ⟨pw_below_drewN HBw.out nq⟩
          have HBr : Aside0 ((wr.drewN nq).heap[gp]? = some (.cells #[.int .i64 x, .int .i64 y] 50 (0, 0))) := ⟨HBr.out⟩
          have hcq : (wr.drewN nq).cell? (ad.add k) = some (.int .i64 u) := hc0
          generalize wr.drewN nq = wq at *
          go_wp2_with (at_builtin; refine print_append_num (w0 := w) w.heap.size rfl (.tmp 43) (.tmp 48) 38 3 .i64 8 rfl Try.underlying38 info_int (by decide) _ es _ rfl rfl HO.out HBw.out HBw.out.size ?_ ?_; rotate_left; intro v1 w2 hown hbw hgr hat; have HA := Aside0.mk (And.intro hown hbw); have HBk := Aside0.mk (blk_grown HBr.out hgr HNe.out); clear hown hbw hgr hat)
          · go_roundw
            case rel => exact ⟨mm, by have := HMk.out; omega, rfl, ⟨⟨es ++ [u], by rw [HEq.out, HE1.out, List.append_assoc]; rfl, HA.out.1, by have := HEl.out; have := HMk.out; rw [List.length_append]; simp; omega, HA.out.2, HBk.out⟩⟩⟩
            case measure => have := HMk.out; simp [intOf]; omega
          · have := HEl.out
            omega
      · rw [← hmm] at HMs
        clear hmm
        have hw2 : IntKind.i64.wrap ((k : Int) + 1) = (mm : Int) := by rw [IntWalk.i64_in _ (by omega)]; omega
        have hltd : decide ((mm : Int) < (l.length : Int)) = false := by simp; omega
        generalize l.getD k 0 = u at *
        have HE1 : Aside0 (mergeL (x, y) t (l.drop k) = u :: mergeL (x, y) t (l.drop mm)) := ⟨HMs.out (fun h => hlt2 h.1)⟩
        clear hmmI
        go_wp2
        go_quiet (fail)
        have HO : Aside0 ((wr.drewN nq).ownsRow w.heap.size 3 1 (.slice Ae es.length ce) es.length (nums .i64 es)) := ⟨pw_own_drewN HO.out nq⟩
        have HBw : Aside0 (Below w.heap.size w (wr.drewN nq)) := ⟨pw_below_drewN HBw.out nq⟩
        have HBr : Aside0 ((wr.drewN nq).heap[gp]? = some (.cells #[.int .i64 x, .int .i64 y] 50 (0, 0))) := ⟨HBr.out⟩
        have hcq : (wr.drewN nq).cell? (ad.add k) = some (.int .i64 u) := hc0
        generalize wr.drewN nq = wq at *
        go_wp2_with (at_builtin; refine print_append_num (w0 := w) w.heap.size rfl (.tmp 43) (.tmp 48) 38 3 .i64 8 rfl Try.underlying38 info_int (by decide) _ es _ rfl rfl HO.out HBw.out HBw.out.size ?_ ?_; rotate_left; intro v1 w2 hown hbw hgr hat; have HA := Aside0.mk (And.intro hown hbw); have HBk := Aside0.mk (blk_grown HBr.out hgr HNe.out); clear hown hbw hgr hat)
        · go_roundw
          case rel => exact ⟨mm, by have := HMk.out; omega, rfl, ⟨⟨es ++ [u], by rw [HEq.out, HE1.out, List.append_assoc]; rfl, HA.out.1, by have := HEl.out; have := HMk.out; rw [List.length_append]; simp; omega, HA.out.2, HBk.out⟩⟩⟩
          case measure => have := HMk.out; simp [intOf]; omega
        · have := HEl.out
          omega
    · obtain rfl : k = l.length := by omega
      clear hmm hmmI
      have HFin : Aside0 (mergeL (x, y) t l = es) := ⟨by rw [HEq.out, List.drop_eq_nil_of_le (Nat.le_refl _)]; simp [mergeL]⟩
      go_wp2
      go_ret
      exact ⟨_, rfl, by rw [HFin.out]; exact R_int HO.out, HBw.out⟩
end Go.Proofs.Ytbgiccbegcepcaa.Bpe
