/- cupelref08.Below. -/
import Derived.Test.YtdmeocoehahopaaDoorBun6
namespace Go.Proofs.YtdmeocoehahopaaDoor.Draw
open Go.RowKit Go.Proofs.YtdmeocoehahopaaDoorW.PrintWords Go.Proofs.YtdmeocoehahopaaDoorW.PrintLast Go.Proofs.YtdmeocoehahopaaDoorW.PrintMore Go.Proofs.YtdmeocoehahopaaDoor.K Go.Proofs.YtdmeocoehahopaaDoor.Sha Go.Proofs.YtdmeocoehahopaaDoor.Codec Go.Proofs.YtdmeocoehahopaaDoor.RI
set_option linter.unusedVariables false
set_option linter.unusedSimpArgs false
theorem end_iff {n x : Int} (hn : 0 < n) : x - x % n ≤ 9223372036854775807 - (n - 1) ↔ x < endOf n := by
  have e1 := Int.emod_add_mul_ediv x n
  have e2 := Int.emod_add_mul_ediv 9223372036854775808 n
  have h1 : x / n < 9223372036854775808 / n ↔ x < 9223372036854775808 / n * n := Int.ediv_lt_iff_lt_mul hn
  have h2 : x / n + 1 ≤ 9223372036854775808 / n ↔ (x / n + 1) * n ≤ 9223372036854775808 := Int.le_ediv_iff_mul_le hn
  rw [Int.add_mul, Int.one_mul] at h2
  rw [Int.mul_comm n] at e1 e2
  unfold endOf
  generalize 9223372036854775808 / n * n = Q at *
  generalize x / n * n = X at *
  generalize 9223372036854775808 / n = q at *
  generalize x / n = y at *
  omega
def RBelowEnd (d : List Int) (n c : Int) (e : Ending) : Prop := ∀ x er c', belowV d n c = (x, er, c') → e = .returned (.tuple #[.int .i64 x, .int .i64 (if er = 0 then c' - c else 0), .int .i64 er])
set_option maxHeartbeats 8000000 in
set_option maxRecDepth 100000 in
theorem rbelow_calls (d : List Int) (n c : Int) (w : World) (hd : d.length = 32) (hby : ∀ x ∈ d, 0 ≤ x ∧ x < 256) (h0 : 0 ≤ c) (h1 : c ≤ 9223372036854775807) (hn0 : -9223372036854775808 ≤ n) (hn : n ≤ 9223372036854775807) :
    Calls Tryd.prog 18 #[.agg (dA d), .int .i64 c, .int .i64 n] w fun e w' => RBelowEnd d n c e ∧ Below w.heap.size w w' := by
  have HBy := Aside0.mk hby
  have HDl := Aside0.mk hd
  have HI := Aside0.mk (dig_info hd)
  have H0 := Aside0.mk h0
  have H1 := Aside0.mk h1
  have HB0 : Aside0 (Below w.heap.size w (w.alloc (.cells (dA d) 23))) := ⟨bel_alloc (Below.refl _ _) _⟩
  have HR0 : Aside0 ((w.alloc (.cells (dA d) 23)).heap[w.heap.size]? = some (.cells (dA d) 23 (0, 0))) := ⟨heap_alloc_new _ _⟩
  by_cases hlt : n < 1
  · have hltD : decide (n < 1) = true := by simpa using hlt
    have HE : Aside0 (RBelowEnd d n c (.returned (.tuple #[.int .i64 0, .int .i64 0, .int .i64 10]))) := ⟨fun x er c' h => by
      unfold belowV at h
      rw [if_pos hlt] at h
      cases h
      rfl⟩
    clear hd hby h0 h1 hn hlt hn0
    go_enter Tryd.func18, Tryd.ntmps18
    go_wp2
    go_ret3
    exact ⟨HE.out, HB0.out⟩
  · have hltD : decide (n < 1) = false := by simpa using hlt
    have hn1 : 1 ≤ n := by omega
    have HN := Aside0.mk hn
    have HV : Aside0 (belowV d n c = belowF d n 64 c) := ⟨if_neg hlt⟩
    clear hd hby h0 h1 hn hlt hn0
    go_enter Tryd.func18, Tryd.ntmps18
    go_wp2_with (fail)
    generalize w.alloc (.cells (dA d) 23) = w0 at *
    go_loopw [9] (fun i wr => ∃ k : Nat, k ≤ 64 ∧ i = .int .i64 k ∧ Aside0 (belowF d n 64 c = belowF d n (64 - k) (c + k) ∧ c + k ≤ 9223372036854775807 ∧ Below w.heap.size w wr ∧ wr.heap[w.heap.size]? = some (.cells (dA d) 23 (0, 0)))) (fun i _ => 64 - (intOf i).toNat)
    case atStart => exact ⟨0, by decide, rfl, ⟨by simp, by have := H1.out; omega, HB0.out, HR0.out⟩⟩
    case round =>
      obtain ⟨k, hk, rfl, HR⟩ := hrel
      by_cases hk64 : k < 64
      · have HJ : Aside0 (belowF d n (64 - k) (c + k) = if c + k = 9223372036854775807 then (0, 17, c + k) else if numV d (c + k) < endOf n then (numV d (c + k) % n, 0, c + k + 1) else belowF d n (64 - (k + 1)) (c + k + 1)) := ⟨by
          rw [show 64 - k = (64 - (k + 1)) + 1 by omega]
          rfl⟩
        have hwk : IntKind.i64.wrap (9223372036854775806 - (k : Int)) = 9223372036854775806 - (k : Int) := by rw [IntKind.wrap_i64]; omega
        by_cases hmx : c + k = 9223372036854775807
        · have hgD : decide (9223372036854775806 - (k : Int) < c) = true := by simp; omega
          have HE : Aside0 (RBelowEnd d n c (.returned (.tuple #[.int .i64 0, .int .i64 0, .int .i64 17]))) := ⟨fun x er c' h => by
            rw [HV.out, HR.out.1, HJ.out, if_pos hmx] at h
            cases h
            rfl⟩
          clear hmx
          go_wp2
          go_ret3
          exact ⟨HE.out, HR.out.2.2.1⟩
        · have hgD : decide (9223372036854775806 - (k : Int) < c) = false := by have := HR.out.2.1; simp; omega
          have hwc : IntKind.i64.wrap (c + (k : Int)) = c + (k : Int) := by have := HR.out.2.1; have := H0.out; rw [IntKind.wrap_i64]; omega
          have HMx : Aside0 (c + k + 1 ≤ 9223372036854775807) := ⟨by have := HR.out.2.1; omega⟩
          have HNe := Aside0.mk hmx
          have HR1 := Aside0.mk HR.out.2.2.2
          clear hmx
          go_wp2_with (with_reducible refine wpList_load_row rfl 23 (.tmp 3) rfl w.heap.size rfl 23 (dA d) (0, 0) _ HR1.out Tryd.underlying23 rfl HI.out ?_)
          refine (rnumber_calls d (c + k) wr HDl.out HBy.out (by have := HR.out.2.1; have := H0.out; omega)).mono ?_
          rintro e w1 ⟨rfl, hb⟩
          have HB1 := Aside0.mk (below_step HR.out.2.2.1 hb)
          have HR2 : Aside0 (w1.heap[w.heap.size]? = some (.cells (dA d) 23 (0, 0))) := ⟨(hb.block _ (blk_lt HR1.out)).trans HR1.out⟩
          clear hb hgD hwc hwk
          have hr := numV_range d (c + k)
          have hiff := end_iff (n := n) (x := numV d (c + k)) (by omega)
          have HF : ∃ x, x = numV d (c + k) := ⟨_, rfl⟩
          obtain ⟨x, hx⟩ := HF
          rw [← hx] at hr hiff ⊢
          have hx0 := hr.1
          have he0 : 0 ≤ x % n ∧ x % n ≤ x := ⟨Int.emod_nonneg _ (by omega), by
            have := Int.emod_add_mul_ediv x n
            have h3 : 0 ≤ n * (x / n) := Int.mul_nonneg (by omega) (Int.ediv_nonneg hx0 (by omega))
            omega⟩
          have hw1 : IntKind.i64.wrap (x - x % n) = x - x % n := by rw [IntKind.wrap_i64]; omega
          have hw0 : IntKind.i64.wrap (n - 1) = n - 1 := by have := HN.out; rw [IntKind.wrap_i64]; omega
          have hw2 : IntKind.i64.wrap (9223372036854775807 - (n - 1)) = 9223372036854775807 - (n - 1) := by have := HN.out; rw [IntKind.wrap_i64]; omega
          by_cases hle : x < endOf n
          · have hD : decide (x - x % n ≤ 9223372036854775807 - (n - 1)) = true := decide_eq_true (hiff.2 hle)
            have HE : Aside0 (RBelowEnd d n c (.returned (.tuple #[.int .i64 (x % n), .int .i64 ((k : Int) + 1), .int .i64 0]))) := ⟨fun x1 er c' h => by
              rw [HV.out, HR.out.1, HJ.out, if_neg HNe.out, ← hx, if_pos hle] at h
              cases h
              rw [if_pos rfl, show c + (k : Int) + 1 - c = (k : Int) + 1 by omega]⟩
            clear hx hr hiff hle
            go_wp2
            go_ret3
            exact ⟨HE.out, HB1.out⟩
          · have hD : decide (x - x % n ≤ 9223372036854775807 - (n - 1)) = false := decide_eq_false (fun h => hle (hiff.1 h))
            have HG : Aside0 (belowF d n 64 c = belowF d n (64 - (k + 1)) (c + (k + 1 : Nat))) := ⟨by rw [HR.out.1, HJ.out, if_neg HNe.out, ← hx, if_neg hle, Int.natCast_add, ← Int.add_assoc]; rfl⟩
            clear hx hr hiff hle
            go_wp2
            go_roundw
            case rel => exact ⟨k + 1, by omega, by go_num, ⟨HG.out, by have := HMx.out; omega, HB1.out, HR2.out⟩⟩
            case measure => simp [intOf]; omega
      · obtain rfl : k = 64 := by omega
        have HE : Aside0 (RBelowEnd d n c (.returned (.tuple #[.int .i64 0, .int .i64 0, .int .i64 14]))) := ⟨fun x er c' h => by
          rw [HV.out, HR.out.1] at h
          cases h
          rfl⟩
        go_wp2
        go_ret3
        exact ⟨HE.out, HR.out.2.2.1⟩
end Go.Proofs.YtdmeocoehahopaaDoor.Draw
