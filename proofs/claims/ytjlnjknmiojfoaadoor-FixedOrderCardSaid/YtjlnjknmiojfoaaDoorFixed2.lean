/- fixed.Exp: e to the power of a number that is not above 0. -/
import Derived.Test.YtjlnjknmiojfoaaDoorFixed1
namespace Go.Proofs.YtjlnjknmiojfoaaDoor.Fixed
open Go.RowKit Go.Proofs.YtjlnjknmiojfoaaDoorW.PrintWords Go.Proofs.YtjlnjknmiojfoaaDoorW.PrintLast Go.Proofs.YtjlnjknmiojfoaaDoorW.PrintMore Go.Proofs.YtjlnjknmiojfoaaDoor.K
set_option linter.unusedVariables false
def stepsL : List Int := [22, 1200, 8869, 24109, 39750, 51039, 57835, 61565, 63520, 64520, 65026, 65280, 65408, 65472, 65504, 65520, 65528, 65532, 65534, 65535]
def stepsA : Array Value := (nums .i64 stepsL).toArray
def expStep (m : Int) (k : Nat) (out : Int) : Int := if m / 2 ^ (19 - k) % 2 = 0 then out else prodV out (stepsL.getD k 0)
def expF (m : Int) : Nat → Int
  | 0 => 65536
  | k + 1 => expStep m k (expF m k)
def expV (n : Int) : Int := if n ≤ -1048576 then 0 else expF (-n) 20
theorem steps_bound (k : Nat) : 0 ≤ stepsL.getD k 0 ∧ stepsL.getD k 0 ≤ 65535 := by
  have h : ∀ x ∈ stepsL, 0 ≤ x ∧ x ≤ 65535 := by decide
  rcases Nat.lt_or_ge k stepsL.length with hk | hk
  · rw [List.getD_eq_getElem?_getD, List.getElem?_eq_getElem hk]
    exact h _ (List.getElem_mem hk)
  · rw [List.getD_eq_getElem?_getD, List.getElem?_eq_none hk]
    exact ⟨by decide, by decide⟩
theorem prod_small {a b : Int} (ha : 0 ≤ a ∧ a ≤ 65536) (hb : 0 ≤ b ∧ b ≤ 65535) : 0 ≤ a * b ∧ a * b ≤ 65536 * 65535 :=
  ⟨Int.mul_nonneg ha.1 hb.1, Int.mul_le_mul ha.2 hb.2 hb.1 (by decide)⟩
theorem expF_bound (m : Int) (k : Nat) : 0 ≤ expF m k ∧ expF m k ≤ 65536 := by
  induction k with
  | zero => exact ⟨by show (0 : Int) ≤ 65536; decide, by show (65536 : Int) ≤ 65536; decide⟩
  | succ k ih =>
    show 0 ≤ expStep m k (expF m k) ∧ expStep m k (expF m k) ≤ 65536
    unfold expStep
    split
    · exact ih
    · have := prod_small ih (steps_bound k)
      unfold prodV
      omega
theorem expV_bound (n : Int) : 0 ≤ expV n ∧ expV n ≤ 65536 := by
  unfold expV
  split
  · exact ⟨by decide, by decide⟩
  · exact expF_bound _ _
theorem and_one (x : Int) (h0 : 0 ≤ x) (h1 : x < 9223372036854775808) : Go.bits .and .i64 x 1 = x % 2 :=
  bits_mask .i64 63 (by decide) (fun n h0 h1 => IntWalk.i64_in _ (by omega)) 1 (by decide) x h0 h1
theorem shr_small (m : Int) (j : Nat) (h0 : 0 ≤ m) (h1 : m < 1048576) : 0 ≤ m / 2 ^ j ∧ m / 2 ^ j < 9223372036854775808 := by
  have hp : (0 : Int) < 2 ^ j := Int.pow_pos (by decide)
  have h2 := Int.ediv_nonneg h0 (Int.le_of_lt hp)
  have h3 := Int.ediv_le_self (2 ^ j) h0
  omega
theorem info_int : (Tryd.prog.info? 3).map (fun i => (i.zero, i.size, i.bytes)) = some (some (.int .i64 0), 1, 8) := by kernel_rfl
theorem steps_at (k : Nat) (hk : k < 20) (W : World) : (Instr.index 36 (.agg stepsA) (.int .i64 (k : Int))).run Tryd.prog W = .ok (.int .i64 (stepsL.getD k 0)) W :=
  run_index_int 36 3 20 stepsA .i64 .i64 k Tryd.underlying36 Tryd.underlying3 info_int hk _ (by
    have hl : k < stepsL.length := hk
    simp [stepsA, nums, List.getElem?_eq_getElem hl, List.getD_eq_getElem?_getD]) W
set_option maxHeartbeats 1000000 in
set_option maxRecDepth 100000 in
theorem Exp_calls (n : Int) (w : World) (hL : LaidAt w 0 stepsA) (hn : n ≤ 0) (h9 : -9223372036854775808 ≤ n) :
    Calls Tryd.prog 14 #[.int .i64 n] w fun e w' => e = .returned (.tuple #[.int .i64 (expV n), .int .i64 0]) ∧ w = w' := by
  obtain ⟨lt, lfr, hblk⟩ := hL
  have HBk := Aside0.mk hblk
  clear hblk
  by_cases hs : n ≤ -1048576
  · have HV := Aside0.mk (show expV n = 0 from if_pos hs)
    rw [HV.out]
    have hnD : decide (0 < n) = false := by simp; omega
    have hnD2 : decide (n ≤ -1048576) = true := by simp; omega
    go_enter Tryd.func14, Tryd.ntmps14
    go_wp2
    go_step3
    go_wp2
    rw [Exit.noGoto_ret]
    go_ret2
    exact ⟨rfl, rfl⟩
  · have HV := Aside0.mk (show expV n = expF (-n) 20 from if_neg hs)
    rw [HV.out]
    clear HV
    have hnD : decide (0 < n) = false := by simp; omega
    obtain ⟨m, hm⟩ : ∃ m, -n = m := ⟨_, rfl⟩
    rw [hm]
    have hnD2 : decide (n ≤ -1048576) = false := by simp; omega
    have hm0 : 0 ≤ m := by omega
    have hm1 : m < 1048576 := by omega
    have hi := steps_at
    go_enter Tryd.func14, Tryd.ntmps14
    go_wp2
    go_step3
    go_wp2
    go_step3
    go_wp2_with (with_reducible refine wpList_load_row rfl 36 (.global 0) rfl 0 rfl lt stepsA lfr _ HBk.out Tryd.underlying36 rfl (by kernel_rfl) ?_)
    go_loop [4, 14] (fun v4 v14 => ∃ k : Nat, k ≤ 20 ∧ v14 = .int .i64 k ∧ v4 = .int .i64 (expF m k)) (fun _ v14 => 20 - (intOf v14).toNat)
    case atStart => exact ⟨0, Nat.zero_le _, rfl, rfl⟩
    case round =>
      obtain ⟨k, hk, rfl, rfl⟩ := hrel
      clear hi
      by_cases hlt : k < 20
      · have HE := Aside0.mk (expF_bound m k)
        have HN := Aside0.mk (show expF m (k + 1) = expStep m k (expF m k) from rfl)
        have hi1 := steps_at k hlt
        have HSb := Aside0.mk (steps_bound k)
        obtain ⟨g1, g2⟩ := shr_small m (19 - k) hm0 hm1
        have hand := and_one _ g1 g2
        clear g1 g2
        by_cases hz : m / 2 ^ (19 - k) % 2 = 0
        · have HN2 := Aside0.mk (show expF m (k + 1) = expF m k by rw [HN.out, expStep, if_pos hz])
          have hb : (Go.bits .and .i64 (m / 2 ^ (19 - k)) 1 == 0) = true := by rw [hand, hz]; rfl
          clear hz hand HN
          generalize expF m k = out at *
          go_wp2
          go_round
          case measure => simp [intOf]; omega
          case rel => exact ⟨k + 1, by omega, by go_num, by rw [HN2.out]⟩
        · have HN2 := Aside0.mk (show expF m (k + 1) = prodV (expF m k) (stepsL.getD k 0) by rw [HN.out, expStep, if_neg hz])
          have hb : (Go.bits .and .i64 (m / 2 ^ (19 - k)) 1 == 0) = false := by rw [hand, beq_eq_false_iff_ne]; exact hz
          clear hz hand HN
          have HP := Aside0.mk (prod_small HE.out HSb.out)
          generalize expF m k = out at *
          generalize stepsL.getD k 0 = sk at *
          go_wp2_with (go_at_call 27; refine (product_calls out sk _ (prodV out sk) (by have := HP.out; omega) (by have := HP.out; omega) rfl).mono ?_; rintro e w' ⟨rfl, rfl⟩)
          go_round
          case measure => simp [intOf]; omega
          case rel => exact ⟨k + 1, by omega, by go_num, by rw [HN2.out]⟩
      · obtain rfl : k = 20 := by omega
        go_wp2
        go_ret2
        exact ⟨rfl, rfl⟩
theorem Exp_pos_calls (n : Int) (w : World) (hn : 0 < n) :
    Calls Tryd.prog 14 #[.int .i64 n] w fun e w' => e = .returned (.tuple #[.int .i64 0, .int .i64 10]) ∧ w = w' := by
  have hnD : decide (0 < n) = true := by simpa using hn
  go_enter Tryd.func14, Tryd.ntmps14
  go_wp2
  go_step3
  go_wp2
  rw [Exit.noGoto_ret]
  go_ret2
  exact ⟨rfl, rfl⟩
end Go.Proofs.YtjlnjknmiojfoaaDoor.Fixed
