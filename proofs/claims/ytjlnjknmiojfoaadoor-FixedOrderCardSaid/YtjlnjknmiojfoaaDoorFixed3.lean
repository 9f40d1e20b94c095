/- fixed.Root and the reference's Root: the greatest number whose square is no greater than a number times 65536. -/
import Derived.Test.YtjlnjknmiojfoaaDoorFixed2
namespace Go.Proofs.YtjlnjknmiojfoaaDoor.Fixed
open Go.RowKit Go.Proofs.YtjlnjknmiojfoaaDoorW.PrintWords Go.Proofs.YtjlnjknmiojfoaaDoorW.PrintLast Go.Proofs.YtjlnjknmiojfoaaDoorW.PrintMore Go.Proofs.YtjlnjknmiojfoaaDoor.K
set_option linter.unusedVariables false
def rootP (n r : Int) : Prop := 0 ≤ r ∧ r * r ≤ n * 65536 ∧ n * 65536 < (r + 1) * (r + 1)
theorem sq_lt {a b : Int} (ha : 0 ≤ a) (h : a * a < b * b) (hb : 0 ≤ b) : a < b := by
  rcases Int.lt_or_le a b with h1 | h1
  · exact h1
  · have := Int.mul_le_mul h1 h1 hb ha
    omega
theorem rootP_unique {n r s : Int} (h : rootP n r) (k : rootP n s) : r = s := by
  have h1 : r < s + 1 := sq_lt h.1 (by have := h.2.1; have := k.2.2; omega) (by have := k.1; omega)
  have h2 : s < r + 1 := sq_lt k.1 (by have := k.2.1; have := h.2.2; omega) (by have := h.1; omega)
  omega
/-- Between two bounds. -/
theorem rootP_between (n : Int) (d : Nat) : ∀ lo : Int, 0 ≤ lo → lo * lo ≤ n * 65536 → n * 65536 < (lo + d) * (lo + d) → ∃ r, rootP n r := by
  induction d with
  | zero => intro lo h0 h1 h2; simp at h2; omega
  | succ d ih =>
    intro lo h0 h1 h2
    rcases Int.lt_or_le (n * 65536) ((lo + 1) * (lo + 1)) with h3 | h3
    · exact ⟨lo, h0, h1, h3⟩
    · exact ih (lo + 1) (by omega) h3 (by rw [show lo + 1 + (d : Int) = lo + ((d + 1 : Nat) : Int) by omega]; exact h2)
theorem rootP_ex (n : Int) (h0 : 0 ≤ n) (h1 : n ≤ 2147483647) : ∃ r, rootP n r :=
  rootP_between n 16777216 0 (by decide) (by omega) (by omega)
theorem sq_bound {x b : Int} (h0 : 0 ≤ x) (h1 : x ≤ b) (hb : 0 ≤ b) : 0 ≤ x * x ∧ x * x ≤ b * b := ⟨Int.mul_nonneg h0 h0, Int.mul_le_mul h1 h1 h0 hb⟩
set_option maxHeartbeats 1000000 in
theorem above_calls (n x : Int) (B : Nat) (w : World) (hc : w.cell? ⟨B, 0, none⟩ = some (.int .i64 n)) (h0 : 0 ≤ n) (h1 : n ≤ 2147483647) (hx0 : 0 ≤ x) (hx1 : x ≤ 16777216) (b : Bool) (hb : decide (n * 65536 < x * x) = b) :
    Calls Tryd.prog 26 #[.int .i64 x, .pointer (some ⟨B, 0, none⟩)] w fun e w' => e = .returned (.bool b) ∧ w' = w := by
  subst hb
  have hq := sq_bound hx0 hx1 (by decide)
  obtain ⟨p, hp⟩ : ∃ p, x * x = p := ⟨_, rfl⟩
  rw [hp] at hq ⊢
  obtain ⟨hq0, hq1⟩ := hq
  go_enter Tryd.func26, Tryd.ntmps26
  go_wp2
  go_ret
  exact ⟨rfl, rfl⟩
set_option maxHeartbeats 1000000 in
theorem Root_calls (n : Int) (w : World) (h0 : 0 ≤ n) (h1 : n ≤ 2147483647) (r : Int) (hr : rootP n r) :
    Calls Tryd.prog 10 #[.int .i64 n] w fun e w' => e = .returned (.tuple #[.int .i64 r, .int .i64 0]) ∧ Below w.heap.size w w' := by
  have HR := Aside0.mk hr
  have hnD : decide (n < 0) = false := by simp; omega
  have HC := Aside0.mk (show inR n = true by unfold inR; simp; omega)
  clear hr
  go_enter Tryd.func10, Tryd.ntmps10
  go_wp2_with (fail)
  have h1i := one_int (w.alloc (.cells #[.int .i64 n] 3)) n
  rw [World.size_alloc] at h1i
  have HI := Aside0.mk h1i
  clear h1i
  refine (check_n _ _ _ [n] _ HI.out 0 (by rw [check1_val, if_pos HC.out])).mono ?_
  rintro e w1 ⟨rfl, hd⟩
  have HB := Aside0.mk (below_step (bel_alloc (bel_alloc (Below.refl _ _) _) _) hd.below)
  have hc : w1.cell? ⟨w.heap.size, 0, none⟩ = some (.int .i64 n) := cell_keep hd.below (cell_keep (bel_alloc (Below.refl _ _) _) (cell_new1 w _ _))
  clear hd
  go_wp2_with (fail)
  go_loop [6, 7] (fun v6 v7 => ∃ lo hi : Int, v6 = .int .i64 lo ∧ v7 = .int .i64 hi ∧ 0 ≤ lo ∧ lo < hi ∧ hi ≤ 16777216 ∧ Aside0 (lo * lo ≤ n * 65536 ∧ n * 65536 < hi * hi)) (fun v6 v7 => (intOf v7 - intOf v6).toNat)
  case atStart => exact ⟨0, 16777216, rfl, rfl, by decide, by decide, by decide, ⟨by omega, by omega⟩⟩
  case round =>
    obtain ⟨lo, hi, rfl, rfl, l0, l1, l2, HQ⟩ := hrel
    by_cases hlt : 1 < hi - lo
    · have hltD : decide (1 < hi - lo) = true := by simpa using hlt
      obtain ⟨mid, hmid⟩ : ∃ mid, (lo + hi) / 2 = mid := ⟨_, rfl⟩
      have m0 : 0 ≤ mid := by omega
      have m1 : mid ≤ 16777216 := by omega
      have m2 : lo < mid := by omega
      have m3 : mid < hi := by omega
      by_cases hb : n * 65536 < mid * mid
      · have HBd := Aside0.mk (show decide (n * 65536 < mid * mid) = true by simpa using hb)
        have HQ2 := Aside0.mk hb
        clear hb
        go_wp2_with (go_at_call 26; refine (above_calls n mid _ _ hc h0 h1 m0 m1 true HBd.out).mono ?_; rintro e w' ⟨rfl, rfl⟩)
        go_round
        case measure => simp [intOf]; omega
        case rel => exact ⟨lo, mid, rfl, rfl, l0, m2, m1, ⟨HQ.out.1, HQ2.out⟩⟩
      · have HBd := Aside0.mk (show decide (n * 65536 < mid * mid) = false by simpa using hb)
        have HQ2 := Aside0.mk hb
        clear hb
        go_wp2_with (go_at_call 26; refine (above_calls n mid _ _ hc h0 h1 m0 m1 false HBd.out).mono ?_; rintro e w' ⟨rfl, rfl⟩)
        go_round
        case measure => simp [intOf]; omega
        case rel => exact ⟨mid, hi, rfl, rfl, m0, m3, l2, ⟨by have := HQ2.out; omega, HQ.out.2⟩⟩
    · have hltD : decide (1 < hi - lo) = false := by simpa using hlt
      obtain rfl : hi = lo + 1 := by omega
      obtain rfl : lo = r := rootP_unique (n := n) ⟨l0, HQ.out.1, HQ.out.2⟩ HR.out
      go_wp2
      go_ret2
      exact ⟨rfl, HB.out⟩
set_option maxHeartbeats 1000000 in
theorem Root_bad_calls (n : Int) (w : World) (hn : ¬ (0 ≤ n ∧ n ≤ 2147483647)) :
    Calls Tryd.prog 10 #[.int .i64 n] w fun e w' => e = .returned (.tuple #[.int .i64 0, .int .i64 10]) ∧ Below w.heap.size w w' := by
  have h1i := one_int (w.alloc (.cells #[.int .i64 n] 3)) n
  rw [World.size_alloc] at h1i
  have HI := Aside0.mk h1i
  clear h1i
  cases hC : inR n with
  | true =>
    have HC := Aside0.mk hC
    have hneg : n < 0 := by have := inR_true hC; omega
    have hnD : decide (n < 0) = true := by simpa using hneg
    clear hC hn
    go_enter Tryd.func10, Tryd.ntmps10
    go_wp2_with (fail)
    refine (check_n _ _ _ [n] _ HI.out 0 (by rw [check1_val, if_pos HC.out])).mono ?_
    rintro e w1 ⟨rfl, hd⟩
    have HB := Aside0.mk (below_step (bel_alloc (bel_alloc (Below.refl _ _) _) _) hd.below)
    have hc : w1.cell? ⟨w.heap.size, 0, none⟩ = some (.int .i64 n) := cell_keep hd.below (cell_keep (bel_alloc (Below.refl _ _) _) (cell_new1 w _ _))
    clear hd
    go_wp2_with (fail)
    go_ret2
    exact ⟨rfl, HB.out⟩
  | false =>
    have HC := Aside0.mk hC
    clear hC hn
    go_enter Tryd.func10, Tryd.ntmps10
    go_wp2_with (fail)
    refine (check_n _ _ _ [n] _ HI.out 10 (by rw [check1_val, if_neg (by rw [HC.out]; decide)])).mono ?_
    rintro e w1 ⟨rfl, hd⟩
    have HB := Aside0.mk (below_step (bel_alloc (bel_alloc (Below.refl _ _) _) _) hd.below)
    clear hd
    go_wp2_with (fail)
    go_ret2
    exact ⟨rfl, HB.out⟩
theorem pow_half (j : Nat) : (2 : Int) ^ (j + 1) / 2 = 2 ^ j := by rw [Int.pow_succ]; omega
set_option maxHeartbeats 1000000 in
theorem rRoot_calls (n : Int) (w : World) (h0 : 0 ≤ n) (h1 : n ≤ 2147483647) (r : Int) (hr : rootP n r) :
    Calls Tryd.prog 13 #[.int .i64 n] w fun e w' => e = .returned (.int .i64 r) ∧ w = w' := by
  have HR := Aside0.mk hr
  clear hr
  go_enter Tryd.func13, Tryd.ntmps13
  go_wp2
  go_loop [3, 4] (fun v3 v4 => ∃ (out : Int) (j : Nat), v3 = .int .i64 out ∧ v4 = .int .i64 (2 ^ j / 2) ∧ j ≤ 28 ∧ 0 ≤ out ∧ out ≤ 16777216 ∧ Aside0 (out * out ≤ n * 65536 ∧ n * 65536 < (out + 2 ^ j) * (out + 2 ^ j))) (fun _ v4 => (intOf v4).toNat)
  case atStart => exact ⟨0, 28, rfl, rfl, by decide, by decide, by decide, ⟨by omega, by omega⟩⟩
  case round =>
    obtain ⟨out, j, rfl, rfl, hj, o0, o1, HQ⟩ := hrel
    cases j with
    | zero =>
      have HQ' := HQ.out
      obtain rfl : out = r := rootP_unique (n := n) ⟨o0, HQ'.1, by simpa using HQ'.2⟩ HR.out
      clear HQ'
      have hz : (2 : Int) ^ 0 / 2 = 0 := by decide
      rw [hz]
      go_wp2
      go_ret
      exact ⟨rfl, rfl⟩
    | succ j =>
      rw [pow_half]
      obtain ⟨bit, hbit⟩ : ∃ bit : Int, 2 ^ j = bit := ⟨_, rfl⟩
      have hb0 : 1 ≤ bit := by
        have h : (0 : Int) < 2 ^ j := Int.pow_pos (by decide)
        omega
      have hb1 : bit ≤ 134217728 := by
        have h : 2 ^ j ≤ 134217728 := Nat.le_trans (Nat.pow_le_pow_right (n := 2) (by decide) (show j ≤ 27 by omega)) (by decide)
        have h2 : ((2 ^ j : Nat) : Int) = 2 ^ j := by simp
        omega
      have HP := Aside0.mk (show (2 : Int) ^ (j + 1) = bit + bit by rw [Int.pow_succ, hbit]; omega)
      have HBit := Aside0.mk hbit
      rw [hbit]
      clear hbit
      obtain ⟨s, hs⟩ : ∃ s, (out + bit) * (out + bit) = s := ⟨_, rfl⟩
      have hsb := sq_bound (x := out + bit) (b := 150994944) (by omega) (by omega) (by decide)
      rw [hs] at hsb
      obtain ⟨s0, s1⟩ := hsb
      have hgD : decide (0 < bit) = true := by simp; omega
      by_cases hle : s ≤ n * 65536
      · have hleD : decide (s ≤ n * 65536) = true := by simpa using hle
        have HS := Aside0.mk hs
        have HL := Aside0.mk hle
        have ho : out + bit ≤ 16777216 := by
          have := sq_lt (a := out + bit) (b := 16777216) (by omega) (by omega) (by decide)
          omega
        go_wp2
        go_round
        case measure => simp [intOf]; omega
        case rel => exact ⟨out + bit, j, rfl, by rw [HBit.out], by omega, by omega, ho, ⟨by rw [HS.out]; exact HL.out, by have := HQ.out.2; rw [HP.out] at this; rw [HBit.out, show out + bit + bit = out + (bit + bit) by omega]; exact this⟩⟩
      · have hleD : decide (s ≤ n * 65536) = false := by simpa using hle
        have HS := Aside0.mk hs
        have HL := Aside0.mk hle
        go_wp2
        go_round
        case measure => simp [intOf]; omega
        case rel => exact ⟨out, j, rfl, by rw [HBit.out], by omega, o0, o1, ⟨HQ.out.1, by rw [HBit.out, HS.out]; have := HL.out; omega⟩⟩
end Go.Proofs.YtjlnjknmiojfoaaDoor.Fixed
