/- cupelref06: Is, Floor, Round, Exp. -/
import Derived.Test.YtfameghednapkaaDoorBunT3
namespace Go.Proofs.YtfameghednapkaaDoor.Fixed
open Go.RowKit Go.Proofs.YtfameghednapkaaDoorW.PrintWords Go.Proofs.YtfameghednapkaaDoorW.PrintLast Go.Proofs.YtfameghednapkaaDoorW.PrintMore Go.Proofs.YtfameghednapkaaDoor.K
set_option linter.unusedVariables false
theorem fdiv_tR (n b : Int) (hb : b ≠ 0) : Int.fdiv n b = if Int.tmod n b ≠ 0 ∧ decide (n < 0) ≠ decide (b < 0) then Int.tdiv n b - 1 else Int.tdiv n b := by
  rw [Int.fdiv_eq_tdiv]
  by_cases h : b ∣ n
  · have h0 : Int.tmod n b = 0 := Int.tmod_eq_zero_of_dvd h
    rw [if_pos h, if_neg (by simp [h0])]
    omega
  · have h0 : Int.tmod n b ≠ 0 := fun e => h (Int.dvd_of_tmod_eq_zero e)
    rw [if_neg h]
    rcases Int.lt_or_le n 0 with hn | hn <;> rcases Int.lt_or_le b 0 with h2 | h2
    · rw [Int.sign_eq_neg_one_of_neg h2, if_neg (by omega), if_neg (by omega), if_neg (by simp; omega)]
      omega
    · rw [Int.sign_eq_one_of_pos (by omega), if_neg (by omega), if_pos h2, if_pos ⟨h0, by simp; omega⟩]
    · rw [if_pos hn, if_neg (by omega), if_pos ⟨h0, by simp; omega⟩]
    · rw [if_pos hn, if_pos h2, if_neg (by simp; omega)]
      omega
theorem tdiv_boundR (n b : Int) : (Int.tdiv n b).natAbs ≤ n.natAbs := by
  rw [Int.natAbs_tdiv]
  exact Nat.div_le_self _ _
theorem Is_calls (n : Int) (w : World) (b : Bool) (hb : inR n = b) :
    Calls Tryd.prog 39 #[.int .i64 n] w fun e w' => e = .returned (.bool b) ∧ w = w' := by
  subst hb
  rcases Int.lt_or_le n (-2147483648) with h1 | h1
  · have HV := Aside0.mk (show inR n = false by unfold inR; simp; omega)
    rw [HV.out]
    have h1D : decide (-2147483648 ≤ n) = false := by simp; omega
    go_enter Tryd.func39, Tryd.ntmps39
    go_wp2
    go_ret
    exact ⟨rfl, rfl⟩
  · have HV := Aside0.mk (show inR n = decide (n ≤ 2147483647) by unfold inR; simp [h1])
    rw [HV.out]
    have h1D : decide (-2147483648 ≤ n) = true := by simp; omega
    go_enter Tryd.func39, Tryd.ntmps39
    go_wp2
    go_ret
    exact ⟨rfl, rfl⟩
theorem floor_t (n d : Int) (hd : 0 < d) : n / d = if Int.tmod n d < 0 then Int.tdiv n d - 1 else Int.tdiv n d := by
  rw [← Int.fdiv_eq_ediv_of_nonneg n (Int.le_of_lt hd), fdiv_tR n d (by omega)]
  rcases Int.lt_or_le n 0 with hn | hn
  · have h2 : Int.tmod n d ≤ 0 := by
      have h3 := Int.tmod_nonneg d (show 0 ≤ -n by omega)
      rw [Int.neg_tmod] at h3
      omega
    by_cases h : Int.tmod n d = 0
    · rw [if_neg (by simp [h]), if_neg (by omega)]
    · rw [if_pos ⟨h, by simp; omega⟩, if_pos (by omega)]
  · have h2 : 0 ≤ Int.tmod n d := Int.tmod_nonneg _ hn
    rw [if_neg (by simp; omega), if_neg (by omega)]
set_option maxHeartbeats 1000000 in
theorem Floor_calls (n d : Int) (w : World) (hd : 0 < d) (hd2 : d ≤ 9223372036854775807) (h1 : -9223372036854775000 ≤ n) (h2 : n ≤ 9223372036854775000) (r : Int) (hr : n / d = r) :
    Calls Tryd.prog 65 #[.int .i64 n, .int .i64 d] w fun e w' => e = .returned (.int .i64 r) ∧ w = w' := by
  subst hr
  rw [floor_t n d hd]
  have hz : ¬ (d = 0) := by omega
  have hqb := tdiv_boundR n d
  generalize hq : Int.tdiv n d = q at *
  generalize hmm : Int.tmod n d = m at *
  have hq1 : -9223372036854775000 ≤ q := by omega
  have hq2 : q ≤ 9223372036854775000 := by omega
  clear hqb
  by_cases hneg : m < 0
  · rw [if_pos hneg]
    have hnD : decide (m < 0) = true := by simpa using hneg
    go_enter Tryd.func65, Tryd.ntmps65
    go_wp2
    go_ret
    exact ⟨rfl, rfl⟩
  · rw [if_neg hneg]
    have hnD : decide (m < 0) = false := by simpa using hneg
    go_enter Tryd.func65, Tryd.ntmps65
    go_wp2
    go_ret
    exact ⟨rfl, rfl⟩
def roundV (n : Int) : Int := (n + 32768) / 65536
theorem prodV_round (a b : Int) : prodV a b = roundV (a * b) := rfl
theorem Round_calls (n : Int) (w : World) (h1 : -9223372036854700000 ≤ n) (h2 : n ≤ 9223372036854700000) (r : Int) (hr : roundV n = r) :
    Calls Tryd.prog 41 #[.int .i64 n] w fun e w' => e = .returned (.int .i64 r) ∧ w = w' := by
  have HR := Aside0.mk hr
  clear hr
  go_enter Tryd.func41, Tryd.ntmps41
  go_wp2_with (go_at_call 65; refine (Floor_calls (n + 32768) 65536 _ (by decide) (by decide) (by omega) (by omega) r HR.out).mono ?_; rintro e w' ⟨rfl, rfl⟩)
  go_ret
  exact ⟨rfl, rfl⟩
theorem bit_step (m j : Nat) : m % 2 ^ (j + 1) = m % 2 ^ j + 2 ^ j * (m / 2 ^ j % 2) := by rw [Nat.pow_succ, Nat.mod_mul]
set_option maxHeartbeats 2000000 in
set_option maxRecDepth 100000 in
theorem rExp_calls (n : Int) (w : World) (hn : n ≤ 0) (h9 : -9223372036854775808 ≤ n) :
    Calls Tryd.prog 50 #[.int .i64 n] w fun e w' => e = .returned (.int .i64 (expV n)) ∧ Below w.heap.size w w' := by
  by_cases hs : n ≤ -1048576
  · have HV := Aside0.mk (show expV n = 0 from if_pos hs)
    rw [HV.out]
    have hnD2 : decide (n ≤ -1048576) = true := by simp; omega
    go_enter Tryd.func50, Tryd.ntmps50
    go_wp2
    go_ret
    exact ⟨rfl, Below.refl _ _⟩
  · have HV := Aside0.mk (show expV n = expF (-n) 20 from if_neg hs)
    rw [HV.out]
    clear HV
    obtain ⟨m, hm⟩ : ∃ m : Nat, -n = (m : Int) := ⟨(-n).toNat, by omega⟩
    rw [hm]
    have hnD2 : decide (n ≤ -1048576) = false := by simp; omega
    have hm1 : m < 1048576 := by omega
    go_enter Tryd.func50, Tryd.ntmps50
    go_wp2
    go_loopw [4, 5, 6, 7] (fun v4 v5 v6 v7 wr => ∃ k : Nat, k ≤ 20 ∧ v7 = .int .i64 k ∧ v4 = .int .i64 (expF m k) ∧ v5 = .int .i64 (m % 2 ^ (20 - k) : Nat) ∧ v6 = .int .i64 (2 ^ (20 - k) / 2 : Nat) ∧ wr = w.alloc (.cells (nums .i64 stepsL).toArray 3)) (fun _ _ _ v7 _ => 20 - (intOf v7).toNat)
    case atStart => exact ⟨0, Nat.zero_le _, rfl, rfl, by rw [Nat.mod_eq_of_lt (by omega)], rfl, rfl⟩
    case round =>
      obtain ⟨k, hk, rfl, rfl, rfl, rfl, rfl⟩ := hrel
      by_cases hlt : k < 20
      · obtain ⟨j, hj⟩ : ∃ j, 19 - k = j := ⟨_, rfl⟩
        have HJ := Aside0.mk (show 20 - k = j + 1 by omega)
        have HJ2 := Aside0.mk (show 20 - (k + 1) = j by omega)
        have HJ3 := Aside0.mk hj
        rw [HJ.out]
        clear hj
        obtain ⟨P, hP⟩ : ∃ P, 2 ^ j = P := ⟨_, rfl⟩
        have hP0 : 0 < P := by rw [← hP]; exact Nat.pow_pos (by decide)
        have hP1 : P ≤ 524288 := by rw [← hP]; exact Nat.le_trans (Nat.pow_le_pow_right (n := 2) (by decide) (show j ≤ 19 by have := HJ3.out; omega)) (by decide)
        have hbs := bit_step m j
        have hhalf : 2 ^ (j + 1) / 2 = P := by rw [Nat.pow_succ, hP]; omega
        rw [hhalf]
        rw [hP] at hbs
        have HSt := Aside0.mk (show expF m (k + 1) = expStep m k (expF m k) from rfl)
        have HBt := Aside0.mk (show (m : Int) / 2 ^ (19 - k) % 2 = ((m / P % 2 : Nat) : Int) by rw [HJ3.out, ← hP]; simp)
        have HPo := Aside0.mk hP
        have HE := Aside0.mk (expF_bound m k)
        have HSb := Aside0.mk (steps_bound k)
        have hr0 : m % P < P := Nat.mod_lt _ hP0
        obtain ⟨r1, hr1⟩ : ∃ r1, m % 2 ^ (j + 1) = r1 := ⟨_, rfl⟩
        rw [hr1] at hbs ⊢
        clear hr1 hP hhalf
        rcases Nat.mod_two_eq_zero_or_one (m / P) with hb | hb
        · have HN2 := Aside0.mk (show expF m (k + 1) = expF m k by rw [HSt.out, expStep, if_pos (by rw [HBt.out, hb]; rfl)])
          rw [hb, Nat.mul_zero, Nat.add_zero] at hbs
          have HR1 := Aside0.mk hbs
          have hgD : decide (P ≤ r1) = false := by simp; omega
          clear hbs hb HSt HBt
          generalize expF m k = out at *
          go_wp2
          go_roundw
          case measure => simp [intOf]; omega
          case rel => exact ⟨k + 1, by omega, by go_num, by rw [HN2.out], by rw [HJ2.out, HPo.out, HR1.out], by rw [HJ2.out, HPo.out]; go_num, trivial⟩
        · have HN2 := Aside0.mk (show expF m (k + 1) = prodV (expF m k) (stepsL.getD k 0) by rw [HSt.out, expStep, if_neg (by rw [HBt.out, hb]; decide)])
          rw [hb, Nat.mul_one] at hbs
          have HR1 := Aside0.mk hbs
          have hgD : decide (P ≤ r1) = true := by simp; omega
          have hPr1 : P ≤ r1 := by omega
          have hr12 : r1 < 2097152 := by omega
          have hrs : (r1 : Int) - (P : Int) = ((m % P : Nat) : Int) := by omega
          have hx : (w.alloc (.cells (nums .i64 stepsL).toArray 3)).cell? ⟨w.heap.size, k, none⟩ = some (.int .i64 (stepsL.getD k 0)) := by
            have h := (reads_lit w .i64 3 stepsL (by decide)).2.2 (by decide)
            obtain ⟨ad, e, h2⟩ := h
            cases e
            have h3 := h2 k hlt
            rwa [add_plain] at h3
          clear hbs hb HSt HBt
          have HP := Aside0.mk (prod_small HE.out HSb.out)
          generalize expF m k = out at *
          generalize stepsL.getD k 0 = sk at *
          obtain ⟨r0, hr0e⟩ : ∃ r0, m % P = r0 := ⟨_, rfl⟩
          have HR0 := Aside0.mk hr0e
          rw [hr0e] at HR1 hrs hr0
          clear hr0e
          obtain ⟨pr, hpr⟩ : ∃ pr, out * sk = pr := ⟨_, rfl⟩
          have HPr := Aside0.mk hpr
          have hp0 : 0 ≤ pr := by rw [← hpr]; exact HP.out.1
          have hp1 : pr ≤ 65536 * 65535 := by rw [← hpr]; exact HP.out.2
          go_wp2_with (go_at_call 41; refine (Round_calls pr _ (by omega) (by omega) (roundV pr) rfl).mono ?_; rintro e w' ⟨rfl, rfl⟩)
          go_roundw
          case measure => simp [intOf]; omega
          case rel => exact ⟨k + 1, by omega, by go_num, by rw [HN2.out, prodV_round, HPr.out], by rw [HJ2.out, HPo.out, HR0.out], by rw [HJ2.out, HPo.out]; go_num, trivial⟩
      · obtain rfl : k = 20 := by omega
        go_wp2
        go_ret
        exact ⟨rfl, bel_alloc (Below.refl _ _) _⟩
end Go.Proofs.YtfameghednapkaaDoor.Fixed
