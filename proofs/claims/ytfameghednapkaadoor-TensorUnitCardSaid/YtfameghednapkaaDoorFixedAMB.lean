/- fixed: told, Add, Mul: what they answer. -/
import Derived.Test.YtfameghednapkaaDoorBunT3
namespace Go.Proofs.YtfameghednapkaaDoor.Fixed
open Go.RowKit Go.Proofs.YtfameghednapkaaDoorW.PrintWords Go.Proofs.YtfameghednapkaaDoorW.PrintLast Go.Proofs.YtfameghednapkaaDoorW.PrintMore Go.Proofs.YtfameghednapkaaDoor.K
set_option linter.unusedVariables false
theorem told_calls (x : Int) (w : World) (r1 r2 : Int) (hr : toldV x = (r1, r2)) :
    Calls Tryd.prog 72 #[.int .i64 x] w fun e w' => e = .returned (.tuple #[.int .i64 r1, .int .i64 r2]) ∧ Below w.heap.size w w' := by
  cases h : inR x with
  | true =>
    obtain ⟨rfl, rfl⟩ : x = r1 ∧ (0 : Int) = r2 := by simpa [toldV, h] using hr
    have HRr := Aside0.mk h
    clear hr h
    go_enter Tryd.func72, Tryd.ntmps72
    go_wp2_with (fail)
    refine (check_n _ _ _ [x] _ (one_int w x) 0 (by rw [check1_val, if_pos HRr.out])).mono ?_
    rintro e w1 ⟨rfl, hd⟩
    have HB := Aside0.mk (below_step (bel_alloc (Below.refl _ _) _) hd.below)
    clear hd
    go_wp2_with (fail)
    go_ret2
    exact ⟨rfl, HB.out⟩
  | false =>
    obtain ⟨rfl, rfl⟩ : (0 : Int) = r1 ∧ (17 : Int) = r2 := by simpa [toldV, h] using hr
    have HRr := Aside0.mk h
    clear hr h
    go_enter Tryd.func72, Tryd.ntmps72
    go_wp2_with (fail)
    refine (check_n _ _ _ [x] _ (one_int w x) 10 (by rw [check1_val, if_neg (by rw [HRr.out]; decide)])).mono ?_
    rintro e w1 ⟨rfl, hd⟩
    have HB := Aside0.mk (below_step (bel_alloc (Below.refl _ _) _) hd.below)
    clear hd
    go_wp2_with (fail)
    go_ret2
    exact ⟨rfl, HB.out⟩
theorem prod_bound {a b : Int} (ha : inR a = true) (hb : inR b = true) : -4611686018427387904 ≤ a * b ∧ a * b ≤ 4611686018427387904 := by
  obtain ⟨a1, a2⟩ := inR_true ha
  obtain ⟨b1, b2⟩ := inR_true hb
  have h : (a * b).natAbs ≤ 2147483648 * 2147483648 := by
    rw [Int.natAbs_mul]
    exact Nat.mul_le_mul (by omega) (by omega)
  omega
set_option maxHeartbeats 1000000 in
theorem Add_calls (a b : Int) (w : World) (r1 r2 : Int) (hr : addV a b = (r1, r2)) :
    Calls Tryd.prog 61 #[.int .i64 a, .int .i64 b] w fun e w' => e = .returned (.tuple #[.int .i64 r1, .int .i64 r2]) ∧ Below w.heap.size w w' := by
  unfold addV at hr
  by_cases hN : inR a = true ∧ inR b = true
  · rw [if_pos hN] at hr
    have HN := Aside0.mk hN
    obtain ⟨a1, a2⟩ := inR_true hN.1
    obtain ⟨b1, b2⟩ := inR_true hN.2
    obtain ⟨p1, p2⟩ := prod_bound hN.1 hN.2
    clear hN
    have HR := Aside0.mk hr
    clear hr p1 p2
    go_enter Tryd.func61, Tryd.ntmps61
    go_wp2_with (fail)
    refine (check_n _ _ _ [a, b] _ (two_ints w a b) 0 (by rw [check2_val, if_pos HN.out])).mono ?_
    rintro e w1 ⟨rfl, hd⟩
    have HB := Aside0.mk (below_step (bel_alloc (Below.refl _ _) _) hd.below)
    clear hd
    go_wp2_with (fail)
    refine (told_calls (a + b) _ r1 r2 HR.out).mono ?_
    rintro e w2 ⟨rfl, hb⟩
    have HB2 := Aside0.mk (below_step HB.out hb)
    clear hb
    go_wp2_with (fail)
    go_ret2
    exact ⟨rfl, HB2.out⟩
  · rw [if_neg hN] at hr
    obtain ⟨rfl, rfl⟩ : (0 : Int) = r1 ∧ (10 : Int) = r2 := by simpa using hr
    have HN := Aside0.mk hN
    clear hr hN
    go_enter Tryd.func61, Tryd.ntmps61
    go_wp2_with (fail)
    refine (check_n _ _ _ [a, b] _ (two_ints w a b) 10 (by rw [check2_val, if_neg HN.out])).mono ?_
    rintro e w1 ⟨rfl, hd⟩
    have HB := Aside0.mk (below_step (bel_alloc (Below.refl _ _) _) hd.below)
    clear hd
    go_wp2_with (fail)
    go_ret2
    exact ⟨rfl, HB.out⟩
set_option maxHeartbeats 1000000 in
theorem Mul_calls (a b : Int) (w : World) (r1 r2 : Int) (hr : mulV a b = (r1, r2)) :
    Calls Tryd.prog 69 #[.int .i64 a, .int .i64 b] w fun e w' => e = .returned (.tuple #[.int .i64 r1, .int .i64 r2]) ∧ Below w.heap.size w w' := by
  unfold mulV at hr
  by_cases hN : inR a = true ∧ inR b = true
  · rw [if_pos hN] at hr
    have HN := Aside0.mk hN
    obtain ⟨a1, a2⟩ := inR_true hN.1
    obtain ⟨b1, b2⟩ := inR_true hN.2
    obtain ⟨p1, p2⟩ := prod_bound hN.1 hN.2
    clear hN
    have HR := Aside0.mk hr
    have HP1 := Aside0.mk p1
    have HP2 := Aside0.mk p2
    clear hr p1 p2
    go_enter Tryd.func69, Tryd.ntmps69
    go_wp2_with (fail)
    refine (check_n _ _ _ [a, b] _ (two_ints w a b) 0 (by rw [check2_val, if_pos HN.out])).mono ?_
    rintro e w1 ⟨rfl, hd⟩
    have HB := Aside0.mk (below_step (bel_alloc (Below.refl _ _) _) hd.below)
    clear hd
    go_wp2_with (fail)
    refine (product_calls a b _ (prodV a b) HP1.out HP2.out rfl).mono ?_
    rintro e w2 ⟨rfl, rfl⟩
    go_wp2_with (fail)
    refine (told_calls (prodV a b) _ r1 r2 HR.out).mono ?_
    rintro e w3 ⟨rfl, hb⟩
    have HB2 := Aside0.mk (below_step HB.out hb)
    clear hb
    go_wp2_with (fail)
    go_ret2
    exact ⟨rfl, HB2.out⟩
  · rw [if_neg hN] at hr
    obtain ⟨rfl, rfl⟩ : (0 : Int) = r1 ∧ (10 : Int) = r2 := by simpa using hr
    have HN := Aside0.mk hN
    clear hr hN
    go_enter Tryd.func69, Tryd.ntmps69
    go_wp2_with (fail)
    refine (check_n _ _ _ [a, b] _ (two_ints w a b) 10 (by rw [check2_val, if_neg HN.out])).mono ?_
    rintro e w1 ⟨rfl, hd⟩
    have HB := Aside0.mk (below_step (bel_alloc (Below.refl _ _) _) hd.below)
    clear hd
    go_wp2_with (fail)
    go_ret2
    exact ⟨rfl, HB.out⟩
theorem fdiv_t (n b : Int) (hb : b ≠ 0) : Int.fdiv n b = if Int.tmod n b ≠ 0 ∧ decide (n < 0) ≠ decide (b < 0) then Int.tdiv n b - 1 else Int.tdiv n b := by
  rw [Int.fdiv_eq_tdiv]
  by_cases h : b ∣ n
  · have h0 : Int.tmod n b = 0 := Int.tmod_eq_zero_of_dvd h
    rw [if_pos h, if_neg (by simp [h0])]
    omega
  · have h0 : Int.tmod n b ≠ 0 := fun e => h (Int.dvd_of_tmod_eq_zero e)
    rw [if_neg h]
    rcases Int.lt_or_le n 0 with hn | hn <;> rcases Int.lt_or_le b 0 with h2 | h2
    · rw [Int.sign_eq_neg_one_of_neg h2, if_neg (by omega), if_neg (by omega), if_neg (by simp; omega)]
      omega
    · rw [Int.sign_eq_one_of_pos (by omega), if_neg (by omega), if_pos h2, if_pos ⟨h0, by simp; omega⟩]
    · rw [if_pos hn, if_neg (by omega), if_pos ⟨h0, by simp; omega⟩]
    · rw [if_pos hn, if_pos h2, if_neg (by simp; omega)]
      omega
end Go.Proofs.YtfameghednapkaaDoor.Fixed
