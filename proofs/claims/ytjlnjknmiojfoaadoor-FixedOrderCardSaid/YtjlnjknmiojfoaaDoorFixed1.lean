/- fixed: check, Check, told, product, Add, Mul, Div: what they answer. -/
import Derived.Test.YtjlnjknmiojfoaaDoorK
namespace Go.Proofs.YtjlnjknmiojfoaaDoor.Fixed
open Go.RowKit Go.Proofs.YtjlnjknmiojfoaaDoorW.PrintWords Go.Proofs.YtjlnjknmiojfoaaDoorW.PrintLast Go.Proofs.YtjlnjknmiojfoaaDoorW.PrintMore Go.Proofs.YtjlnjknmiojfoaaDoor.K
set_option linter.unusedVariables false
def inR (n : Int) : Bool := decide (-2147483648 ≤ n ∧ n ≤ 2147483647)
def toldV (n : Int) : Int × Int := if inR n = true then (n, 0) else (0, 17)
def prodV (a b : Int) : Int := (a * b + 32768) / 65536
def addV (a b : Int) : Int × Int := if inR a = true ∧ inR b = true then toldV (a + b) else (0, 10)
def mulV (a b : Int) : Int × Int := if inR a = true ∧ inR b = true then toldV (prodV a b) else (0, 10)
def divV (a b : Int) : Int × Int := if inR a = true ∧ inR b = true then (if b = 0 then (0, 26) else toldV (Int.fdiv (a * 65536) b)) else (0, 10)
theorem inR_true {n : Int} (h : inR n = true) : -2147483648 ≤ n ∧ n ≤ 2147483647 := of_decide_eq_true h
theorem inR_false {n : Int} (h : inR n = false) : n < -2147483648 ∨ 2147483647 < n := by
  have := of_decide_eq_false h
  omega
theorem one_int (w : World) (x : Int) : Kd.C (Kd.int .i64) (w.alloc (.cells #[.int .i64 x] 3)) (some ⟨w.heap.size, 0, none⟩) 1 [x] := C_int (reads_lit w .i64 3 [x] (by simp))
theorem two_ints (w : World) (x y : Int) : Kd.C (Kd.int .i64) (w.alloc (.cells #[.int .i64 x, .int .i64 y] 3)) (some ⟨w.heap.size, 0, none⟩) 2 [x, y] := C_int (reads_lit w .i64 3 [x, y] (by simp))
set_option maxHeartbeats 1000000 in
theorem check_n (A : Option Addr) (n c : Nat) (xs : List Int) (w : World) (hx : Kd.C (Kd.int .i64) w A n xs) (r : Int) (hr : (if xs.all inR = true then 0 else 10) = r) :
    Calls Tryd.prog 25 #[.slice A n c] w fun e w' => e = .returned (.int .i64 r) ∧ Drawn0 w w' := by
  obtain rfl := hx.1
  have HX := Aside0.mk hx
  have HRr := Aside0.mk hr
  have hm := hx.2.1
  clear hx hr
  go_enter Tryd.func25, Tryd.ntmps25
  go_wp2
  go_loop [7] (fun v7 => ∃ k : Nat, k ≤ xs.length ∧ v7 = .int .i64 k ∧ Aside0 ((xs.take k).all inR = true)) (fun v7 => xs.length - (intOf v7).toNat)
  case atStart => exact ⟨0, Nat.zero_le _, rfl, ⟨by simp⟩⟩
  case round =>
    obtain ⟨k, hk, rfl, HE⟩ := hrel
    by_cases hlt : k < xs.length
    · obtain ⟨ad, rfl, hx⟩ := int_at HX.out k hlt
      have HG := Aside0.mk (show xs.take (k + 1) = xs.take k ++ [xs.getD k 0] by rw [List.take_succ_eq_append_getElem hlt]; simp [List.getElem?_eq_getElem hlt])
      have HI := Aside0.mk (show xs.getD k 0 ∈ xs by rw [List.getD_eq_getElem?_getD, List.getElem?_eq_getElem hlt]; exact List.getElem_mem hlt)
      generalize xs.getD k 0 = x at *
      have HF : Aside0 (inR x = false → r = 10) := ⟨fun h => by
        rw [← HRr.out, if_neg]
        intro h2
        have := List.all_eq_true.1 h2 x HI.out
        rw [h] at this
        cases this⟩
      rcases Int.lt_or_le x (-2147483648) with h1 | h1
      · have h1D : decide (x < -2147483648) = true := by simpa using h1
        obtain rfl := HF.out (by unfold inR; simp; omega)
        go_wp2
        go_ret
        exact ⟨rfl, ⟨0, rfl⟩⟩
      · have h1D : decide (x < -2147483648) = false := by simp; omega
        rcases Int.lt_or_le 2147483647 x with h2 | h2
        · have h2D : decide (2147483647 < x) = true := by simpa using h2
          obtain rfl := HF.out (by unfold inR; simp; omega)
          go_wp2
          go_ret
          exact ⟨rfl, ⟨0, rfl⟩⟩
        · have h2D : decide (2147483647 < x) = false := by simp; omega
          have HX2 := Aside0.mk (show inR x = true by unfold inR; simp; omega)
          go_wp2
          go_round
          case measure => simp [intOf]; omega
          case rel => exact ⟨k + 1, by omega, by go_num, ⟨by rw [HG.out, List.all_append, HE.out]; simp [HX2.out]⟩⟩
    · obtain rfl : k = xs.length := by omega
      have hr0 : r = 0 := by
        have h1 := HE.out
        rw [List.take_length] at h1
        rw [← HRr.out, if_pos h1]
      subst hr0
      go_wp2
      go_ret
      exact ⟨rfl, ⟨0, rfl⟩⟩
theorem check1_val (x : Int) : (if [x].all inR = true then (0 : Int) else 10) = if inR x = true then 0 else 10 := by simp
theorem check2_val (x y : Int) : (if [x, y].all inR = true then (0 : Int) else 10) = if inR x = true ∧ inR y = true then 0 else 10 := by simp
theorem Check_calls (x : Int) (w : World) (r : Int) (hr : (if inR x = true then 0 else 10) = r) :
    Calls Tryd.prog 21 #[.int .i64 x] w fun e w' => e = .returned (.int .i64 r) ∧ Below w.heap.size w w' := by
  have HRr := Aside0.mk hr
  clear hr
  go_enter Tryd.func21, Tryd.ntmps21
  go_wp2_with (fail)
  refine (check_n _ _ _ [x] _ (one_int w x) r (by rw [check1_val]; exact HRr.out)).mono ?_
  rintro e w1 ⟨rfl, hd⟩
  have HB := Aside0.mk (below_step (bel_alloc (Below.refl _ _) _) hd.below)
  clear hd
  go_wp2_with (fail)
  go_ret
  exact ⟨rfl, HB.out⟩
theorem told_calls (x : Int) (w : World) (r1 r2 : Int) (hr : toldV x = (r1, r2)) :
    Calls Tryd.prog 29 #[.int .i64 x] w fun e w' => e = .returned (.tuple #[.int .i64 r1, .int .i64 r2]) ∧ Below w.heap.size w w' := by
  cases h : inR x with
  | true =>
    obtain ⟨rfl, rfl⟩ : x = r1 ∧ (0 : Int) = r2 := by simpa [toldV, h] using hr
    have HRr := Aside0.mk h
    clear hr h
    go_enter Tryd.func29, Tryd.ntmps29
    go_wp2_with (fail)
    refine (check_n _ _ _ [x] _ (one_int w x) 0 (by rw [check1_val, if_pos HRr.out])).mono ?_
    rintro e w1 ⟨rfl, hd⟩
    have HB := Aside0.mk (below_step (bel_alloc (Below.refl _ _) _) hd.below)
    clear hd
    go_wp2_with (fail)
    go_ret2
    exact ⟨rfl, HB.out⟩
  | false =>
    obtain ⟨rfl, rfl⟩ : (0 : Int) = r1 ∧ (17 : Int) = r2 := by simpa [toldV, h] using hr
    have HRr := Aside0.mk h
    clear hr h
    go_enter Tryd.func29, Tryd.ntmps29
    go_wp2_with (fail)
    refine (check_n _ _ _ [x] _ (one_int w x) 10 (by rw [check1_val, if_neg (by rw [HRr.out]; decide)])).mono ?_
    rintro e w1 ⟨rfl, hd⟩
    have HB := Aside0.mk (below_step (bel_alloc (Below.refl _ _) _) hd.below)
    clear hd
    go_wp2_with (fail)
    go_ret2
    exact ⟨rfl, HB.out⟩
theorem product_calls (a b : Int) (w : World) (r : Int) (h1 : -4611686018427387904 ≤ a * b) (h2 : a * b ≤ 4611686018427387904) (hr : prodV a b = r) :
    Calls Tryd.prog 27 #[.int .i64 a, .int .i64 b] w fun e w' => e = .returned (.int .i64 r) ∧ w = w' := by
  unfold prodV at hr
  obtain ⟨p, hp⟩ : ∃ p, a * b = p := ⟨_, rfl⟩
  rw [hp] at h1 h2 hr
  subst hr
  have hw1 : IntKind.i64.wrap p = p := IntWalk.i64_in _ (by omega)
  go_enter Tryd.func27, Tryd.ntmps27
  go_wp2
  go_ret
  exact ⟨rfl, rfl⟩
theorem prod_bound {a b : Int} (ha : inR a = true) (hb : inR b = true) : -4611686018427387904 ≤ a * b ∧ a * b ≤ 4611686018427387904 := by
  obtain ⟨a1, a2⟩ := inR_true ha
  obtain ⟨b1, b2⟩ := inR_true hb
  have h : (a * b).natAbs ≤ 2147483648 * 2147483648 := by
    rw [Int.natAbs_mul]
    exact Nat.mul_le_mul (by omega) (by omega)
  omega
set_option maxHeartbeats 1000000 in
theorem Add_calls (a b : Int) (w : World) (r1 r2 : Int) (hr : addV a b = (r1, r2)) :
    Calls Tryd.prog 19 #[.int .i64 a, .int .i64 b] w fun e w' => e = .returned (.tuple #[.int .i64 r1, .int .i64 r2]) ∧ Below w.heap.size w w' := by
  unfold addV at hr
  by_cases hN : inR a = true ∧ inR b = true
  · rw [if_pos hN] at hr
    have HN := Aside0.mk hN
    obtain ⟨a1, a2⟩ := inR_true hN.1
    obtain ⟨b1, b2⟩ := inR_true hN.2
    obtain ⟨p1, p2⟩ := prod_bound hN.1 hN.2
    clear hN
    have HR := Aside0.mk hr
    clear hr p1 p2
    go_enter Tryd.func19, Tryd.ntmps19
    go_wp2_with (fail)
    refine (check_n _ _ _ [a, b] _ (two_ints w a b) 0 (by rw [check2_val, if_pos HN.out])).mono ?_
    rintro e w1 ⟨rfl, hd⟩
    have HB := Aside0.mk (below_step (bel_alloc (Below.refl _ _) _) hd.below)
    clear hd
    go_wp2_with (fail)
    refine (told_calls (a + b) _ r1 r2 HR.out).mono ?_
    rintro e w2 ⟨rfl, hb⟩
    have HB2 := Aside0.mk (below_step HB.out hb)
    clear hb
    go_wp2_with (fail)
    go_ret2
    exact ⟨rfl, HB2.out⟩
  · rw [if_neg hN] at hr
    obtain ⟨rfl, rfl⟩ : (0 : Int) = r1 ∧ (10 : Int) = r2 := by simpa using hr
    have HN := Aside0.mk hN
    clear hr hN
    go_enter Tryd.func19, Tryd.ntmps19
    go_wp2_with (fail)
    refine (check_n _ _ _ [a, b] _ (two_ints w a b) 10 (by rw [check2_val, if_neg HN.out])).mono ?_
    rintro e w1 ⟨rfl, hd⟩
    have HB := Aside0.mk (below_step (bel_alloc (Below.refl _ _) _) hd.below)
    clear hd
    go_wp2_with (fail)
    go_ret2
    exact ⟨rfl, HB.out⟩
set_option maxHeartbeats 1000000 in
theorem Mul_calls (a b : Int) (w : World) (r1 r2 : Int) (hr : mulV a b = (r1, r2)) :
    Calls Tryd.prog 20 #[.int .i64 a, .int .i64 b] w fun e w' => e = .returned (.tuple #[.int .i64 r1, .int .i64 r2]) ∧ Below w.heap.size w w' := by
  unfold mulV at hr
  by_cases hN : inR a = true ∧ inR b = true
  · rw [if_pos hN] at hr
    have HN := Aside0.mk hN
    obtain ⟨a1, a2⟩ := inR_true hN.1
    obtain ⟨b1, b2⟩ := inR_true hN.2
    obtain ⟨p1, p2⟩ := prod_bound hN.1 hN.2
    clear hN
    have HR := Aside0.mk hr
    have HP1 := Aside0.mk p1
    have HP2 := Aside0.mk p2
    clear hr p1 p2
    go_enter Tryd.func20, Tryd.ntmps20
    go_wp2_with (fail)
    refine (check_n _ _ _ [a, b] _ (two_ints w a b) 0 (by rw [check2_val, if_pos HN.out])).mono ?_
    rintro e w1 ⟨rfl, hd⟩
    have HB := Aside0.mk (below_step (bel_alloc (Below.refl _ _) _) hd.below)
    clear hd
    go_wp2_with (fail)
    refine (product_calls a b _ (prodV a b) HP1.out HP2.out rfl).mono ?_
    rintro e w2 ⟨rfl, rfl⟩
    go_wp2_with (fail)
    refine (told_calls (prodV a b) _ r1 r2 HR.out).mono ?_
    rintro e w3 ⟨rfl, hb⟩
    have HB2 := Aside0.mk (below_step HB.out hb)
    clear hb
    go_wp2_with (fail)
    go_ret2
    exact ⟨rfl, HB2.out⟩
  · rw [if_neg hN] at hr
    obtain ⟨rfl, rfl⟩ : (0 : Int) = r1 ∧ (10 : Int) = r2 := by simpa using hr
    have HN := Aside0.mk hN
    clear hr hN
    go_enter Tryd.func20, Tryd.ntmps20
    go_wp2_with (fail)
    refine (check_n _ _ _ [a, b] _ (two_ints w a b) 10 (by rw [check2_val, if_neg HN.out])).mono ?_
    rintro e w1 ⟨rfl, hd⟩
    have HB := Aside0.mk (below_step (bel_alloc (Below.refl _ _) _) hd.below)
    clear hd
    go_wp2_with (fail)
    go_ret2
    exact ⟨rfl, HB.out⟩
theorem fdiv_t (n b : Int) (hb : b ≠ 0) : Int.fdiv n b = if Int.tmod n b ≠ 0 ∧ decide (n < 0) ≠ decide (b < 0) then Int.tdiv n b - 1 else Int.tdiv n b := by
  rw [Int.fdiv_eq_tdiv]
  by_cases h : b ∣ n
  · have h0 : Int.tmod n b = 0 := Int.tmod_eq_zero_of_dvd h
    rw [if_pos h, if_neg (by simp [h0])]
    omega
  · have h0 : Int.tmod n b ≠ 0 := fun e => h (Int.dvd_of_tmod_eq_zero e)
    rw [if_neg h]
    rcases Int.lt_or_le n 0 with hn | hn <;> rcases Int.lt_or_le b 0 with h2 | h2
    · rw [Int.sign_eq_neg_one_of_neg h2, if_neg (by omega), if_neg (by omega), if_neg (by simp; omega)]
      omega
    · rw [Int.sign_eq_one_of_pos (by omega), if_neg (by omega), if_pos h2, if_pos ⟨h0, by simp; omega⟩]
    · rw [if_pos hn, if_neg (by omega), if_pos ⟨h0, by simp; omega⟩]
    · rw [if_pos hn, if_pos h2, if_neg (by simp; omega)]
      omega
theorem tdiv_bound (n b : Int) : (Int.tdiv n b).natAbs ≤ n.natAbs := by
  rw [Int.natAbs_tdiv]
  exact Nat.div_le_self _ _
set_option maxHeartbeats 1000000 in
theorem Div_calls (a b : Int) (w : World) (r1 r2 : Int) (hr : divV a b = (r1, r2)) :
    Calls Tryd.prog 23 #[.int .i64 a, .int .i64 b] w fun e w' => e = .returned (.tuple #[.int .i64 r1, .int .i64 r2]) ∧ Below w.heap.size w w' := by
  unfold divV at hr
  by_cases hN : inR a = true ∧ inR b = true
  · rw [if_pos hN] at hr
    have HN := Aside0.mk hN
    obtain ⟨a1, a2⟩ := inR_true hN.1
    obtain ⟨b1, b2⟩ := inR_true hN.2
    obtain ⟨p1, p2⟩ := prod_bound hN.1 hN.2
    clear hN
    clear p1 p2
    by_cases hb : b = 0
    · subst hb
      rw [if_pos rfl] at hr
      obtain ⟨rfl, rfl⟩ : (0 : Int) = r1 ∧ (26 : Int) = r2 := by simpa using hr
      clear hr
      go_enter Tryd.func23, Tryd.ntmps23
      go_wp2_with (fail)
      refine (check_n _ _ _ [a, 0] _ (two_ints w a 0) 0 (by rw [check2_val, if_pos HN.out])).mono ?_
      rintro e w1 ⟨rfl, hd⟩
      have HB := Aside0.mk (below_step (bel_alloc (Below.refl _ _) _) hd.below)
      clear hd
      go_wp2_with (fail)
      go_ret2
      exact ⟨rfl, HB.out⟩
    · rw [if_neg hb] at hr
      have HF := Aside0.mk (fdiv_t (a * 65536) b hb)
      have HR := Aside0.mk hr
      have hbI : (b == 0) = false := by rw [beq_eq_false_iff_ne]; exact hb
      have hqb := tdiv_bound (a * 65536) b
      generalize hq : Int.tdiv (a * 65536) b = q at *
      generalize hmm : Int.tmod (a * 65536) b = m at *
      have hq1 : -140737488355328 ≤ q := by omega
      have hq2 : q ≤ 140737488355328 := by omega
      clear hr hqb
      by_cases hz : m = 0
      · subst hz
        have HR2 := Aside0.mk (show toldV q = (r1, r2) by have h := HR.out; rw [HF.out, if_neg (by simp)] at h; exact h)
        clear HF HR
        go_enter Tryd.func23, Tryd.ntmps23
        go_wp2_with (fail)
        refine (check_n _ _ _ [a, b] _ (two_ints w a b) 0 (by rw [check2_val, if_pos HN.out])).mono ?_
        rintro e w1 ⟨rfl, hd⟩
        have HB := Aside0.mk (below_step (bel_alloc (Below.refl _ _) _) hd.below)
        clear hd
        go_wp2_with (fail)
        refine (told_calls q _ r1 r2 HR2.out).mono ?_
        rintro e w2 ⟨rfl, hb⟩
        have HB2 := Aside0.mk (below_step HB.out hb)
        clear hb
        go_wp2_with (fail)
        go_ret2
        exact ⟨rfl, HB2.out⟩
      · have HS := Aside0.mk hz
        have hzI : (m == 0) = false := by rw [beq_eq_false_iff_ne]; exact hz
        have hzN : (m != 0) = true := by rw [bne_iff_ne]; exact hz
        obtain ⟨s1, hs1⟩ : ∃ s, decide (a * 65536 < 0) = s := ⟨_, rfl⟩
        obtain ⟨s2, hs2⟩ : ∃ s, decide (b < 0) = s := ⟨_, rfl⟩
        by_cases hss : s1 = s2
        · subst hss
          have HR2 := Aside0.mk (show toldV q = (r1, r2) by have h := HR.out; rw [HF.out, if_neg (by rw [hs1, hs2]; simp)] at h; exact h)
          clear HF HR hz
          cases s1
          · go_enter Tryd.func23, Tryd.ntmps23
            go_wp2_with (fail)
            refine (check_n _ _ _ [a, b] _ (two_ints w a b) 0 (by rw [check2_val, if_pos HN.out])).mono ?_
            rintro e w1 ⟨rfl, hd⟩
            have HB := Aside0.mk (below_step (bel_alloc (Below.refl _ _) _) hd.below)
            clear hd
            go_wp2_with (fail)
            refine (told_calls q _ r1 r2 HR2.out).mono ?_
            rintro e w2 ⟨rfl, hb⟩
            have HB2 := Aside0.mk (below_step HB.out hb)
            clear hb
            go_wp2_with (fail)
            go_ret2
            exact ⟨rfl, HB2.out⟩
          · go_enter Tryd.func23, Tryd.ntmps23
            go_wp2_with (fail)
            refine (check_n _ _ _ [a, b] _ (two_ints w a b) 0 (by rw [check2_val, if_pos HN.out])).mono ?_
            rintro e w1 ⟨rfl, hd⟩
            have HB := Aside0.mk (below_step (bel_alloc (Below.refl _ _) _) hd.below)
            clear hd
            go_wp2_with (fail)
            refine (told_calls q _ r1 r2 HR2.out).mono ?_
            rintro e w2 ⟨rfl, hb⟩
            have HB2 := Aside0.mk (below_step HB.out hb)
            clear hb
            go_wp2_with (fail)
            go_ret2
            exact ⟨rfl, HB2.out⟩
        · have HR2 := Aside0.mk (show toldV (q - 1) = (r1, r2) by have h := HR.out; rw [HF.out, if_pos (by rw [hs1, hs2]; exact ⟨HS.out, hss⟩)] at h; exact h)
          clear HF HR hz
          cases s1 <;> cases s2
          · exact absurd rfl hss
          · clear hss
            go_enter Tryd.func23, Tryd.ntmps23
            go_wp2_with (fail)
            refine (check_n _ _ _ [a, b] _ (two_ints w a b) 0 (by rw [check2_val, if_pos HN.out])).mono ?_
            rintro e w1 ⟨rfl, hd⟩
            have HB := Aside0.mk (below_step (bel_alloc (Below.refl _ _) _) hd.below)
            clear hd
            go_wp2_with (fail)
            refine (told_calls (q - 1) _ r1 r2 HR2.out).mono ?_
            rintro e w2 ⟨rfl, hb⟩
            have HB2 := Aside0.mk (below_step HB.out hb)
            clear hb
            go_wp2_with (fail)
            go_ret2
            exact ⟨rfl, HB2.out⟩
          · clear hss
            go_enter Tryd.func23, Tryd.ntmps23
            go_wp2_with (fail)
            refine (check_n _ _ _ [a, b] _ (two_ints w a b) 0 (by rw [check2_val, if_pos HN.out])).mono ?_
            rintro e w1 ⟨rfl, hd⟩
            have HB := Aside0.mk (below_step (bel_alloc (Below.refl _ _) _) hd.below)
            clear hd
            go_wp2_with (fail)
            refine (told_calls (q - 1) _ r1 r2 HR2.out).mono ?_
            rintro e w2 ⟨rfl, hb⟩
            have HB2 := Aside0.mk (below_step HB.out hb)
            clear hb
            go_wp2_with (fail)
            go_ret2
            exact ⟨rfl, HB2.out⟩
          · exact absurd rfl hss
  · rw [if_neg hN] at hr
    obtain ⟨rfl, rfl⟩ : (0 : Int) = r1 ∧ (10 : Int) = r2 := by simpa using hr
    have HN := Aside0.mk hN
    clear hr hN
    go_enter Tryd.func23, Tryd.ntmps23
    go_wp2_with (fail)
    refine (check_n _ _ _ [a, b] _ (two_ints w a b) 10 (by rw [check2_val, if_neg HN.out])).mono ?_
    rintro e w1 ⟨rfl, hd⟩
    have HB := Aside0.mk (below_step (bel_alloc (Below.refl _ _) _) hd.below)
    clear hd
    go_wp2_with (fail)
    go_ret2
    exact ⟨rfl, HB.out⟩
end Go.Proofs.YtjlnjknmiojfoaaDoor.Fixed
