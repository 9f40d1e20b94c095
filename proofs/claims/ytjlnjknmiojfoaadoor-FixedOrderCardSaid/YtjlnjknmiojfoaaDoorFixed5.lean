/- Sigmoid, Gate, the law's told, the law's examples. -/
import Derived.Test.YtjlnjknmiojfoaaDoorFixed4
namespace Go.Proofs.YtjlnjknmiojfoaaDoor.Fixed
open Go.RowKit Go.Proofs.YtjlnjknmiojfoaaDoorW.PrintWords Go.Proofs.YtjlnjknmiojfoaaDoorW.PrintLast Go.Proofs.YtjlnjknmiojfoaaDoorW.PrintMore Go.Proofs.YtjlnjknmiojfoaaDoor.K
set_option linter.unusedVariables false
def sigV (n : Int) : Int := if n < 0 then 65536 - 4294967296 / (65536 + expV n) else 4294967296 / (65536 + expV (-n))
theorem sig_div (x : Int) (h : 0 ≤ x ∧ x ≤ 65536) : 32768 ≤ 4294967296 / (65536 + x) ∧ 4294967296 / (65536 + x) ≤ 65536 := by
  have h1 : 0 < 65536 + x := by omega
  exact ⟨(Int.le_ediv_iff_mul_le h1).2 (by omega), Int.ediv_le_of_le_mul h1 (by omega)⟩
theorem sigV_bound (n : Int) : 0 ≤ sigV n ∧ sigV n ≤ 65536 := by
  unfold sigV
  split
  · have := sig_div (expV n) (expV_bound n); omega
  · have := sig_div (expV (-n)) (expV_bound _); omega
def gateV (n : Int) : Int × Int := mulV n (sigV n)
set_option maxHeartbeats 1000000 in
theorem Sigmoid_calls (n : Int) (w : World) (hn : inR n = true) :
    Calls Tryd.prog 18 #[.int .i64 n] w fun e w' => e = .returned (.int .i64 (sigV n)) ∧ Below w.heap.size w w' := by
  obtain ⟨h1, h2⟩ := inR_true hn
  clear hn
  rcases Int.lt_or_le n 0 with hs | hs
  · have HV := Aside0.mk (show sigV n = 65536 - 4294967296 / (65536 + expV n) from if_pos hs)
    have HB := Aside0.mk (expV_bound n)
    have HD := Aside0.mk (sig_div _ HB.out)
    have hnD : decide (n < 0) = true := by simpa using hs
    go_enter Tryd.func18, Tryd.ntmps18
    go_wp2_with (fail)
    refine (rExp_calls n _ (by omega) (by omega)).mono ?_
    rintro e w1 ⟨rfl, hb⟩
    have HW := Aside0.mk hb
    clear hb
    obtain ⟨b1, b2⟩ := HB.out
    obtain ⟨d1, d2⟩ := HD.out
    generalize expV n = x at *
    go_wp2_with (fail)
    go_ret
    exact ⟨by rw [HV.out]; rfl, HW.out⟩
  · have HV := Aside0.mk (show sigV n = 4294967296 / (65536 + expV (-n)) from if_neg (by omega))
    have HB := Aside0.mk (expV_bound (-n))
    have HD := Aside0.mk (sig_div _ HB.out)
    have hnD : decide (n < 0) = false := by simp; omega
    go_enter Tryd.func18, Tryd.ntmps18
    go_wp2_with (fail)
    refine (rExp_calls (-n) _ (by omega) (by omega)).mono ?_
    rintro e w1 ⟨rfl, hb⟩
    have HW := Aside0.mk hb
    clear hb
    obtain ⟨b1, b2⟩ := HB.out
    obtain ⟨d1, d2⟩ := HD.out
    generalize expV (-n) = x at *
    go_wp2_with (fail)
    go_ret
    exact ⟨by rw [HV.out]; rfl, HW.out⟩
set_option maxHeartbeats 1000000 in
theorem Gate_calls (n : Int) (w : World) (hL : LaidAt w 0 stepsA) (hn : inR n = true) (r1 r2 : Int) (hr : gateV n = (r1, r2)) :
    Calls Tryd.prog 15 #[.int .i64 n] w fun e w' => e = .returned (.tuple #[.int .i64 r1, .int .i64 r2]) ∧ Below w.heap.size w w' := by
  obtain ⟨h1, h2⟩ := inR_true hn
  have HN := Aside0.mk hn
  have HL := Aside0.mk hL
  have HR := Aside0.mk hr
  clear hn hL hr
  have H1i := Aside0.mk (one_int w n)
  rcases Int.lt_or_le n 0 with hs | hs
  · have HV := Aside0.mk (show sigV n = 65536 - 4294967296 / (65536 + expV n) from if_pos hs)
    have HB := Aside0.mk (expV_bound n)
    have HD := Aside0.mk (sig_div _ HB.out)
    have hnD : decide (n < 0) = true := by simpa using hs
    go_enter Tryd.func15, Tryd.ntmps15
    go_wp2_with (fail)
    refine (check_n _ _ _ [n] _ H1i.out 0 (by rw [check1_val, if_pos HN.out])).mono ?_
    rintro e w1 ⟨rfl, hd⟩
    have HB1 := Aside0.mk (below_step (bel_alloc (Below.refl _ _) _) hd.below)
    have HL1 := Aside0.mk (HL.out.below HB1.out)
    clear hd
    go_wp2_with (fail)
    refine (Exp_calls n _ HL1.out (by omega) (by omega)).mono ?_
    rintro e w2 ⟨rfl, rfl⟩
    obtain ⟨b1, b2⟩ := HB.out
    obtain ⟨d1, d2⟩ := HD.out
    generalize expV n = x at *
    go_wp2_with (fail)
    refine (Mul_calls n _ _ r1 r2 (by rw [← HV.out]; exact HR.out)).mono ?_
    rintro e w3 ⟨rfl, hb⟩
    have HB3 := Aside0.mk (below_step HB1.out hb)
    clear hb
    go_wp2_with (fail)
    go_ret2
    exact ⟨rfl, HB3.out⟩
  · rcases Int.lt_or_eq_of_le hs with hs | hs
    · have HV := Aside0.mk (show sigV n = 4294967296 / (65536 + expV (-n)) from if_neg (by omega))
      have HB := Aside0.mk (expV_bound (-n))
      have HD := Aside0.mk (sig_div _ HB.out)
      have hnD : decide (n < 0) = false := by simp; omega
      go_enter Tryd.func15, Tryd.ntmps15
      go_wp2_with (fail)
      refine (check_n _ _ _ [n] _ H1i.out 0 (by rw [check1_val, if_pos HN.out])).mono ?_
      rintro e w1 ⟨rfl, hd⟩
      have HB1 := Aside0.mk (below_step (bel_alloc (Below.refl _ _) _) hd.below)
      have HL1 := Aside0.mk (HL.out.below HB1.out)
      clear hd
      go_wp2_with (fail)
      refine (Exp_calls (-n) _ HL1.out (by omega) (by omega)).mono ?_
      rintro e w2 ⟨rfl, rfl⟩
      obtain ⟨b1, b2⟩ := HB.out
      obtain ⟨d1, d2⟩ := HD.out
      generalize expV (-n) = x at *
      go_wp2_with (fail)
      refine (Mul_calls n _ _ r1 r2 (by rw [← HV.out]; exact HR.out)).mono ?_
      rintro e w3 ⟨rfl, hb⟩
      have HB3 := Aside0.mk (below_step HB1.out hb)
      clear hb
      go_wp2_with (fail)
      go_ret2
      exact ⟨rfl, HB3.out⟩
    · subst hs
      have HV := Aside0.mk (show sigV 0 = 4294967296 / (65536 + expV 0) from rfl)
      have HB := Aside0.mk (expV_bound 0)
      have HD := Aside0.mk (sig_div _ HB.out)
      go_enter Tryd.func15, Tryd.ntmps15
      go_wp2_with (fail)
      refine (check_n _ _ _ [0] _ H1i.out 0 (by rw [check1_val, if_pos HN.out])).mono ?_
      rintro e w1 ⟨rfl, hd⟩
      have HB1 := Aside0.mk (below_step (bel_alloc (Below.refl _ _) _) hd.below)
      have HL1 := Aside0.mk (HL.out.below HB1.out)
      clear hd
      go_wp2_with (fail)
      refine (Exp_calls 0 _ HL1.out (by omega) (by omega)).mono ?_
      rintro e w2 ⟨rfl, rfl⟩
      obtain ⟨b1, b2⟩ := HB.out
      obtain ⟨d1, d2⟩ := HD.out
      generalize expV 0 = x at *
      go_wp2_with (fail)
      refine (Mul_calls 0 _ _ r1 r2 (by rw [← HV.out]; exact HR.out)).mono ?_
      rintro e w3 ⟨rfl, hb⟩
      have HB3 := Aside0.mk (below_step HB1.out hb)
      clear hb
      go_wp2_with (fail)
      go_ret2
      exact ⟨rfl, HB3.out⟩
theorem Gate_bad_calls (n : Int) (w : World) (hn : inR n = false) :
    Calls Tryd.prog 15 #[.int .i64 n] w fun e w' => e = .returned (.tuple #[.int .i64 0, .int .i64 10]) ∧ Below w.heap.size w w' := by
  have HN := Aside0.mk hn
  clear hn
  have H1i := Aside0.mk (one_int w n)
  go_enter Tryd.func15, Tryd.ntmps15
  go_wp2_with (fail)
  refine (check_n _ _ _ [n] _ H1i.out 10 (by rw [check1_val, if_neg (by rw [HN.out]; decide)])).mono ?_
  rintro e w1 ⟨rfl, hd⟩
  have HB1 := Aside0.mk (below_step (bel_alloc (Below.refl _ _) _) hd.below)
  clear hd
  go_wp2_with (fail)
  go_ret2
  exact ⟨rfl, HB1.out⟩
theorem told06_calls (n e v : Int) (w : World) (h : toldV v = (n, e)) :
    Calls Tryd.prog 22 #[.int .i64 n, .int .i64 e, .int .i64 v] w fun e w' => e = .returned (.bool true) ∧ w = w' := by
  cases hv : inR v with
  | true =>
    obtain ⟨rfl, rfl⟩ : v = n ∧ (0 : Int) = e := by simpa [toldV, hv] using h
    have HV := Aside0.mk hv
    clear h hv
    go_enter Tryd.func22, Tryd.ntmps22
    go_wp2_with (fail)
    refine (Is_calls v _ true HV.out).mono ?_
    rintro e w1 ⟨rfl, rfl⟩
    go_wp2_with (fail)
    go_ret
    exact ⟨rfl, rfl⟩
  | false =>
    obtain ⟨rfl, rfl⟩ : (0 : Int) = n ∧ (17 : Int) = e := by simpa [toldV, hv] using h
    have HV := Aside0.mk hv
    clear h hv
    go_enter Tryd.func22, Tryd.ntmps22
    go_wp2_with (fail)
    refine (Is_calls v _ false HV.out).mono ?_
    rintro e w1 ⟨rfl, rfl⟩
    go_wp2_with (fail)
    go_ret
    exact ⟨rfl, rfl⟩
set_option maxHeartbeats 1000000 in
theorem awake06_calls (w : World) (hL : LaidAt w 0 stepsA) : Calls Tryd.prog 12 #[] w fun e w' => e = .returned (.bool true) ∧ Below w.heap.size w w' := by
  have HL := Aside0.mk hL
  clear hL
  have HE : Aside0 (expV (-65536) = 24109) := ⟨by decide⟩
  go_enter Tryd.func12, Tryd.ntmps12
  go_wp2_with (fail)
  refine (Mul_calls 98304 131072 _ 196608 0 (by decide)).mono ?_
  rintro e w1 ⟨rfl, hb⟩
  have HB1 := Aside0.mk hb
  clear hb
  go_wp2_with (fail)
  refine (Root_calls 131072 _ (by decide) (by decide) 92681 (by unfold rootP; decide)).mono ?_
  rintro e w2 ⟨rfl, hb⟩
  have HB2 := Aside0.mk (below_step HB1.out hb)
  have HL2 := Aside0.mk (HL.out.below HB2.out)
  clear hb
  go_wp2_with (fail)
  refine (Exp_calls (-65536) _ HL2.out (by decide) (by decide)).mono ?_
  rintro e w3 ⟨rfl, rfl⟩
  rw [HE.out]
  go_wp2_with (fail)
  refine (Gate_calls 0 _ HL2.out (by decide) 0 0 (by decide)).mono ?_
  rintro e w4 ⟨rfl, hb⟩
  have HB4 := Aside0.mk (below_step HB2.out hb)
  clear hb
  go_wp2_with (fail)
  go_ret
  exact ⟨rfl, HB4.out⟩
end Go.Proofs.YtjlnjknmiojfoaaDoor.Fixed
