/- Texts put together: TopA, FixedP, Fixed2, Ten3D, PickP, DrawChoose, DrawPick, ChooseC. -/
import Derived.Test.YtdmeocoehahopaaDoorBunG7
set_option linter.unusedVariables false
set_option linter.unusedSimpArgs false
namespace Go.Proofs.YtdmeocoehahopaaDoor.Top
open Go.RowKit Go.Proofs.YtdmeocoehahopaaDoorW.PrintWords Go.Proofs.YtdmeocoehahopaaDoorW.PrintLast Go.Proofs.YtdmeocoehahopaaDoorW.PrintMore Go.Proofs.YtdmeocoehahopaaDoor.K Go.Proofs.YtdmeocoehahopaaDoor.RI Go.Proofs.YtdmeocoehahopaaDoor.Sort Go.Proofs.YtdmeocoehahopaaDoor.Ten Go.Proofs.YtdmeocoehahopaaDoor.Fixed
set_option linter.unusedVariables false
set_option linter.unusedSimpArgs false
theorem check_len {l : List Int} (h : checkV l = 0) : 0 < l.length ∧ l.length ≤ 512 := by
  unfold checkV at h
  split at h
  · cases h
  · omega
theorem check_inR {l : List Int} (h : checkV l = 0) : l.all inR = true := by
  unfold checkV at h
  split at h
  · cases h
  · split at h
    · assumption
    · cases h
theorem top_all_calls (A : Option Addr) (c k : Nat) (l : List Int) (w : World) (hC : Kd.C (Kd.int .i64) w A l.length l) (h : checkV l = 0) (hk1 : 1 ≤ k) (hk2 : k ≤ l.length) :
    Calls Tryd.prog 33 #[.slice A l.length c, .int .i64 (k : Int)] w fun e w' => ∃ A' c', e = .returned (.tuple #[.slice A' k c', .int .i64 0]) ∧ Kd.Q (Kd.int .i64) 3 w' w.heap.size (fun _ => True) (.slice A' k c') ((ordL l).take k) ∧ Below w.heap.size w w' :=
  top_ok_calls A c k l (ordL l) w hC h hk1 hk2 (ordL_length l) (sorts_all l (by have := check_len h; omega) _ _ _ _)
theorem ordL_at (l : List Int) (i : Nat) (hi : i < l.length) : ∃ j : Nat, j < l.length ∧ (ordL l).getD i 0 = (j : Int) := by
  obtain ⟨j, _, j2, j3⟩ := (ordL_good l).2 i (Nat.zero_le _) hi
  replace j3 : (ordL l).getD i 0 = (places l.length).getD j 0 := j3
  rw [places_getD j2] at j3
  exact ⟨j, j2, j3⟩
/-- The place of the greatest number. -/
def mostV (l : List Int) : Int := (ordL l).getD 0 0
theorem mostV_spec {l : List Int} (h : 0 < l.length) : ∃ j : Nat, j < l.length ∧ mostV l = (j : Int) ∧ ∀ t, t < l.length → l.getD t 0 ≤ l.getD j 0 := by
  obtain ⟨j, j1, j2⟩ := ordL_at l 0 h
  refine ⟨j, j1, j2, fun t ht => ?_⟩
  obtain ⟨i, i1, i2⟩ := good_onto (ordL_good l) t ht
  replace i2 : (ordL l).getD i 0 = (t : Int) := i2
  by_cases e : i = 0
  · subst e
    rw [j2] at i2
    have : j = t := by omega
    subst this
    exact Int.le_refl _
  · have h1 := (ordL_good l).1 0 i (Nat.zero_le _) (by omega) i1
    replace h1 : prV l ((ordL l).getD 0 0) ((ordL l).getD i 0) := h1
    rw [j2, i2] at h1
    unfold prV cfV at h1
    rw [Int.toNat_natCast, Int.toNat_natCast] at h1
    omega
end Go.Proofs.YtdmeocoehahopaaDoor.Top
namespace Go.Proofs.YtdmeocoehahopaaDoor.Fixed
open Go.RowKit Go.Proofs.YtdmeocoehahopaaDoorW.PrintWords Go.Proofs.YtdmeocoehahopaaDoorW.PrintLast Go.Proofs.YtdmeocoehahopaaDoorW.PrintMore Go.Proofs.YtdmeocoehahopaaDoor.K
set_option linter.unusedVariables false
theorem product_calls (a b : Int) (w : World) (r : Int) (h1 : -4611686018427387904 ≤ a * b) (h2 : a * b ≤ 4611686018427387904) (hr : prodV a b = r) :
    Calls Tryd.prog 61 #[.int .i64 a, .int .i64 b] w fun e w' => e = .returned (.int .i64 r) ∧ w = w' := by
  unfold prodV at hr
  obtain ⟨p, hp⟩ : ∃ p, a * b = p := ⟨_, rfl⟩
  rw [hp] at h1 h2 hr
  subst hr
  have hw1 : IntKind.i64.wrap p = p := IntWalk.i64_in _ (by omega)
  go_enter Tryd.func61, Tryd.ntmps61
  go_wp2
  go_ret
  exact ⟨rfl, rfl⟩
end Go.Proofs.YtdmeocoehahopaaDoor.Fixed
namespace Go.Proofs.YtdmeocoehahopaaDoor.Fixed
open Go.RowKit Go.Proofs.YtdmeocoehahopaaDoorW.PrintWords Go.Proofs.YtdmeocoehahopaaDoorW.PrintLast Go.Proofs.YtdmeocoehahopaaDoorW.PrintMore Go.Proofs.YtdmeocoehahopaaDoor.K
set_option linter.unusedVariables false
def stepsL : List Int := [22, 1200, 8869, 24109, 39750, 51039, 57835, 61565, 63520, 64520, 65026, 65280, 65408, 65472, 65504, 65520, 65528, 65532, 65534, 65535]
def stepsA : Array Value := (nums .i64 stepsL).toArray
def expStep (m : Int) (k : Nat) (out : Int) : Int := if m / 2 ^ (19 - k) % 2 = 0 then out else prodV out (stepsL.getD k 0)
def expF (m : Int) : Nat → Int
  | 0 => 65536
  | k + 1 => expStep m k (expF m k)
def expV (n : Int) : Int := if n ≤ -1048576 then 0 else expF (-n) 20
theorem steps_bound (k : Nat) : 0 ≤ stepsL.getD k 0 ∧ stepsL.getD k 0 ≤ 65535 := by
  have h : ∀ x ∈ stepsL, 0 ≤ x ∧ x ≤ 65535 := by decide
  rcases Nat.lt_or_ge k stepsL.length with hk | hk
  · rw [List.getD_eq_getElem?_getD, List.getElem?_eq_getElem hk]
    exact h _ (List.getElem_mem hk)
  · rw [List.getD_eq_getElem?_getD, List.getElem?_eq_none hk]
    exact ⟨by decide, by decide⟩
theorem prod_small {a b : Int} (ha : 0 ≤ a ∧ a ≤ 65536) (hb : 0 ≤ b ∧ b ≤ 65535) : 0 ≤ a * b ∧ a * b ≤ 65536 * 65535 :=
  ⟨Int.mul_nonneg ha.1 hb.1, Int.mul_le_mul ha.2 hb.2 hb.1 (by decide)⟩
theorem expF_bound (m : Int) (k : Nat) : 0 ≤ expF m k ∧ expF m k ≤ 65536 := by
  induction k with
  | zero => exact ⟨by show (0 : Int) ≤ 65536; decide, by show (65536 : Int) ≤ 65536; decide⟩
  | succ k ih =>
    show 0 ≤ expStep m k (expF m k) ∧ expStep m k (expF m k) ≤ 65536
    unfold expStep
    split
    · exact ih
    · have := prod_small ih (steps_bound k)
      unfold prodV
      omega
theorem expV_bound (n : Int) : 0 ≤ expV n ∧ expV n ≤ 65536 := by
  unfold expV
  split
  · exact ⟨by decide, by decide⟩
  · exact expF_bound _ _
theorem and_one (x : Int) (h0 : 0 ≤ x) (h1 : x < 9223372036854775808) : Go.bits .and .i64 x 1 = x % 2 :=
  bits_mask .i64 63 (by decide) (fun n h0 h1 => IntWalk.i64_in _ (by omega)) 1 (by decide) x h0 h1
theorem shr_small (m : Int) (j : Nat) (h0 : 0 ≤ m) (h1 : m < 1048576) : 0 ≤ m / 2 ^ j ∧ m / 2 ^ j < 9223372036854775808 := by
  have hp : (0 : Int) < 2 ^ j := Int.pow_pos (by decide)
  have h2 := Int.ediv_nonneg h0 (Int.le_of_lt hp)
  have h3 := Int.ediv_le_self (2 ^ j) h0
  omega
theorem info_int : (Tryd.prog.info? 3).map (fun i => (i.zero, i.size, i.bytes)) = some (some (.int .i64 0), 1, 8) := by kernel_rfl
theorem steps_at (k : Nat) (hk : k < 20) (W : World) : (Instr.index 96 (.agg stepsA) (.int .i64 (k : Int))).run Tryd.prog W = .ok (.int .i64 (stepsL.getD k 0)) W :=
  run_index_int 96 3 20 stepsA .i64 .i64 k Tryd.underlying96 Tryd.underlying3 info_int hk _ (by
    have hl : k < stepsL.length := hk
    simp [stepsA, nums, List.getElem?_eq_getElem hl, List.getD_eq_getElem?_getD]) W
set_option maxHeartbeats 1000000 in
set_option maxRecDepth 100000 in
theorem Exp_calls (n : Int) (w : World) (hL : LaidAt w 0 stepsA) (hn : n ≤ 0) (h9 : -9223372036854775808 ≤ n) :
    Calls Tryd.prog 49 #[.int .i64 n] w fun e w' => e = .returned (.tuple #[.int .i64 (expV n), .int .i64 0]) ∧ w = w' := by
  obtain ⟨lt, lfr, hblk⟩ := hL
  have HBk := Aside0.mk hblk
  clear hblk
  by_cases hs : n ≤ -1048576
  · have HV := Aside0.mk (show expV n = 0 from if_pos hs)
    rw [HV.out]
    have hnD : decide (0 < n) = false := by simp; omega
    have hnD2 : decide (n ≤ -1048576) = true := by simp; omega
    go_enter Tryd.func49, Tryd.ntmps49
    go_wp2
    go_step3
    go_wp2
    rw [Exit.noGoto_ret]
    go_ret2
    exact ⟨rfl, rfl⟩
  · have HV := Aside0.mk (show expV n = expF (-n) 20 from if_neg hs)
    rw [HV.out]
    clear HV
    have hnD : decide (0 < n) = false := by simp; omega
    obtain ⟨m, hm⟩ : ∃ m, -n = m := ⟨_, rfl⟩
    rw [hm]
    have hnD2 : decide (n ≤ -1048576) = false := by simp; omega
    have hm0 : 0 ≤ m := by omega
    have hm1 : m < 1048576 := by omega
    have hi := steps_at
    go_enter Tryd.func49, Tryd.ntmps49
    go_wp2
    go_step3
    go_wp2
    go_step3
    go_wp2_with (with_reducible refine wpList_load_row rfl 96 (.global 0) rfl 0 rfl lt stepsA lfr _ HBk.out Tryd.underlying96 rfl (by kernel_rfl) ?_)
    go_loop [4, 14] (fun v4 v14 => ∃ k : Nat, k ≤ 20 ∧ v14 = .int .i64 k ∧ v4 = .int .i64 (expF m k)) (fun _ v14 => 20 - (intOf v14).toNat)
    case atStart => exact ⟨0, Nat.zero_le _, rfl, rfl⟩
    case round =>
      obtain ⟨k, hk, rfl, rfl⟩ := hrel
      clear hi
      by_cases hlt : k < 20
      · have HE := Aside0.mk (expF_bound m k)
        have HN := Aside0.mk (show expF m (k + 1) = expStep m k (expF m k) from rfl)
        have hi1 := steps_at k hlt
        have HSb := Aside0.mk (steps_bound k)
        obtain ⟨g1, g2⟩ := shr_small m (19 - k) hm0 hm1
        have hand := and_one _ g1 g2
        clear g1 g2
        by_cases hz : m / 2 ^ (19 - k) % 2 = 0
        · have HN2 := Aside0.mk (show expF m (k + 1) = expF m k by rw [HN.out, expStep, if_pos hz])
          have hb : (Go.bits .and .i64 (m / 2 ^ (19 - k)) 1 == 0) = true := by rw [hand, hz]; rfl
          clear hz hand HN
          generalize expF m k = out at *
          go_wp2
          go_round
          case measure => simp [intOf]; omega
          case rel => exact ⟨k + 1, by omega, by go_num, by rw [HN2.out]⟩
        · have HN2 := Aside0.mk (show expF m (k + 1) = prodV (expF m k) (stepsL.getD k 0) by rw [HN.out, expStep, if_neg hz])
          have hb : (Go.bits .and .i64 (m / 2 ^ (19 - k)) 1 == 0) = false := by rw [hand, beq_eq_false_iff_ne]; exact hz
          clear hz hand HN
          have HP := Aside0.mk (prod_small HE.out HSb.out)
          generalize expF m k = out at *
          generalize stepsL.getD k 0 = sk at *
          go_wp2_with (go_at_call 61; refine (product_calls out sk _ (prodV out sk) (by have := HP.out; omega) (by have := HP.out; omega) rfl).mono ?_; rintro e w' ⟨rfl, rfl⟩)
          go_round
          case measure => simp [intOf]; omega
          case rel => exact ⟨k + 1, by omega, by go_num, by rw [HN2.out]⟩
      · obtain rfl : k = 20 := by omega
        go_wp2
        go_ret2
        exact ⟨rfl, rfl⟩
theorem Exp_pos_calls (n : Int) (w : World) (hn : 0 < n) :
    Calls Tryd.prog 49 #[.int .i64 n] w fun e w' => e = .returned (.tuple #[.int .i64 0, .int .i64 10]) ∧ w = w' := by
  have hnD : decide (0 < n) = true := by simpa using hn
  go_enter Tryd.func49, Tryd.ntmps49
  go_wp2
  go_step3
  go_wp2
  rw [Exit.noGoto_ret]
  go_ret2
  exact ⟨rfl, rfl⟩
end Go.Proofs.YtdmeocoehahopaaDoor.Fixed
namespace Go.Proofs.YtdmeocoehahopaaDoor.Ten
open Go.RowKit Go.Proofs.YtdmeocoehahopaaDoorW.PrintWords Go.Proofs.YtdmeocoehahopaaDoorW.PrintLast Go.Proofs.YtdmeocoehahopaaDoorW.PrintMore Go.Proofs.YtdmeocoehahopaaDoor.K Go.Proofs.YtdmeocoehahopaaDoor.Fixed
set_option linter.unusedVariables false
set_option linter.unusedSimpArgs false
theorem getD_r {r : List Int} (h : r.all inR = true) (k : Nat) : -2147483648 ≤ r.getD k 0 ∧ r.getD k 0 ≤ 2147483647 := by
  rcases Nat.lt_or_ge k r.length with h1 | h1
  · rw [List.getD_eq_getElem?_getD, List.getElem?_eq_getElem h1]
    exact inR_true (List.all_eq_true.1 h _ (List.getElem_mem h1))
  · rw [List.getD_eq_getElem?_getD, List.getElem?_eq_none h1]
    decide
def maxF (l : List Int) : Nat → Int
  | 0 => l.getD 0 0
  | k + 1 => if maxF l k < l.getD (k + 1) 0 then l.getD (k + 1) 0 else maxF l k
def maxV (l : List Int) : Int := maxF l (l.length - 1)
theorem maxF_ge (l : List Int) : ∀ (k j : Nat), j ≤ k → l.getD j 0 ≤ maxF l k
  | 0, j, h => by obtain rfl : j = 0 := by omega
                  exact Int.le_refl _
  | k + 1, j, h => by
    unfold maxF
    by_cases e : j = k + 1
    · subst e
      split <;> omega
    · have := maxF_ge l k j (by omega)
      split <;> omega
theorem maxF_at (l : List Int) : ∀ k : Nat, ∃ j, j ≤ k ∧ maxF l k = l.getD j 0
  | 0 => ⟨0, Nat.le_refl _, rfl⟩
  | k + 1 => by
    obtain ⟨j, hj, h⟩ := maxF_at l k
    unfold maxF
    split
    · exact ⟨k + 1, Nat.le_refl _, rfl⟩
    · exact ⟨j, by omega, h⟩
set_option maxHeartbeats 4000000 in
set_option maxRecDepth 100000 in
theorem max_calls (A : Option Addr) (c : Nat) (l : List Int) (w : World) (hC : Kd.C (Kd.int .i64) w A l.length l) (h0 : 0 < l.length) :
    Calls Tryd.prog 48 #[.slice A l.length c] w fun e w' => e = .returned (.int .i64 (maxV l)) ∧ w = w' := by
  have HC := Aside0.mk hC
  have hm := hC.2.1
  clear hC
  obtain ⟨ad, rfl, hc0⟩ := int_at HC.out 0 h0
  have hc00 : w.cell? ad = some (.int .i64 (maxF l 0)) := by have h := hc0; cases ad; exact h
  have hd : decide ((l.length : Int) < 1) = false := by simp; omega
  have hd0 : decide ((0 : Int) < (l.length : Int)) = true := by simp; omega
  clear hc0
  obtain ⟨x0, hx0⟩ : ∃ x, x = maxF l 0 := ⟨_, rfl⟩
  have HX0 := Aside0.mk hx0
  rw [← hx0] at hc00
  clear hx0
  go_enter Tryd.func48, Tryd.ntmps48
  go_wp2_with (fail)
  go_loop [3, 4] (fun s i => ∃ p : Nat, 1 ≤ p ∧ p ≤ l.length ∧ i = .int .i64 (p : Int) ∧ s = .int .i64 (maxF l (p - 1))) (fun _ i => l.length - (intOf i).toNat)
  case atStart => exact ⟨1, Nat.le_refl _, h0, rfl, by rw [HX0.out]⟩
  case round =>
    obtain ⟨p, hp1, hk, rfl, rfl⟩ := hrel
    by_cases hlt : p < l.length
    · have hcr := int_cell HC.out (Below.refl _ _) p hlt
      clear hc00
      have HY : Aside0 (maxF l (p + 1 - 1) = if maxF l (p - 1) < l.getD p 0 then l.getD p 0 else maxF l (p - 1)) := ⟨by
        obtain ⟨q, rfl⟩ : ∃ q, p = q + 1 := ⟨p - 1, by omega⟩
        rfl⟩
      generalize l.getD p 0 = x at *
      generalize maxF l (p - 1) = m at *
      go_wp2
      refine ⟨⟨p + 1, by omega, by omega, by go_num, by rw [HY.out]⟩, by simp [intOf]; omega⟩
    · obtain rfl : p = l.length := by omega
      go_wp2
      go_ret
      exact ⟨rfl, rfl⟩
/-- The shares of numbers. -/
def expsV (l : List Int) : List Int := l.map fun n => expV (n - maxV l)
def softV (l : List Int) : List Int := (expsV l).map fun x => x * 65536 / sumV (expsV l)
theorem expsV_bd (l : List Int) : ∀ x ∈ expsV l, 0 ≤ x ∧ x ≤ 65536 := by
  intro x hx
  obtain ⟨n, _, rfl⟩ := List.mem_map.1 hx
  exact expV_bound _
theorem sumV_pos {l : List Int} (h : 0 < l.length) : 65536 ≤ sumV (expsV l) := by
  obtain ⟨j, hj, e⟩ := maxF_at l (l.length - 1)
  have hjl : j < l.length := by omega
  refine sumV_ge (fun x hx => (expsV_bd l x hx).1) ?_
  refine List.mem_map.2 ⟨l.getD j 0, ?_, ?_⟩
  · rw [List.getD_eq_getElem?_getD, List.getElem?_eq_getElem hjl]
    exact List.getElem_mem hjl
  · rw [show maxV l = l.getD j 0 from e, Int.sub_self]
    decide +kernel
theorem exps_snoc (l : List Int) (k : Nat) (h : k < l.length) : (expsV l).take (k + 1) = (expsV l).take k ++ [expV (l.getD k 0 - maxV l)] := by
  have h2 : k < (expsV l).length := by simpa [expsV] using h
  rw [List.take_succ_eq_append_getElem h2]
  simp [expsV, List.getD_eq_getElem?_getD, List.getElem?_eq_getElem h]
def mixed (a b : List Int) (k : Nat) : List Int := a.take k ++ b.drop k
theorem mixed_length {a b : List Int} {k : Nat} (h : a.length = b.length) (hk : k ≤ b.length) : (mixed a b k).length = b.length := by
  simp [mixed]; omega
theorem mixed_get {a b : List Int} {k : Nat} (h : a.length = b.length) (hk : k < b.length) : (mixed a b k).getD k 0 = b.getD k 0 := by
  have h1 : (a.take k).length = k := by simp; omega
  simp only [mixed, List.getD_eq_getElem?_getD]
  rw [List.getElem?_append_right (by omega), h1, Nat.sub_self, List.getElem?_drop]
  rfl
theorem mixed_set {a b : List Int} {k : Nat} (h : a.length = b.length) (hk : k < b.length) : (mixed a b k).set k (a.getD k 0) = mixed a b (k + 1) := by
  have h1 : (a.take k).length = k := by simp; omega
  have h2 : k < a.length := by omega
  simp only [mixed]
  rw [List.set_append_right _ _ (by omega), h1, Nat.sub_self, List.drop_eq_getElem_cons hk, List.set_cons_zero, List.take_succ_eq_append_getElem h2, List.getD_eq_getElem?_getD, List.getElem?_eq_getElem h2, List.append_assoc]
  rfl
theorem own_low {W : World} {base base' : Nat} {e : TypeId} {size : Nat} {v : Value} {k : Nat} {xs : List Value} (h : W.ownsRow base e size v k xs) (hb : base' ≤ base) : W.ownsRow base' e size v k xs :=
  ⟨h.1, h.2.elim .inl fun ⟨g, cap, cur, h1, h2, h3⟩ => .inr ⟨g, cap, cur, h1, Nat.le_trans hb h2, h3⟩⟩
theorem check_ok_in {l : List Int} (h : checkV l = 0) : l.all inR = true ∧ 0 < l.length ∧ l.length ≤ 512 := by
  unfold checkV at h
  split at h
  · cases h
  · rename_i h9
    split at h
    · rename_i h8; exact ⟨h8, by omega, by omega⟩
    · cases h
set_option maxHeartbeats 4000000 in
set_option maxRecDepth 100000 in
theorem softmax_bad_calls (A : Option Addr) (c : Nat) (l : List Int) (w : World) (hC : Kd.C (Kd.int .i64) w A l.length l) (h : checkV l ≠ 0) :
    Calls Tryd.prog 34 #[.slice A l.length c] w fun e w' => e = .returned (.tuple #[.slice none 0 0, .int .i64 (checkV l)]) ∧ Below w.heap.size w w' := by
  have HK := Aside0.mk (tcheck_calls A c l w hC)
  have hd : (checkV l != 0) = true := by simpa using h
  clear hC h
  generalize checkV l = z at *
  go_enter Tryd.func34, Tryd.ntmps34
  go_wp2_with (fail)
  refine HK.out.mono ?_
  rintro e w2 ⟨rfl, hb⟩
  have HB := Aside0.mk hb
  clear hb
  go_wp2_with (fail)
  go_ret2
  exact ⟨rfl, HB.out⟩
set_option maxHeartbeats 4000000 in
set_option maxRecDepth 100000 in
theorem softmax_ok_calls (A : Option Addr) (c : Nat) (l : List Int) (w : World) (hC : Kd.C (Kd.int .i64) w A l.length l) (hL : LaidAt w 0 stepsA) (h : checkV l = 0) :
    Calls Tryd.prog 34 #[.slice A l.length c] w fun e w' => ∃ A' c', e = .returned (.tuple #[.slice A' l.length c', .int .i64 0]) ∧ Kd.R (Kd.int .i64) 3 w' w.heap.size (fun _ => True) (.slice A' l.length c') (softV l) ∧ Below w.heap.size w w' := by
  have HC := Aside0.mk hC
  have HL := Aside0.mk hL
  have HK := Aside0.mk (tcheck_calls A c l w hC)
  rw [h] at HK
  have HIn := Aside0.mk (check_ok_in h)
  have HM : Aside0 (∀ W, Below w.heap.size w W → Calls Tryd.prog 48 #[.slice A l.length c] W fun e w' => e = .returned (.int .i64 (maxV l)) ∧ W = w') := ⟨fun W hb => max_calls A c l W (Kd.C_below HC.out hb) HIn.out.2.1⟩
  have HX : Aside0 (∀ k, k < l.length → ∀ W, Below w.heap.size w W → IntKind.i64.wrap (l.getD k 0 - maxV l) = l.getD k 0 - maxV l ∧ Calls Tryd.prog 49 #[.int .i64 (l.getD k 0 - maxV l)] W fun e w' => e = .returned (.tuple #[.int .i64 (expV (l.getD k 0 - maxV l)), .int .i64 0]) ∧ W = w') := ⟨fun k hk W hb => by
    have h1 := maxF_ge l (l.length - 1) k (by omega)
    have h2 := getD_r HIn.out.1 k
    obtain ⟨j, hj, e⟩ := maxF_at l (l.length - 1)
    have h3 := getD_r HIn.out.1 j
    have h4 : maxV l = l.getD j 0 := e
    have h5 : l.getD k 0 ≤ maxV l := h1
    exact ⟨by rw [IntKind.wrap_i64]; omega, Exp_calls _ W (HL.out.below hb) (by omega) (by omega)⟩⟩
  have hm := HC.out.2.1
  have HSB : Aside0 (∀ k : Nat, k ≤ l.length → 0 ≤ sumV ((expsV l).take k) ∧ sumV ((expsV l).take k) ≤ 65536 * (k : Int)) := ⟨fun k hk => by
    have h1 := sumV_bd (l := (expsV l).take k) fun x hx => expsV_bd l x (List.mem_of_mem_take hx)
    rw [List.length_take, Nat.min_eq_left (by simpa [expsV] using hk)] at h1
    exact h1⟩
  clear hC hL h
  go_enter Tryd.func34, Tryd.ntmps34
  go_wp2_with (fail)
  refine HK.out.mono ?_
  rintro e w2 ⟨rfl, hb⟩
  have HB := Aside0.mk hb
  clear hb
  go_wp2_with (fail)
  refine (HM.out _ HB.out).mono ?_
  rintro e w3 ⟨rfl, rfl⟩
  go_wp2_with (fail)
  go_loopw [6, 7, 23] (fun s o i wr => ∃ k : Nat, k ≤ l.length ∧ i = .int .i64 (k : Int) ∧ s = .int .i64 (sumV ((expsV l).take k)) ∧ Aside0 (wr.ownsRow w.heap.size 3 1 o ((expsV l).take k).length (nums .i64 ((expsV l).take k)) ∧ Below w.heap.size w wr)) (fun _ _ i _ => l.length - (intOf i).toNat)
  case atStart => exact ⟨0, Nat.zero_le _, rfl, rfl, ⟨own_nil _ _ _ _, HB.out⟩⟩
  case round =>
    obtain ⟨k, hk, rfl, rfl, HO⟩ := hrel
    have hl512 := HIn.out.2.2
    by_cases hlt : k < l.length
    · obtain ⟨ad, rfl, hc⟩ := int_at' HC.out HO.out.2 k hlt
      obtain ⟨hw1, hcall⟩ := HX.out k hlt wr HO.out.2
      obtain ⟨df, hdf⟩ : ∃ df, df = l.getD k 0 - maxV l := ⟨_, rfl⟩
      rw [← hdf] at hcall
      have HE := Aside0.mk hcall
      have HS := Aside0.mk (exps_snoc l k hlt)
      have HSn : Aside0 (sumV ((expsV l).take (k + 1)) = sumV ((expsV l).take k) + expV (l.getD k 0 - maxV l)) := ⟨by rw [HS.out, sumV_append]; simp [sumV]⟩
      have hw2 : IntKind.i64.wrap (sumV ((expsV l).take k) + expV (l.getD k 0 - maxV l)) = sumV ((expsV l).take (k + 1)) := by
        have := HSB.out (k + 1) (by omega)
        rw [HSn.out] at this ⊢
        rw [IntKind.wrap_i64]
        omega
      rw [← hdf] at hw1 hw2 HSn
      have HLen : Aside0 (((expsV l).take k).length = k) := ⟨by rw [List.length_take, Nat.min_eq_left (by simpa [expsV] using hk)]⟩
      clear hcall
      rw [← hdf] at HS
      have hw1 : IntKind.i64.wrap (l.getD k 0 - maxV l) = df := by rw [← hdf]; exact hw1
      clear hdf
      generalize expV df = ex at *
      obtain ⟨s1, hs1⟩ : ∃ s1, s1 = sumV ((expsV l).take (k + 1)) := ⟨_, rfl⟩
      rw [← hs1] at hw2 HSn
      have HS1 := Aside0.mk hs1
      clear hs1
      generalize sumV ((expsV l).take k) = s0 at *
      generalize l.getD k 0 = x at *
      generalize (expsV l).take k = es at *
      obtain ⟨A3, c3, rfl⟩ := own_slice HO.out.1
      generalize maxV l = mx at *
      go_wp2_with (fail)
      refine HE.out.mono ?_
      rintro e w4 ⟨rfl, rfl⟩
      go_wp2_with (at_builtin; refine print_append_num (w0 := w) w.heap.size rfl (.tmp 37) (.tmp 39) 41 3 .i64 8 rfl Tryd.underlying41 info_int (by decide) _ es _ rfl rfl HO.out.1 HO.out.2 HO.out.2.size ?_ ?_; rotate_left; intro v1 w1 hown hbw hgr hat; have HA := Aside0.mk (And.intro hown hbw); clear hown hbw hgr hat)
      · skip
        go_roundw
        case rel => exact ⟨k + 1, by omega, by go_num, by rw [HS1.out], ⟨by rw [HS.out]; exact HA.out.1, HA.out.2⟩⟩
        case measure => simp [intOf]; omega
      · have := HLen.out
        omega
    · obtain rfl : k = l.length := by omega
      have HEl : Aside0 ((expsV l).length = l.length) := ⟨by simp [expsV]⟩
      have h1 := HO.out.1
      rw [← HEl.out, List.take_length] at h1
      obtain ⟨g, c9, rfl, hg, hglt, hle, hmx9, hdat⟩ := Top.R_dat (R_int h1) (by rw [HEl.out]; exact HIn.out.2.1)
      have HG := Aside0.mk (And.intro hg (And.intro hle hmx9))
      have HD := Aside0.mk hdat
      have HSu : Aside0 (sumV ((expsV l).take l.length) = sumV (expsV l)) := ⟨by rw [← HEl.out, List.take_length]⟩
      have HS0 := Aside0.mk (sumV_pos HIn.out.2.1)
      have HS9 := HSB.out l.length (Nat.le_refl _)
      have HEb := Aside0.mk (expsV_bd l)
      have HV9 : Aside0 (softV l = (expsV l).map fun x => x * 65536 / sumV (expsV l)) := ⟨rfl⟩
      have HVl : Aside0 ((softV l).length = (expsV l).length) := ⟨by simp [softV]⟩
      clear h1 hg hle hmx9 hdat
      rw [HSu.out] at HS9 ⊢
      rw [HEl.out]
      have HB9 := Aside0.mk HO.out.2
      obtain ⟨so, hso⟩ : ∃ so, so = softV l := ⟨_, rfl⟩
      rw [← hso] at HV9 HVl
      have HSo := Aside0.mk hso
      clear hso
      clear HSu HSB HX HO
      generalize sumV (expsV l) = sm at *
      generalize expsV l = es at *
      have hs0 : 0 < sm := by have := HS0.out; omega
      go_wp2_with (fail)
      go_loopw [47] (fun i wq => ∃ k : Nat, k ≤ l.length ∧ i = .int .i64 (k : Int) ∧ Aside0 (Sort.Dat wq g c9 (mixed so es k) ∧ Below w.heap.size w wq)) (fun i _ => l.length - (intOf i).toNat)
      case atStart => exact ⟨0, Nat.zero_le _, rfl, ⟨HD.out, HB9.out⟩⟩
      case round =>
        obtain ⟨k, hk, rfl, HR⟩ := hrel
        by_cases hlt : k < l.length
        · have HL1 : Aside0 ((mixed so es k).length = l.length) := ⟨by rw [mixed_length HVl.out (by rw [HEl.out]; omega), HEl.out]⟩
          obtain ⟨hc, hf⟩ := HR.out.1.at_ k (by rw [HL1.out]; exact hlt)
          rw [mixed_get HVl.out (by rw [HEl.out]; exact hlt)] at hc
          have HMem : es.getD k 0 ∈ es := by
            rw [List.getD_eq_getElem?_getD, List.getElem?_eq_getElem (by rw [HEl.out]; exact hlt)]
            exact List.getElem_mem _
          have hxb := HEb.out _ HMem
          have HY : Aside0 (so.getD k 0 = es.getD k 0 * 65536 / sm) := ⟨by
            rw [HV9.out, List.getD_eq_getElem?_getD, List.getD_eq_getElem?_getD, List.getElem?_map, List.getElem?_eq_getElem (by rw [HEl.out]; exact hlt)]
            rfl⟩
          have HSet := Aside0.mk (mixed_set (a := so) (b := es) (k := k) HVl.out (by rw [HEl.out]; exact hlt))
          clear HMem
          generalize es.getD k 0 = x at *
          go_wp2
          refine ⟨⟨k + 1, by omega, by go_num, ⟨?_, HR.out.2.setCell HG.out.1 _⟩⟩, by simp [intOf]; omega⟩
          rw [← HSet.out, HY.out]
          exact HR.out.1.set k _ (by rw [HL1.out]; exact hlt)
        · obtain rfl : k = l.length := by omega
          go_wp2
          go_ret2
          have HF : mixed so es l.length = so := by rw [← HEl.out, mixed, List.drop_length, List.append_nil, ← HVl.out, List.take_length]
          have h1 := HR.out.1
          rw [HF] at h1
          have h2 := R_int (own_low (h1.own (by rw [HVl.out]; exact HG.out.2.1) HG.out.2.2) HG.out.1)
          rw [show so.length = l.length by rw [HVl.out, HEl.out]] at h2
          rw [← HSo.out]
          exact ⟨some ⟨g, 0, none⟩, c9, rfl, h2, HR.out.2⟩
end Go.Proofs.YtdmeocoehahopaaDoor.Ten
namespace Go.Proofs.YtdmeocoehahopaaDoor.Draw
open Go.RowKit Go.Proofs.YtdmeocoehahopaaDoorW.PrintWords Go.Proofs.YtdmeocoehahopaaDoorW.PrintLast Go.Proofs.YtdmeocoehahopaaDoorW.PrintMore Go.Proofs.YtdmeocoehahopaaDoor.K Go.Proofs.YtdmeocoehahopaaDoor.Sha Go.Proofs.YtdmeocoehahopaaDoor.Codec Go.Proofs.YtdmeocoehahopaaDoor.RI Go.Proofs.YtdmeocoehahopaaDoor.Ten Go.Proofs.YtdmeocoehahopaaDoor.Top
set_option linter.unusedVariables false
set_option linter.unusedSimpArgs false
def topL (l : List Int) (k : Nat) : List Int := (ordL l).take k
def ownL (l : List Int) (k : Nat) : List Int := (topL l k).map fun x => l.getD x.toNat 0
def pickC (d l : List Int) (k : Nat) (c : Int) : Int × Int × Int := chooseV d (softV (ownL l k)) c
def pickV (d l : List Int) (k c : Int) : Int × Int × Int :=
  if checkV l = 0 then (if k < 1 ∨ (l.length : Int) < k then (0, 10, c) else if k = 1 then (mostV l, 0, c) else ((topL l k.toNat).getD (pickC d l k.toNat c).1.toNat 0, (pickC d l k.toNat c).2.1, (pickC d l k.toNat c).2.2)) else (0, checkV l, c)
def PickR (d l : List Int) (k c x er c' : Int) : Prop := pickV d l k c = (x, er, c')
theorem topL_length {l : List Int} {k : Nat} (h : k ≤ l.length) : (topL l k).length = k := by unfold topL; rw [List.length_take, ordL_length]; omega
theorem topL_get {l : List Int} {k i : Nat} (h : k ≤ l.length) (hi : i < k) : (topL l k).getD i 0 = (ordL l).getD i 0 := by
  unfold topL
  rw [List.getD_eq_getElem?_getD, List.getElem?_take, if_pos hi, List.getD_eq_getElem?_getD]
theorem topL_at {l : List Int} {k i : Nat} (h : k ≤ l.length) (hi : i < k) : ∃ j : Nat, j < l.length ∧ (topL l k).getD i 0 = (j : Int) := by
  rw [topL_get h hi]
  exact ordL_at l i (by omega)
theorem ownL_length {l : List Int} {k : Nat} (h : k ≤ l.length) : (ownL l k).length = k := by unfold ownL; rw [List.length_map, topL_length h]
theorem ownL_succ {l : List Int} {k i : Nat} (h : k ≤ l.length) (hi : i < k) : (ownL l k).take (i + 1) = (ownL l k).take i ++ [l.getD ((topL l k).getD i 0).toNat 0] := by
  rw [List.take_succ_eq_append_getElem (by rw [ownL_length h]; exact hi)]
  congr 1
  unfold ownL
  rw [List.getElem_map, List.getD_eq_getElem?_getD (l := topL l k), List.getElem?_eq_getElem (by rw [topL_length h]; exact hi), Option.getD_some]
theorem ownL_check {l : List Int} {k : Nat} (hl : checkV l = 0) (h : k ≤ l.length) (h1 : 1 ≤ k) : checkV (ownL l k) = 0 := by
  have hlen := check_len hl
  refine checkV_ok (by rw [ownL_length h]; omega) ?_
  rw [List.all_eq_true]
  intro x hx
  unfold ownL at hx
  obtain ⟨y, _, rfl⟩ := List.mem_map.1 hx
  exact decide_eq_true (getD_r (check_inR hl) y.toNat)
theorem soft_len (l : List Int) : (softV l).length = l.length := by simp [softV, expsV]
theorem pickV_bad {d l : List Int} {k c : Int} (h : checkV l ≠ 0) : pickV d l k c = (0, checkV l, c) := if_neg h
theorem pickV_range {d l : List Int} {k c : Int} (h : checkV l = 0) (h2 : k < 1 ∨ (l.length : Int) < k) : pickV d l k c = (0, 10, c) := by
  unfold pickV
  rw [if_pos h, if_pos h2]
theorem pickV_one {d l : List Int} {c : Int} (h : checkV l = 0) : pickV d l 1 c = (mostV l, 0, c) := by
  unfold pickV
  rw [if_pos h, if_neg (by have := check_len h; omega), if_pos rfl]
theorem pickV_more {d l : List Int} {c : Int} {k : Nat} (h : checkV l = 0) (h1 : 2 ≤ k) (h2 : k ≤ l.length) {x er c' : Int} (hc : chooseV d (softV (ownL l k)) c = (x, er, c')) : pickV d l (k : Int) c = ((topL l k).getD x.toNat 0, er, c') := by
  unfold pickV pickC
  rw [if_pos h, if_neg (by omega), if_neg (by omega), Int.toNat_natCast, hc]
theorem atL_lt : ∀ (ws : List Int) (x : Int), x < sumV ws → 0 ≤ x → atL ws x < ws.length
  | [], x, h, h0 => by simp [sumV] at h; omega
  | y :: ys, x, h, h0 => by
    simp only [atL, sumV, List.length_cons] at *
    split
    · have := atL_lt ys (x - y) (by omega) (by omega)
      omega
    · omega
theorem chooseV_at {d ws : List Int} {c x er c' : Int} (h : chooseV d ws c = (x, er, c')) (hp : 0 < ws.length) : 0 ≤ x ∧ x < (ws.length : Int) := by
  unfold chooseV at h
  split at h
  · cases h; omega
  · split at h
    · rename_i hw
      split at h
      · cases h; omega
      · rename_i hz
        split at h
        · have hb := preV_bd hw ws.length (Nat.le_refl _)
          rw [preV_all] at hb
          obtain ⟨⟨y, e, c2⟩, hy⟩ : ∃ p, p = belowV d (sumV ws) c := ⟨_, rfl⟩
          have h9 := belowV_x (show 0 < sumV ws by omega) hy.symm
          rw [← hy] at h
          have h8 : atL ws (y, e, c2).1 < ws.length := atL_lt ws y h9.2 h9.1
          cases h
          omega
        · cases h; omega
    · cases h; omega
end Go.Proofs.YtdmeocoehahopaaDoor.Draw
namespace Go.Proofs.YtdmeocoehahopaaDoor.Draw
open Go.RowKit Go.Proofs.YtdmeocoehahopaaDoorW.PrintWords Go.Proofs.YtdmeocoehahopaaDoorW.PrintLast Go.Proofs.YtdmeocoehahopaaDoorW.PrintMore Go.Proofs.YtdmeocoehahopaaDoor.K Go.Proofs.YtdmeocoehahopaaDoor.Sha Go.Proofs.YtdmeocoehahopaaDoor.Codec Go.Proofs.YtdmeocoehahopaaDoor.RI Go.Proofs.YtdmeocoehahopaaDoor.Ten
set_option linter.unusedVariables false
set_option linter.unusedSimpArgs false
/-- A row that does not lie in the block g. -/
def Off (g : Nat) (A : Option Addr) (n : Nat) : Prop := 0 < n → ∀ ad, A = some ad → ad.block ≠ g
theorem C_keep {k : IntKind} {w w' : World} {A : Option Addr} {n g : Nat} {xs : List Int} (h : Kd.C (Kd.int k) w A n xs) (ho : Off g A n) (hk : KeepBut w w' g none) : Kd.C (Kd.int k) w' A n xs := by
  have h1 := reads_int h
  refine C_int ⟨h1.1, h1.2.1, fun hn => ?_⟩
  obtain ⟨ad, e, hc⟩ := h1.2.2 hn
  refine ⟨ad, e, fun j hj => ?_⟩
  have h2 := hc j hj
  have h3 := World.block_lt_of_cell? w _ h2
  have h4 : (ad.add j).block = ad.block := by unfold Addr.add; split <;> rfl
  have h5 := hk.2 (ad.add j).block h3 (by rw [h4]; exact ho hn ad e) (by simp)
  rw [← h2]
  unfold World.cell?
  rw [h5]
theorem off_below {k : IntKind} {w : World} {A : Option Addr} {n g : Nat} {xs : List Int} (h : Kd.C (Kd.int k) w A n xs) (hg : w.heap.size ≤ g) : Off g A n := fun hn ad e => by
  obtain ⟨ad', e', hc⟩ := (reads_int h).2.2 hn
  rw [e] at e'
  cases e'
  have h3 := World.block_lt_of_cell? w _ (hc 0 hn)
  have h4 : (ad.add 0).block = ad.block := by unfold Addr.add; split <;> rfl
  omega
set_option maxHeartbeats 8000000 in
set_option maxRecDepth 100000 in
theorem choose1_calls (d : List Int) (A : Option Addr) (cc : Nat) (ws : List Int) (c : Int) (g B Bw Bs : Nat) (w : World) (hd : d.length = 32) (hby : ∀ x ∈ d, 0 ≤ x ∧ x < 256) (hS : StrAt w g d c) (h0 : 0 ≤ c) (h1 : c ≤ 9223372036854775807) (hB : B ≤ g) (hLo : Lo B w)
    (hC : Kd.C (Kd.int .i64) w A ws.length ws) (ho : Off g A ws.length)
    (hbw : w.heap[Bw]? = some (.cells #[.slice A ws.length cc] 41 (0, 0))) (hbs : w.heap[Bs]? = some (.cells #[.pointer (some ⟨g, 0, none⟩)] 27 (0, 0))) :
    Calls Tryd.prog 31 #[.pointer (some ⟨Bw, 0, none⟩), .pointer (some ⟨Bs, 0, none⟩)] w fun e w' => ∃ x er c', ChooseR d ws c x er c' ∧ e = .returned (.tuple #[.int .i64 x, .int .i64 er]) ∧ Moved B g d w w' c' := by
  have hcw := blk_cell hbw 0
  have hcs := blk_cell hbs 0
  simp only [List.getElem?_toArray, List.getElem?_cons_zero] at hcw hcs
  have HD := Aside0.mk hd
  have HBy := Aside0.mk hby
  have HS := Aside0.mk hS
  have H0 := Aside0.mk h0
  have H1 := Aside0.mk h1
  have HB := Aside0.mk hB
  have HLo := Aside0.mk hLo
  have HBw := Aside0.mk hbw
  have HBs := Aside0.mk hbs
  have HC := Aside0.mk hC
  have HOf := Aside0.mk ho
  have HNw : Aside0 (Bw ≠ g) := ⟨blk_ne hbw hS (by decide)⟩
  have HNs : Aside0 (Bs ≠ g) := ⟨blk_ne hbs hS (by decide)⟩
  have HM0 := Aside0.mk (Moved.refl (B := B) hS)
  have hm := hC.2.1
  clear hd hby hS h0 h1 hB hLo hbw hbs hC ho
  have hend : (ws.length = 0 ∨ 512 < ws.length) → Aside0 (ChooseR d ws c 0 13 c) := fun h => ⟨chooseV_size h⟩
  by_cases h2 : ws.length = 0
  · have d2 : ((ws.length : Int) == 0) = true := by simp [h2]
    have HE := hend (.inl h2)
    clear hend h2
    go_enter Tryd.func31, Tryd.ntmps31
    go_wp2
    go_ret2
    exact ⟨_, _, _, HE.out, rfl, HM0.out⟩
  · have d2 : ((ws.length : Int) == 0) = false := by simp; exact fun h => h2 (by rw [h]; rfl)
    by_cases h3 : 512 < ws.length
    · have d3 : decide (512 < (ws.length : Int)) = true := by simp; omega
      have HE := hend (.inr h3)
      clear hend h2 h3
      go_enter Tryd.func31, Tryd.ntmps31
      go_wp2
      go_ret2
      exact ⟨_, _, _, HE.out, rfl, HM0.out⟩
    · have d3 : decide (512 < (ws.length : Int)) = false := by simp; omega
      have HSz : Aside0 (¬ (ws.length = 0 ∨ 512 < ws.length)) := ⟨by omega⟩
      have hp : 0 < ws.length := by omega
      obtain ⟨ad, rfl, hadz⟩ := int_at HC.out 0 hp
      clear hadz
      clear hend h2
      go_enter Tryd.func31, Tryd.ntmps31
      go_wp2_with (fail)
      have HMl : Aside0 (ws.length ≤ 512) := ⟨by omega⟩
      clear d2 d3 h3
      go_loop [4, 21] (fun s i => ∃ k : Nat, k ≤ ws.length ∧ i = .int .i64 (k : Int) ∧ s = .int .i64 (preV ws k) ∧ Aside0 ((ws.take k).all isWt = true)) (fun _ i => ws.length - (intOf i).toNat)
      case atStart => exact ⟨0, Nat.zero_le _, rfl, rfl, ⟨rfl⟩⟩
      case round =>
        obtain ⟨k, hk, rfl, rfl, HA⟩ := hrel
        by_cases hlt : k < ws.length
        · have hx := int_cell HC.out (Below.refl _ _) k hlt
          have hbd := preV_bd' HA.out hk
          have hsc := preV_succ ws k hlt
          obtain ⟨x, hxe⟩ : ∃ x, x = ws.getD k 0 := ⟨_, rfl⟩
          rw [← hxe] at hx hsc
          have hwk : IntKind.i64.wrap ((k : Int) + 1) = (k : Int) + 1 := by rw [IntKind.wrap_i64]; omega
          by_cases hb1 : x < 0
          · have dx : decide (x < 0) = true := by simpa using hb1
            have HE : Aside0 (ChooseR d ws c 0 10 c) := ⟨chooseV_range HSz.out (all_not hlt (by rw [← hxe]; unfold isWt; simp; omega))⟩
            clear hbd hsc hxe hb1
            go_wp2
            go_ret2
            exact ⟨_, _, _, HE.out, rfl, HM0.out⟩
          · have dx : decide (x < 0) = false := by simpa using hb1
            by_cases hb2 : 2147483648 < x
            · have dy : decide (2147483648 < x) = true := by simpa using hb2
              have HE : Aside0 (ChooseR d ws c 0 10 c) := ⟨chooseV_range HSz.out (all_not hlt (by rw [← hxe]; unfold isWt; simp; omega))⟩
              clear hbd hsc hxe hb1 hb2
              go_wp2
              go_ret2
              exact ⟨_, _, _, HE.out, rfl, HM0.out⟩
            · have dy : decide (2147483648 < x) = false := by simpa using hb2
              have HA2 : Aside0 ((ws.take (k + 1)).all isWt = true) := ⟨take_all_succ hlt HA.out (by rw [← hxe]; unfold isWt; simp; omega)⟩
              obtain ⟨s, hs⟩ : ∃ s, s = preV ws (k + 1) := ⟨_, rfl⟩
              have hws : IntKind.i64.wrap (preV ws k + x) = s := by have := HMl.out; rw [hs, hsc, IntKind.wrap_i64]; omega
              generalize preV ws k = p at *
              have HSs := Aside0.mk hs
              clear hbd hsc hxe hb1 hb2 hs
              go_wp2
              go_round
              case rel => exact ⟨k + 1, by omega, by go_num, by rw [HSs.out], HA2⟩
              case measure => simp [intOf]; omega
        · obtain rfl : k = ws.length := by omega
          have HAll : Aside0 (ws.all isWt = true) := ⟨by have := HA.out; rwa [List.take_length] at this⟩
          have hbd := preV_bd HAll.out ws.length (Nat.le_refl _)
          have HSu : Aside0 (preV ws ws.length = sumV ws) := ⟨preV_all ws⟩
          have HL3 := HMl.out
          obtain ⟨s, hs⟩ : ∃ s, s = preV ws ws.length := ⟨_, rfl⟩
          rw [← hs] at hbd HSu ⊢
          clear hs
          by_cases hz : s = 0
          · subst hz
            have HE : Aside0 (ChooseR d ws c 0 14 c) := ⟨chooseV_none HSz.out HAll.out HSu.out.symm⟩
            clear hbd
            go_wp2
            go_ret2
            exact ⟨_, _, _, HE.out, rfl, HM0.out⟩
          · have dz : (s == 0) = false := by simpa using hz
            have HSn : Aside0 (sumV ws ≠ 0) := ⟨by rw [← HSu.out]; exact hz⟩
            have HSb : Aside0 (0 < s ∧ s ≤ 9223372036854775807) := ⟨by omega, by omega⟩
            clear hbd hz HL3
            go_wp2_with (fail)
            refine (Below_calls d s c g B w HD.out HBy.out HS.out H0.out H1.out HSb.out.2 HB.out HLo.out).mono ?_
            rintro e w1 ⟨x, er, c', hR, ⟨rfl, rfl, hm⟩ | ⟨her, rfl, hm⟩⟩
            · have HM := Aside0.mk hm
              have hxr := belowV_x HSb.out.1 hR
              have HR : Aside0 (ChooseR d ws c (atL ws x : Int) 0 c') := ⟨chooseV_ok HSz.out HAll.out HSn.out (by rw [← HSu.out]; exact hR)⟩
              have hcw := blk_cell (hm.keep.blk HBw.out HNw.out (by simp)) 0
              simp only [List.getElem?_toArray, List.getElem?_cons_zero] at hcw
              have HC1 := Aside0.mk (C_keep HC.out HOf.out hm.keep)
              have HI0 : Aside0 (AtInv ws x 0) := ⟨AtInv.start hp hxr.1 (by rw [← HSu.out]; exact hxr.2)⟩
              have hx0 := int_cell HC1.out (Below.refl _ _) 0 hp
              have hp1 := preV_succ ws 0 hp
              rw [preV_zero, Int.zero_add] at hp1
              rw [← hp1, show ad.add 0 = ad by cases ad; simp [Addr.add]] at hx0
              have HX0 := hxr.1
              clear hR hm hcs hxr hp1 HA HS HM0 dz hlt
              go_wp2_with (fail)
              go_loop [9, 10] (fun a s => ∃ k : Nat, a = .int .i64 (k : Int) ∧ s = .int .i64 (preV ws (k + 1)) ∧ Aside0 (AtInv ws x k)) (fun a _ => ws.length - (intOf a).toNat)
              case atStart => exact ⟨0, rfl, rfl, HI0⟩
              case round =>
                clear hx0
                obtain ⟨k, rfl, rfl, HI⟩ := hrel
                have hkl := HI.out.1
                have HLn := HMl.out
                by_cases hle : preV ws (k + 1) ≤ x
                · have hI2 := HI.out.next hle
                  have hx1 := int_cell HC1.out (Below.refl _ _) (k + 1) hI2.1
                  have hs2 := preV_succ ws (k + 1) hI2.1
                  have hbd := preV_bd HAll.out (k + 1 + 1) (by have := hI2.1; omega)
                  have dle : decide (preV ws (k + 1) ≤ x) = true := by simpa using hle
                  obtain ⟨s2, hs2e⟩ : ∃ s, s = preV ws (k + 1 + 1) := ⟨_, rfl⟩
                  obtain ⟨y, hy⟩ : ∃ y, y = ws.getD (k + 1) 0 := ⟨_, rfl⟩
                  rw [← hs2e] at hs2 hbd
                  rw [← hy] at hs2 hx1
                  have hws : IntKind.i64.wrap (preV ws (k + 1) + y) = s2 := by rw [← hs2, IntKind.wrap_i64]; omega
                  obtain ⟨m, hmk⟩ : ∃ m, m = k + 1 := ⟨_, rfl⟩
                  have hwk : IntKind.i64.wrap ((k : Int) + 1) = (m : Int) := by rw [IntKind.wrap_i64]; omega
                  have HS2 := Aside0.mk hs2e
                  have HI2 := Aside0.mk hI2
                  have hk1 : m < ws.length := by rw [hmk]; exact hI2.1
                  rw [← hmk] at hx1
                  have HMk := Aside0.mk hmk
                  generalize preV ws (k + 1) = s1 at *
                  clear hle hs2 hbd hs2e hy hI2 hkl hmk
                  go_wp2
                  go_round
                  case rel => exact ⟨m, rfl, by rw [HS2.out, HMk.out], by rw [HMk.out]; exact HI2⟩
                  case measure => have := HMk.out; simp [intOf]; omega
                · have dle : decide (preV ws (k + 1) ≤ x) = false := by simpa using hle
                  have HF : Aside0 (ChooseR d ws c (k : Int) 0 c') := ⟨by have := HR.out; rwa [HI.out.done (by omega)] at this⟩
                  generalize preV ws (k + 1) = s1 at *
                  clear hle
                  go_wp2
                  go_ret2
                  exact ⟨_, _, _, HF.out, rfl, HM.out⟩
            · have HM := Aside0.mk hm
              have HR : Aside0 (ChooseR d ws c 0 er c) := ⟨chooseV_err HSz.out HAll.out HSn.out (by rw [← HSu.out]; exact hR) her⟩
              have dn : (er != 0) = true := by simpa using her
              clear hR hm her
              go_wp2
              go_ret2
              exact ⟨_, _, _, HR.out, rfl, HM.out⟩
set_option maxHeartbeats 4000000 in
set_option maxRecDepth 100000 in
theorem Choose_calls (d : List Int) (A : Option Addr) (cc : Nat) (ws : List Int) (c : Int) (g B : Nat) (w : World) (hd : d.length = 32) (hby : ∀ x ∈ d, 0 ≤ x ∧ x < 256) (hS : StrAt w g d c) (h0 : 0 ≤ c) (h1 : c ≤ 9223372036854775807) (hB : B ≤ g) (hLo : Lo B w)
    (hC : Kd.C (Kd.int .i64) w A ws.length ws) (ho : Off g A ws.length) :
    Calls Tryd.prog 19 #[.pointer (some ⟨g, 0, none⟩), .slice A ws.length cc] w (BackEnd B g d c (ChooseR d ws c) w) := by
  have HB0 : Aside0 (Below w.heap.size w ((w.alloc (.cells #[.pointer (some ⟨g, 0, none⟩)] 27)).alloc (.cells #[.slice A ws.length cc] 41))) := ⟨bel_alloc (bel_alloc (Below.refl _ _) _) _⟩
  have hb1 : ((w.alloc (.cells #[.pointer (some ⟨g, 0, none⟩)] 27)).alloc (.cells #[.slice A ws.length cc] 41)).heap[w.heap.size]? = some (.cells #[.pointer (some ⟨g, 0, none⟩)] 27 (0, 0)) := blk_alloc (heap_alloc_new _ _) _
  have hb2 : ((w.alloc (.cells #[.pointer (some ⟨g, 0, none⟩)] 27)).alloc (.cells #[.slice A ws.length cc] 41)).heap[w.heap.size + 1]? = some (.cells #[.slice A ws.length cc] 41 (0, 0)) := by
    have h := heap_alloc_new (w.alloc (.cells #[.pointer (some ⟨g, 0, none⟩)] 27)) (.cells #[.slice A ws.length cc] 41)
    rw [World.size_alloc] at h
    exact h
  have HLo := Aside0.mk hLo
  have HC := Aside0.mk (back_calls 31 #[] #[.pointer (some ⟨w.heap.size + 1, 0, none⟩), .pointer (some ⟨w.heap.size, 0, none⟩)] B d c g _ hd (hS.below HB0.out) hB (enters_ Tryd.func31 (by kernel_rfl) rfl) (ChooseR d ws c)
    (choose1_calls d A cc ws c g B (w.heap.size + 1) w.heap.size _ hd hby (hS.below HB0.out) h0 h1 hB (hLo.below (HB0.out.mono hLo.le)) (Kd.C_below hC HB0.out) ho hb2 hb1))
  clear hd hby hS h0 h1 hB hLo hb1 hb2 hC ho
  go_enter Tryd.func19, Tryd.ntmps19
  go_wp2_with (fail)
  refine HC.out.mono ?_
  rintro e w' ⟨x, er, c', hR, ⟨h0, rfl, hm⟩ | ⟨h0, rfl, hm⟩⟩
  · have H := Aside0.mk (And.intro h0 (And.intro hR hm))
    clear h0 hR hm
    go_wp2
    go_ret2
    exact ⟨x, er, c', H.out.2.1, .inl ⟨H.out.1, rfl, H.out.2.2.start HB0.out HLo.out.le⟩⟩
  · have H := Aside0.mk (And.intro h0 (And.intro hR hm))
    clear h0 hR hm
    go_wp2
    go_ret2
    exact ⟨x, er, c', H.out.2.1, .inr ⟨H.out.1, rfl, H.out.2.2.start HB0.out HLo.out.le⟩⟩
end Go.Proofs.YtdmeocoehahopaaDoor.Draw
namespace Go.Proofs.YtdmeocoehahopaaDoor.Draw
open Go.RowKit Go.Proofs.YtdmeocoehahopaaDoorW.PrintWords Go.Proofs.YtdmeocoehahopaaDoorW.PrintLast Go.Proofs.YtdmeocoehahopaaDoorW.PrintMore Go.Proofs.YtdmeocoehahopaaDoor.K Go.Proofs.YtdmeocoehahopaaDoor.Sha Go.Proofs.YtdmeocoehahopaaDoor.Codec Go.Proofs.YtdmeocoehahopaaDoor.RI Go.Proofs.YtdmeocoehahopaaDoor.Ten Go.Proofs.YtdmeocoehahopaaDoor.Top Go.Proofs.YtdmeocoehahopaaDoor.Fixed
set_option linter.unusedVariables false
set_option linter.unusedSimpArgs false
theorem one_cells {W : World} {g : Nat} {x : Value} {t : TypeId} (h : W.heap[g]? = some (.cells #[x] t (0, 0))) : W.cell? ⟨g, 0, none⟩ = some x := by
  have h1 := blk_cell h 0
  simpa only [List.getElem?_toArray, List.getElem?_cons_zero] using h1
theorem Q_off {e : Nat} {w : World} {base g n c : Nat} {A : Option Addr} {xs : List Int} {ok : Nat → Prop} (h : Kd.Q (Kd.int .i64) e w base ok (.slice A n c) xs) (hg : g < base) : Off g A n := by
  intro hn ad ha
  obtain ⟨_, inner, ho, _⟩ := h
  rcases ho.2 with ⟨_, A', he, hb⟩ | ⟨g', off, cap, cur, he, hb, _⟩
  · injection he with h1 _ _
    have := (hb ad (h1 ▸ ha)).1
    omega
  · injection he with h1 _ _
    rw [ha] at h1
    injection h1 with h1
    rw [h1]
    show g' ≠ g
    omega
theorem chooseV_err0 {d ws : List Int} {c x er c' : Int} (h : chooseV d ws c = (x, er, c')) (he : er ≠ 0) : x = 0 ∧ c' = c := by
  unfold chooseV at h
  split at h
  · cases h; exact ⟨rfl, rfl⟩
  · split at h
    · split at h
      · cases h; exact ⟨rfl, rfl⟩
      · split at h
        · cases h; exact absurd rfl he
        · cases h; exact ⟨rfl, rfl⟩
    · cases h; exact ⟨rfl, rfl⟩
set_option maxHeartbeats 16000000 in
set_option maxRecDepth 100000 in
theorem pick1_calls (d : List Int) (A : Option Addr) (cc : Nat) (l : List Int) (k c : Int) (g B Bv Bk Bs : Nat) (w : World) (hd : d.length = 32) (hby : ∀ x ∈ d, 0 ≤ x ∧ x < 256) (hS : StrAt w g d c) (h0 : 0 ≤ c) (h1 : c ≤ 9223372036854775807) (hB : B ≤ g) (hBw : B ≤ w.heap.size) (hLo : Lo B w) (hL : LaidAt w 0 stepsA)
    (hC : Kd.C (Kd.int .i64) w A l.length l)
    (hbv : w.heap[Bv]? = some (.cells #[.slice A l.length cc] 41 (0, 0))) (hbk : w.heap[Bk]? = some (.cells #[.int .i64 k] 3 (0, 0))) (hbs : w.heap[Bs]? = some (.cells #[.pointer (some ⟨g, 0, none⟩)] 27 (0, 0))) :
    Calls Tryd.prog 32 #[.pointer (some ⟨Bv, 0, none⟩), .pointer (some ⟨Bk, 0, none⟩), .pointer (some ⟨Bs, 0, none⟩)] w fun e w' => ∃ x er c', PickR d l k c x er c' ∧ e = .returned (.tuple #[.int .i64 x, .int .i64 er]) ∧ Moved B g d w w' c' := by
  have hcv := one_cells hbv
  have hck := one_cells hbk
  have HD := Aside0.mk hd
  have HBy := Aside0.mk hby
  have HS := Aside0.mk hS
  have H0 := Aside0.mk h0
  have H1 := Aside0.mk h1
  have HB := Aside0.mk hB
  have HBw := Aside0.mk hBw
  have HLo := Aside0.mk hLo
  have HL := Aside0.mk hL
  have HC := Aside0.mk hC
  have HXv := Aside0.mk hbv
  have HXk := Aside0.mk hbk
  have HXs := Aside0.mk hbs
  have HGw : Aside0 (g < w.heap.size) := ⟨blk_lt hS⟩
  clear hd hby hS h0 h1 hB hBw hLo hL hC hbv hbk hbs
  have fin : ∀ (er : Int) (w2 : World), Below w.heap.size w w2 → Aside0 (Moved B g d w w2 c) := fun er w2 hb => ⟨Moved.of_below HS.out HBw.out hb⟩
  have HFin := Aside0.mk fin
  clear fin
  by_cases hz : checkV l = 0
  · have HZ := Aside0.mk hz
    have hlen := check_len hz
    by_cases hr : k < 1 ∨ (l.length : Int) < k
    · have HT := Aside0.mk (top_range_calls A cc l k w HC.out hz hr)
      have HR : Aside0 (PickR d l k c 0 10 c) := ⟨pickV_range hz hr⟩
      clear hz hr hlen
      go_enter Tryd.func32, Tryd.ntmps32
      go_wp2_with (fail)
      refine HT.out.mono ?_
      rintro e w2 ⟨rfl, hb⟩
      have HBb := Aside0.mk hb
      clear hb hcv hck
      go_wp2_with (at_builtin; refine print_append_num (w0 := w) (W := w2) w.heap.size rfl (.tmp 24) (.tmp 25) 41 3 .i64 8 rfl Tryd.underlying41 Top.info_int (by decide) (.slice none 0 0) [] 0 rfl rfl (own_nil _ _ _ _) HBb.out HBb.out.size (by decide) ?_; intro v1 w3 hown hbw hgr hat; obtain ⟨A9, c9, rfl⟩ := own_slice hown; obtain ⟨ad, rfl, hzc⟩ := int_at (own_C hown) 0 (by decide); rw [show ad.add 0 = ad by cases ad; simp [Addr.add]] at hzc; replace hzc : w3.cell? ad = some (.int .i64 0) := hzc; have HQ3 := Aside0.mk hbw; clear hown hbw hgr hat)
      go_ret2
      exact ⟨0, 10, c, HR.out, rfl, (HFin.out 0 w3 HQ3.out).out⟩
    · by_cases hk1 : k = 1
      · subst hk1
        have HT := Aside0.mk (top_all_calls A cc 1 l w HC.out hz (Nat.le_refl _) hlen.1)
        have HR : Aside0 (PickR d l 1 c (mostV l) 0 c) := ⟨pickV_one hz⟩
        have HY : Aside0 ((ordL l).take 1 = [mostV l]) := ⟨by
          have h2 := ordL_length l
          unfold mostV
          apply List.ext_getElem (by rw [List.length_take]; simp; omega)
          intro i h3 h4
          have hi : i = 0 := by simp at h4; exact h4
          subst hi
          rw [List.getElem_take, List.getElem_singleton, List.getD_eq_getElem?_getD, List.getElem?_eq_getElem (by omega)]
          rfl⟩
        clear hz hr hlen
        obtain ⟨z, hze⟩ : ∃ z, z = mostV l := ⟨_, rfl⟩
        rw [← hze] at HR HY
        rw [HY.out] at HT
        clear hze
        go_enter Tryd.func32, Tryd.ntmps32
        go_wp2_with (fail)
        refine HT.out.mono ?_
        rintro e w2 ⟨A', c', rfl, hQ, hb⟩
        have hck2 := one_cells ((hb.block _ (blk_lt HXk.out)).trans HXk.out)
        have HQ := Aside0.mk hQ
        have HBb := Aside0.mk hb
        clear hQ hb hcv hck
        go_wp2_with (at_builtin; refine append_q (w0 := w) (W := w2.alloc (.cells #[.int .i64 0] 3)) w.heap.size rfl (.tmp 24) (.tmp 25) 41 3 .i64 8 rfl Tryd.underlying41 Top.info_int (by decide) (.slice A' 1 c') [z] [0] (some ⟨w2.heap.size, 0, none⟩) 1 1 rfl rfl (Kd.Q_below HQ.out (bel_alloc (Below.refl _ _) _)) (C_int (reads_lit w2 .i64 3 [0] (by decide))) (bel_alloc HBb.out _) (bel_size HBb.out _) (by simp) ?_; intro v1 w3 hq hbw _ _; obtain ⟨A9, c9, rfl, hc9⟩ := Kd.Q_slice hq; obtain ⟨ad, rfl, hz⟩ := int_at (Kd.Q_reads' hq).2.2 0 (by simp); rw [show ad.add 0 = ad by simp [Addr.add]] at hz; replace hz : w3.cell? ad = some (.int .i64 z) := hz; have HQ3 := Aside0.mk hbw; clear hq hbw hc9)
        go_ret2
        exact ⟨z, 0, c, HR.out, rfl, (HFin.out 0 w3 HQ3.out).out⟩
      · obtain ⟨n, rfl⟩ : ∃ n : Nat, k = (n : Int) := ⟨k.toNat, by omega⟩
        have hn2 : 2 ≤ n ∧ n ≤ l.length := by omega
        have HN := Aside0.mk hn2
        have HNl : Aside0 (n ≤ 512) := ⟨by omega⟩
        have HT := Aside0.mk (top_all_calls A cc n l w HC.out hz (by omega) (by omega))
        have dk1 : ((n : Int) == 1) = false := by rw [beq_eq_false_iff_ne]; omega
        have dk2 : (n == 1) = false := by rw [beq_eq_false_iff_ne]; omega
        have HTl : Aside0 ((topL l n).length = n) := ⟨topL_length hn2.2⟩
        have HOl : Aside0 ((ownL l n).length = n) := ⟨ownL_length hn2.2⟩
        have HOc : Aside0 (checkV (ownL l n) = 0) := ⟨ownL_check hz hn2.2 (by omega)⟩
        have HSl : Aside0 ((softV (ownL l n)).length = n) := ⟨by rw [soft_len]; exact HOl.out⟩
        have HOs : Aside0 (∀ i, i < n → (ownL l n).take (i + 1) = (ownL l n).take i ++ [l.getD ((topL l n).getD i 0).toNat 0]) := ⟨fun i hi => ownL_succ hn2.2 hi⟩
        have HTa : Aside0 (∀ i, i < n → ∃ j : Nat, j < l.length ∧ (topL l n).getD i 0 = (j : Int)) := ⟨fun i hi => topL_at hn2.2 hi⟩
        clear hz hr hlen hk1 hn2
        go_enter Tryd.func32, Tryd.ntmps32
        go_wp2_with (fail)
        refine HT.out.mono ?_
        rintro e w2 ⟨A1, c1, rfl, hQ, hb⟩
        have hck2 := one_cells ((hb.block _ (blk_lt HXk.out)).trans HXk.out)
        have HOf1 : Aside0 (Off g A1 n) := ⟨Q_off hQ HGw.out⟩
        have HT2 : Aside0 (Kd.C (Kd.int .i64) w2 A1 n (topL l n)) := ⟨by
          have h := (Kd.Q_reads' hQ).2.2
          have h2 : ((ordL l).take n).length = n := HTl.out
          rw [h2] at h
          exact h⟩
        have HB2 := Aside0.mk hb
        have HX2 : Aside0 (w2.heap[Bv]? = some (.cells #[.slice A l.length cc] 41 (0, 0))) := ⟨(hb.block _ (blk_lt HXv.out)).trans HXv.out⟩
        clear hQ hb hcv hck
        go_wp2_with (fail)
        clear hck2 dk1 dk2
        go_loopw [7, 32] (fun o i wr => ∃ i' : Nat, i' ≤ n ∧ i = .int .i64 (i' : Int) ∧ Aside0 (wr.ownsRow w2.heap.size 3 1 o ((ownL l n).take i').length (nums .i64 ((ownL l n).take i')) ∧ Below w2.heap.size w2 wr)) (fun _ i _ => n - (intOf i).toNat)
        case atStart => exact ⟨0, Nat.zero_le _, rfl, ⟨own_nil _ _ _ _, Below.refl _ _⟩⟩
        case round =>
          obtain ⟨i, hi, rfl, HO⟩ := hrel
          obtain ⟨A5, c5, rfl⟩ := own_slice HO.out.1
          have hcv := one_cells ((HO.out.2.block _ (blk_lt HX2.out)).trans HX2.out)
          have hn5 := HNl.out
          by_cases hlt : i < n
          · obtain ⟨adt, rfl, hxt⟩ := int_at (Kd.C_below HT2.out HO.out.2) i hlt
            obtain ⟨j, hj, hje⟩ := HTa.out i hlt
            rw [hje] at hxt
            have HX := Aside0.mk (HOs.out i hlt)
            rw [hje, Int.toNat_natCast] at HX
            obtain ⟨adv, rfl, hxv⟩ := int_at (Kd.C_below HC.out (below_step HB2.out HO.out.2)) j hj
            have hwi : IntKind.i64.wrap ((i : Int) + 1) = (i : Int) + 1 := by rw [IntKind.wrap_i64]; omega
            have HXl : Aside0 (((ownL l n).take i).length ≤ 512) := ⟨by rw [List.length_take]; omega⟩
            obtain ⟨x, hxe⟩ : ∃ x, x = l.getD j 0 := ⟨_, rfl⟩
            rw [← hxe] at hxv HX
            obtain ⟨es, hes⟩ : ∃ es, es = (ownL l n).take i := ⟨_, rfl⟩
            have HO4 : Aside0 (wr.ownsRow w2.heap.size 3 1 (.slice A5 es.length c5) es.length (nums .i64 es) ∧ Below w2.heap.size w2 wr) := ⟨by rw [hes]; exact HO.out⟩
            rw [← hes] at HX HXl ⊢
            clear hxe hes HO hje hn5
            go_wp2_with (at_builtin; refine print_append_num (w0 := w2) w2.heap.size rfl (.tmp 36) (.tmp 41) 41 3 .i64 8 rfl Tryd.underlying41 Top.info_int (by decide) _ es _ rfl rfl HO4.out.1 HO4.out.2 HO4.out.2.size ?_ ?_; rotate_left; intro v1 w4 hown hbw hgr hat; have HA := Aside0.mk (And.intro hown hbw); clear hown hbw hgr hat)
            · refine ⟨⟨i + 1, by omega, by go_num, ⟨by rw [HX.out]; exact HA.out.1, HA.out.2⟩⟩, by simp [intOf]; omega⟩
            · have := HXl.out
              omega
          · obtain rfl : i = n := by omega
            have eT : (ownL l i).take i = ownL l i := by
              have h := HOl.out
              exact List.take_of_length_le (by omega)
            have HW5 : Aside0 (Kd.C (Kd.int .i64) wr A5 (ownL l i).length (ownL l i)) := ⟨by have h := own_C HO.out.1; rwa [eT] at h⟩
            have HD3 := Aside0.mk HO.out.2
            have HB3 := Aside0.mk (below_step HB2.out HO.out.2)
            have HT3 := Aside0.mk (Kd.C_below HT2.out HO.out.2)
            have HRp : Aside0 (∀ x er c', chooseV d (softV (ownL l i)) c = (x, er, c') → PickR d l (i : Int) c ((topL l i).getD x.toNat 0) er c') := ⟨fun x er c' h => pickV_more HZ.out HN.out.1 HN.out.2 h⟩
            rw [eT]
            clear HO hlt eT hn5 hcv
            obtain ⟨own, how⟩ : ∃ o, o = ownL l i := ⟨_, rfl⟩
            obtain ⟨top, hto⟩ : ∃ o, o = topL l i := ⟨_, rfl⟩
            rw [← how] at HW5 HOl HOc HSl HRp ⊢
            rw [← hto] at HT3 HTl HRp
            clear HOs HTa
            have HWh := Aside0.mk (And.intro how hto)
            clear how hto
            go_wp2_with (fail)
            refine (softmax_ok_calls A5 c5 own wr HW5.out (HL.out.below HB3.out) HOc.out).mono ?_
            rintro e w4 ⟨A6, c6, rfl, hr, hb⟩
            have HD4 := Aside0.mk (below_step HB3.out hb)
            have HT4 := Aside0.mk (Kd.C_below HT3.out hb)
            have HS4 : Aside0 (Kd.C (Kd.int .i64) w4 A6 (softV own).length (softV own)) := ⟨(Kd.R_reads' hr).2.2⟩
            have HE4 : Aside0 (own.length = (softV own).length) := ⟨by rw [HOl.out, HSl.out]⟩
            have HOf6 : Aside0 (Off g A6 (softV own).length) := ⟨by
              obtain ⟨g', c', he, hge, _⟩ := R_dat hr (by rw [HSl.out]; have := HN.out; omega)
              intro _ ad hade
              injection he with he1 _ _
              rw [he1] at hade
              injection hade with hade
              rw [← hade]
              have h1 := HGw.out
              have h2 := HB3.out.size
              show g' ≠ g
              omega⟩
            have hcs := one_cells ((HD4.out.block _ (blk_lt HXs.out)).trans HXs.out)
            clear hr hb
            rw [HE4.out]
            obtain ⟨ss, hss⟩ : ∃ o, o = softV own := ⟨_, rfl⟩
            rw [← hss] at HS4 HOf6 HSl HRp HE4 ⊢
            clear hss
            go_wp2_with (fail)
            refine (Choose_calls d A6 c6 ss c g B w4 HD.out HBy.out (HS.out.below HD4.out) H0.out H1.out HB.out (HLo.out.below (HD4.out.mono HBw.out)) HS4.out HOf6.out).mono ?_
            rintro e w5 ⟨x, er, c', hR, hh⟩
            have hat := chooseV_at hR (by rw [HSl.out]; have := HN.out; omega)
            have HR5 := Aside0.mk (HRp.out x er c' hR)
            rcases hh with ⟨rfl, rfl, hm⟩ | ⟨her, rfl, hm⟩
            · obtain ⟨xn, rfl⟩ : ∃ xn : Nat, x = (xn : Int) := ⟨x.toNat, by omega⟩
              have HM : Aside0 (Moved B g d w w5 c') := ⟨hm.start HD4.out HBw.out⟩
              have hC5 := C_keep HT4.out HOf1.out hm.keep
              have hxn : xn < i := by have := HSl.out; omega
              obtain ⟨adt, rfl, hxt⟩ := int_at hC5 xn hxn
              rw [Int.toNat_natCast] at HR5
              generalize top.getD xn 0 = y at *
              clear hR hat hm hC5 hcs
              go_wp2
              go_ret2
              exact ⟨_, _, _, HR5.out, rfl, HM.out⟩
            · have hc2 := chooseV_err0 hR her
              obtain ⟨rfl, rfl⟩ := hc2
              have HM : Aside0 (Moved B g d w w5 c') := ⟨hm.start HD4.out HBw.out⟩
              have hC5 := C_keep HT4.out HOf1.out hm.keep
              obtain ⟨adt, rfl, hxt⟩ := int_at hC5 0 (by have := HN.out; omega)
              rw [show adt.add 0 = adt by cases adt; simp [Addr.add]] at hxt
              rw [show (0 : Int).toNat = 0 from rfl] at HR5
              have hpi : 0 < i := by have := HN.out; omega
              have dne : (er != 0) = true := by simpa using her
              generalize top.getD 0 0 = y at *
              clear hR hat hm hC5 hcs her
              go_wp2
              go_ret2
              exact ⟨_, _, _, HR5.out, rfl, HM.out⟩
  · have HT := Aside0.mk (top_bad_calls A cc l k w HC.out hz)
    have HR : Aside0 (PickR d l k c 0 (checkV l) c) := ⟨pickV_bad hz⟩
    obtain ⟨z, hze⟩ : ∃ z, z = checkV l := ⟨_, rfl⟩
    rw [← hze] at HR HT hz
    have dz : (z != 0) = true := by simpa using hz
    clear hz hze
    go_enter Tryd.func32, Tryd.ntmps32
    go_wp2_with (fail)
    refine HT.out.mono ?_
    rintro e w2 ⟨rfl, hb⟩
    have HBb := Aside0.mk hb
    clear hb hcv hck
    go_wp2_with (at_builtin; refine print_append_num (w0 := w) (W := w2) w.heap.size rfl (.tmp 24) (.tmp 25) 41 3 .i64 8 rfl Tryd.underlying41 Top.info_int (by decide) (.slice none 0 0) [] 0 rfl rfl (own_nil _ _ _ _) HBb.out HBb.out.size (by decide) ?_; intro v1 w3 hown hbw hgr hat; obtain ⟨A9, c9, rfl⟩ := own_slice hown; obtain ⟨ad, rfl, hzc⟩ := int_at (own_C hown) 0 (by decide); rw [show ad.add 0 = ad by cases ad; simp [Addr.add]] at hzc; replace hzc : w3.cell? ad = some (.int .i64 0) := hzc; have HQ3 := Aside0.mk hbw; clear hown hbw hgr hat)
    go_ret2
    exact ⟨0, z, c, HR.out, rfl, (HFin.out 0 w3 HQ3.out).out⟩
set_option maxHeartbeats 4000000 in
set_option maxRecDepth 100000 in
theorem Pick_calls (d : List Int) (A : Option Addr) (cc : Nat) (l : List Int) (k c : Int) (g B : Nat) (w : World) (hd : d.length = 32) (hby : ∀ x ∈ d, 0 ≤ x ∧ x < 256) (hS : StrAt w g d c) (h0 : 0 ≤ c) (h1 : c ≤ 9223372036854775807) (hB : B ≤ g) (hBw : B ≤ w.heap.size) (hLo : Lo B w) (hL : LaidAt w 0 stepsA) (hC : Kd.C (Kd.int .i64) w A l.length l) :
    Calls Tryd.prog 21 #[.pointer (some ⟨g, 0, none⟩), .slice A l.length cc, .int .i64 k] w (BackEnd B g d c (PickR d l k c) w) := by
  have HB0 : Aside0 (Below w.heap.size w (((w.alloc (.cells #[.pointer (some ⟨g, 0, none⟩)] 27)).alloc (.cells #[.slice A l.length cc] 41)).alloc (.cells #[.int .i64 k] 3))) := ⟨bel_alloc (bel_alloc (bel_alloc (Below.refl _ _) _) _) _⟩
  have hb0 : (((w.alloc (.cells #[.pointer (some ⟨g, 0, none⟩)] 27)).alloc (.cells #[.slice A l.length cc] 41)).alloc (.cells #[.int .i64 k] 3)).heap[w.heap.size]? = some (.cells #[.pointer (some ⟨g, 0, none⟩)] 27 (0, 0)) := blk_alloc (blk_alloc (heap_alloc_new _ _) _) _
  have hb1 : (((w.alloc (.cells #[.pointer (some ⟨g, 0, none⟩)] 27)).alloc (.cells #[.slice A l.length cc] 41)).alloc (.cells #[.int .i64 k] 3)).heap[w.heap.size + 1]? = some (.cells #[.slice A l.length cc] 41 (0, 0)) := by
    refine blk_alloc ?_ _
    have h := heap_alloc_new (w.alloc (.cells #[.pointer (some ⟨g, 0, none⟩)] 27)) (.cells #[.slice A l.length cc] 41)
    rw [World.size_alloc] at h
    exact h
  have hb2 : (((w.alloc (.cells #[.pointer (some ⟨g, 0, none⟩)] 27)).alloc (.cells #[.slice A l.length cc] 41)).alloc (.cells #[.int .i64 k] 3)).heap[w.heap.size + 1 + 1]? = some (.cells #[.int .i64 k] 3 (0, 0)) := by
    have h := heap_alloc_new ((w.alloc (.cells #[.pointer (some ⟨g, 0, none⟩)] 27)).alloc (.cells #[.slice A l.length cc] 41)) (.cells #[.int .i64 k] 3)
    rw [World.size_alloc, World.size_alloc] at h
    exact h
  have HBs := Aside0.mk hBw
  have HC := Aside0.mk (back_calls 32 #[] #[.pointer (some ⟨w.heap.size + 1, 0, none⟩), .pointer (some ⟨w.heap.size + 1 + 1, 0, none⟩), .pointer (some ⟨w.heap.size, 0, none⟩)] B d c g _ hd (hS.below HB0.out) hB (enters_ Tryd.func32 (by kernel_rfl) rfl) (PickR d l k c)
    (pick1_calls d A cc l k c g B (w.heap.size + 1) (w.heap.size + 1 + 1) w.heap.size _ hd hby (hS.below HB0.out) h0 h1 hB (Nat.le_trans hBw HB0.out.size) (hLo.below (HB0.out.mono hBw)) (hL.below HB0.out) (Kd.C_below hC HB0.out) hb1 hb2 hb0))
  clear hd hby hS h0 h1 hB hBw hLo hL hC hb0 hb1 hb2
  go_enter Tryd.func21, Tryd.ntmps21
  go_wp2_with (fail)
  refine HC.out.mono ?_
  rintro e w' ⟨x, er, c', hR, ⟨h0, rfl, hm⟩ | ⟨h0, rfl, hm⟩⟩
  · have H := Aside0.mk (And.intro h0 (And.intro hR hm))
    clear h0 hR hm
    go_wp2
    go_ret2
    exact ⟨x, er, c', H.out.2.1, .inl ⟨H.out.1, rfl, H.out.2.2.start HB0.out HBs.out⟩⟩
  · have H := Aside0.mk (And.intro h0 (And.intro hR hm))
    clear h0 hR hm
    go_wp2
    go_ret2
    exact ⟨x, er, c', H.out.2.1, .inr ⟨H.out.1, rfl, H.out.2.2.start HB0.out HBs.out⟩⟩
end Go.Proofs.YtdmeocoehahopaaDoor.Draw
namespace Go.Proofs.YtdmeocoehahopaaDoor.Draw
open Go.RowKit Go.Proofs.YtdmeocoehahopaaDoorW.PrintWords Go.Proofs.YtdmeocoehahopaaDoorW.PrintLast Go.Proofs.YtdmeocoehahopaaDoorW.PrintMore Go.Proofs.YtdmeocoehahopaaDoor.K Go.Proofs.YtdmeocoehahopaaDoor.Sha Go.Proofs.YtdmeocoehahopaaDoor.Codec Go.Proofs.YtdmeocoehahopaaDoor.RI Go.Proofs.YtdmeocoehahopaaDoor.Ten
set_option linter.unusedVariables false
set_option linter.unusedSimpArgs false
theorem chooseV_c {d ws : List Int} {c x er c' : Int} (h : chooseV d ws c = (x, er, c')) (hc : c ≤ 9223372036854775807) : c ≤ c' ∧ c' ≤ 9223372036854775807 ∧ c' ≤ c + 64 ∧ (er ≠ 0 → x = 0 ∧ c' = c) := by
  unfold chooseV at h
  split at h
  · cases h; exact ⟨Int.le_refl _, hc, by omega, fun _ => ⟨rfl, rfl⟩⟩
  · split at h
    · split at h
      · cases h; exact ⟨Int.le_refl _, hc, by omega, fun _ => ⟨rfl, rfl⟩⟩
      · split at h
        · obtain ⟨⟨x1, er1, c1⟩, hp⟩ : ∃ p, p = belowV d (sumV ws) c := ⟨_, rfl⟩
          have h2 := belowV_c hp.symm hc
          rw [← hp] at h
          cases h
          exact ⟨h2.1, h2.2.1, h2.2.2.1, fun h => absurd rfl h⟩
        · cases h; exact ⟨Int.le_refl _, hc, by omega, fun _ => ⟨rfl, rfl⟩⟩
    · cases h; exact ⟨Int.le_refl _, hc, by omega, fun _ => ⟨rfl, rfl⟩⟩
end Go.Proofs.YtdmeocoehahopaaDoor.Draw
