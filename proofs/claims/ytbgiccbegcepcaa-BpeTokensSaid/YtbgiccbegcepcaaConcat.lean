/- slices.Grow of nothing, slices.Concat of rows of bytes. -/
import Derived.Test.YtbgiccbegcepcaaK
namespace Go.Proofs.Ytbgiccbegcepcaa.Cat
open Go.RowKit Go.Proofs.YtbgiccbegcepcaaW.PrintWords Go.Proofs.YtbgiccbegcepcaaW.PrintLast Go.Proofs.YtbgiccbegcepcaaW.PrintMore Go.Proofs.Ytbgiccbegcepcaa.K
set_option linter.unusedVariables false
set_option linter.unusedSimpArgs false
theorem info_u8 : (Try.prog.info? 5).map (fun i => (i.zero, i.size, i.bytes)) = some (some (.int .u8 0), 1, 1) := by kernel_rfl
set_option maxHeartbeats 1000000 in
theorem grow_calls (n : Nat) (w : World) (hn : n ≤ 1000000) :
    Calls Try.prog 30 #[.slice none 0 0, .int .i64 (n : Int)] w fun e w' => ∃ v, e = .returned v ∧ Kd.R (Kd.int .u8) 5 w' w.heap.size (fun _ => True) v [] ∧ Below w.heap.size w w' := by
  have HN := Aside0.mk hn
  by_cases h0 : n = 0
  · subst h0
    clear hn
    go_enter Try.func30, Try.ntmps30
    go_wp2
    go_ret
    exact ⟨_, rfl, R_int (own_nil _ _ _ _), Below.refl _ _⟩
  · have hp : decide ((n : Int) < 0) = false := by simp
    have hq : decide (0 < (n : Int)) = true := by simp; omega
    have hq' : 0 < n := by omega
    clear h0
    go_enter Try.func30, Try.ntmps30
    go_wp2_with (at_builtin; refine Kd.R_append_zeros (Kd.int .u8) (w0 := w) (W := w) w.heap.size rfl (.tmp 20) (.tmp 21) 22 3 5 (.int .u8 0) 1 rfl Try.underlying22 Try.underlying3 info_u8 rfl (by decide) (by decide) (.slice none 0 0) [] (0 : Int) (kx := .i64) (n : Int) (fun _ => True) rfl rfl rfl (fun _ _ => trivial) (R_int (own_nil _ _ _ _)) (Int.natCast_nonneg _) (Below.refl _ _) (Nat.le_refl _) (by have := HN.out; simp; omega) ?_; intro v1 w1 ho hb hg hat; have HO1 := Aside0.mk ho; have HB1 := Aside0.mk hb; clear ho hb hg hat; obtain ⟨A1, c1, rfl, hc1, hC1⟩ := Kd.R_reads HO1.out; clear hC1)
    go_ret
    exact ⟨_, rfl, by have := Kd.R_take HO1.out (Nat.zero_le _); simpa using this, HB1.out⟩
def sumLen (l : List (List Int)) : Nat := (l.map List.length).sum
theorem getD_at (l : List (List Int)) (k : Nat) (h : k < l.length) : l.getD k [] = l[k] := by rw [List.getD_eq_getElem?_getD, List.getElem?_eq_getElem h]; rfl
theorem sumLen_step (l : List (List Int)) (k : Nat) (h : k < l.length) : sumLen (l.take (k + 1)) = sumLen (l.take k) + (l.getD k []).length := by
  rw [getD_at l k h, List.take_succ_eq_append_getElem h]
  unfold sumLen
  rw [List.map_append, List.sum_append]
  simp only [List.map_cons, List.map_nil, List.sum_cons, List.sum_nil, Nat.add_zero]
theorem sumLen_le (l : List (List Int)) (k : Nat) : sumLen (l.take k) ≤ sumLen l := by
  conv => rhs; rw [← List.take_append_drop k l]
  simp only [sumLen, List.map_append, List.sum_append]
  omega
theorem flat_step (l : List (List Int)) (k : Nat) (h : k < l.length) : (l.take (k + 1)).flatten = (l.take k).flatten ++ l.getD k [] := by
  rw [getD_at l k h, List.take_succ_eq_append_getElem h, List.flatten_append]
  simp only [List.flatten_cons, List.flatten_nil, List.append_nil]
theorem flat_len (l : List (List Int)) : l.flatten.length = sumLen l := by
  simp [sumLen, List.length_flatten]
set_option maxHeartbeats 4000000 in
set_option maxRecDepth 100000 in
theorem concat_calls (A : Option Addr) (c : Nat) (l : List (List Int)) (w : World) (hC : Kd.C (Kd.slice 5 (Kd.int .u8)) w A l.length l) (hs : sumLen l ≤ 1000000) :
    Calls Try.prog 29 #[.slice A l.length c] w fun e w' => ∃ v, e = .returned v ∧ Kd.R (Kd.int .u8) 5 w' w.heap.size (fun _ => True) v l.flatten ∧ Below w.heap.size w w' := by
  have HC := Aside0.mk hC
  have HS := Aside0.mk hs
  have hm := hC.2.1
  clear hC hs
  go_enter Try.func29, Try.ntmps29
  go_wp2
  go_loopw [3, 11] (fun z i wr => ∃ k : Nat, k ≤ l.length ∧ i = .int .i64 (k : Int) ∧ z = .int .i64 (sumLen (l.take k) : Nat) ∧ Aside0 (Below w.heap.size w wr)) (fun _ i _ => l.length - (intOf i).toNat)
  case atStart => exact ⟨0, Nat.zero_le _, rfl, rfl, ⟨Below.refl _ _⟩⟩
  case round =>
    obtain ⟨k, hk, rfl, rfl, HB⟩ := hrel
    by_cases hlt : k < l.length
    · obtain ⟨ad, A0, c0, rfl, hcell, hc0, hK⟩ := row_at' HC.out HB.out k hlt
      have HX := Aside0.mk (sumLen_step l k hlt)
      have HY := Aside0.mk (sumLen_le l (k + 1))
      generalize l.getD k [] = x at *
      obtain ⟨m, hm1⟩ : ∃ m, m = sumLen (l.take k) := ⟨_, rfl⟩
      rw [← hm1]
      have hmb : m + x.length ≤ 1000000 := by have := HX.out; have := HY.out; have := HS.out; omega
      have HM := Aside0.mk hm1
      clear hm1 hK hc0
      have hz : decide ((m : Int) + (x.length : Int) < 0) = false := by simp; omega
      go_wp2
      go_roundw
      case rel => exact ⟨k + 1, by omega, by go_num, by rw [HX.out, ← HM.out]; go_num, HB⟩
      case measure => simp [intOf]; omega
    · obtain rfl : k = l.length := by omega
      rw [show l.take l.length = l from List.take_of_length_le (Nat.le_refl _)]
      obtain ⟨m, hm1⟩ : ∃ m, m = sumLen l := ⟨_, rfl⟩
      rw [← hm1]
      have HM := Aside0.mk hm1
      have HMb : Aside0 (m ≤ 1000000) := ⟨by rw [hm1]; exact HS.out⟩
      clear hm1
      go_wp2_with (go_at_call 30; refine (grow_calls m wr HMb.out).mono ?_; rintro e w1 ⟨v, rfl, hR, hb⟩; have HR := Aside0.mk hR; have HB1 := Aside0.mk (below_step HB.out hb); have HRl := Aside0.mk (Kd.R_lower hR HB.out.size); clear hR hb)
      go_loopw [6, 27] (fun o i wr => ∃ k : Nat, k ≤ l.length ∧ i = .int .i64 (k : Int) ∧ Aside0 (Kd.R (Kd.int .u8) 5 wr w.heap.size (fun _ => True) o (l.take k).flatten ∧ Below w.heap.size w wr)) (fun _ i _ => l.length - (intOf i).toNat)
      case atStart => exact ⟨0, Nat.zero_le _, rfl, ⟨by simpa using HRl.out, HB1.out⟩⟩
      case round =>
        obtain ⟨k, hk, rfl, HO⟩ := hrel
        by_cases hlt : k < l.length
        · obtain ⟨ad, A0, c0, rfl, hcell, hc0, hK⟩ := row_at' HC.out HO.out.2 k hlt
          have HX := Aside0.mk (flat_step l k hlt)
          have HY : Aside0 ((l.take (k + 1)).flatten.length ≤ 1000000) := ⟨by rw [flat_len]; exact Nat.le_trans (sumLen_le l (k + 1)) HS.out⟩
          generalize l.getD k [] = x at *
          have HK := Aside0.mk (reads_int (Kd.C_below hK HO.out.2))
          obtain ⟨A3, c3, rfl⟩ := Kd.R_slice HO.out.1
          clear hK hc0
          generalize (l.take k).flatten = es at *
          go_wp2_with (at_builtin; refine print_append_row (w0 := w) w.heap.size rfl (.tmp 31) (.tmp 32) 22 5 .u8 1 rfl Try.underlying22 info_u8 (by decide) _ es x A0 x.length c0 rfl rfl (own_int HO.out.1) HK.out HO.out.2 HO.out.2.size (by have h := HY.out; rw [HX.out, List.length_append] at h; omega) ?_; intro v1 w2 hown hbw hgr hat; have HA := Aside0.mk (And.intro hown hbw); clear hown hbw hgr hat)
          go_roundw
          case rel => exact ⟨k + 1, by omega, by go_num, ⟨by rw [HX.out]; exact R_int HA.out.1, HA.out.2⟩⟩
          case measure => simp [intOf]; omega
        · obtain rfl : k = l.length := by omega
          have HE : Aside0 ((l.take l.length).flatten = l.flatten) := ⟨by rw [List.take_of_length_le (Nat.le_refl _)]⟩
          go_wp2
          go_ret
          exact ⟨_, rfl, by rw [← HE.out]; exact HO.out.1, HO.out.2⟩
end Go.Proofs.Ytbgiccbegcepcaa.Cat
