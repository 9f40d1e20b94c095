/- codec.Numbers makes the eight bytes of each number. -/
import Derived.Test.YtpndgdkbnkehcaaCodecClone
namespace Go.Proofs.Ytpndgdkbnkehcaa.Codec
open Go.RowKit Go.Proofs.YtpndgdkbnkehcaaW.PrintWords Go.Proofs.YtpndgdkbnkehcaaW.PrintLast Go.Proofs.YtpndgdkbnkehcaaW.PrintMore Go.Proofs.Ytpndgdkbnkehcaa.K
set_option linter.unusedVariables false
set_option maxHeartbeats 1000000 in
set_option maxRecDepth 100000 in
theorem numbers_calls (A0 : Option Addr) (c0 : Nat) (l0 : List Int) (w : World) (hr0 : Kd.C (Kd.int .i64) w A0 l0.length l0) (hb : l0.length * 8 ≤ 140737488355328) :
    Calls Try.prog 16 #[.slice A0 l0.length c0] w fun e w' => ∃ v0_ : Value, e = .returned (v0_) ∧ Kd.R (Kd.int .u8) 5 w' w.heap.size (fun _ => True) v0_ (numsL l0) ∧ Below w.heap.size w w' := by
  have HR0 := Aside0.mk hr0
  have HBd := Aside0.mk hb
  have hm := hr0.2.1
  clear hr0 hb
  go_enter Try.func16, Try.ntmps16
  go_wp2
  go_loopw [3, 10] (fun v3 v10 w' => ∃ (k : Nat), k ≤ l0.length ∧ v10 = .int .i64 k ∧ Aside0 (w'.ownsRow w.heap.size 5 1 v3 (numsL (l0.take k)).length (nums .u8 (numsL (l0.take k)))) ∧ Aside0 (Below w.heap.size w w')) (fun _ v10 _ => l0.length - (intOf v10).toNat)
  case atStart => exact ⟨0, Nat.zero_le _, rfl, ⟨own_nil _ _ _ _⟩, ⟨Below.refl _ _⟩⟩
  case round =>
    obtain ⟨k, hk, rfl, HO, HB⟩ := hrel
    by_cases hlt : k < l0.length
    · obtain ⟨ad, rfl, hx⟩ := int_at' HR0.out HB.out k hlt
      have HS := Aside0.mk (numsL_snoc l0 k hlt)
      have HLn := Aside0.mk (numsL_len (l0.take k))
      obtain ⟨A3, c3, rfl⟩ := own_slice HO.out
      generalize l0.getD k 0 = p at *
      generalize hxs : numsL (l0.take k) = xs at *
      clear hxs
      have HLim : Aside0 (xs.length + 8 ≤ 140737488355328) := ⟨by
        have h2 := HLn.out
        have h3 := HBd.out
        rw [List.length_take] at h2
        omega⟩
      obtain ⟨q, hq⟩ : ∃ q, IntKind.u64.wrap p = q := ⟨_, rfl⟩
      obtain ⟨hbe, hq0⟩ := be8_wrap p q hq
      have HQ := Aside0.mk hbe
      clear hbe
      go_wp2
      refine wp_loop_rounds 9 ?_
      rw [rounds_succ]
      go_wp2
      rw [rounds_succ]
      go_wp2
      rw [rounds_succ]
      go_wp2
      rw [rounds_succ]
      go_wp2
      rw [rounds_succ]
      go_wp2
      rw [rounds_succ]
      go_wp2
      rw [rounds_succ]
      go_wp2
      rw [rounds_succ]
      go_wp2
      rw [rounds_succ]
      go_wp2_with (at_builtin; refine print_append_row (w0 := w) w.heap.size rfl (.tmp 27) (.tmp 28) 25 5 .u8 1 rfl Try.underlying25 info_u8 (by decide) (.slice A3 xs.length c3) xs (be8 q) (some ⟨wr.heap.size, 0, none⟩) 8 8 rfl rfl (HO.out.alloc _) (reads_lit wr .u8 49 (be8 q) (by simp [be8])) (bel_alloc HB.out _) (bel_size HB.out _) (by have := HLim.out; omega) ?_; intro v1 w1 ho hb hg hat; have HO1 := Aside0.mk ho; have HB1 := Aside0.mk hb; clear ho hb hg hat HO)
      go_roundw
      case measure => simp [intOf]; omega
      case rel => exact ⟨k + 1, by omega, by go_num, ⟨by rw [HS.out, HQ.out]; exact HO1.out⟩, HB1⟩
    · obtain rfl : k = l0.length := by omega
      go_wp2
      go_ret
      exact ⟨_, rfl, R_int (by rw [← List.take_length (l := l0)]; simpa using HO.out), HB.out⟩
theorem numbers_n (A0 : Option Addr) (n c0 : Nat) (l0 : List Int) (w : World) (hr0 : Kd.C (Kd.int .i64) w A0 n l0) (hb : l0.length * 8 ≤ 140737488355328) :
    Calls Try.prog 16 #[.slice A0 n c0] w fun e w' => ∃ v0_ : Value, e = .returned (v0_) ∧ Kd.R (Kd.int .u8) 5 w' w.heap.size (fun _ => True) v0_ (numsL l0) ∧ Below w.heap.size w w' := by
  obtain rfl := hr0.1
  exact numbers_calls A0 c0 l0 w hr0 hb
end Go.Proofs.Ytpndgdkbnkehcaa.Codec
