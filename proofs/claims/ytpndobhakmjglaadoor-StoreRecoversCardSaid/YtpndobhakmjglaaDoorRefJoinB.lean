/- The reference's Join makes the bytes of all pieces, each with its length ahead. -/
import Derived.Test.YtpndobhakmjglaaDoorCodecCloneB
namespace Go.Proofs.YtpndobhakmjglaaDoor.Ref
open Go.RowKit Go.Proofs.YtpndobhakmjglaaDoorW.PrintWords Go.Proofs.YtpndobhakmjglaaDoorW.PrintLast Go.Proofs.YtpndobhakmjglaaDoorW.PrintMore Go.Proofs.YtpndobhakmjglaaDoor.K Go.Proofs.YtpndobhakmjglaaDoor.Codec
set_option linter.unusedVariables false
set_option maxHeartbeats 1000000 in
set_option maxRecDepth 100000 in
theorem rjoin_calls (A0 : Option Addr) (c0 : Nat) (l0 : List (List Int)) (w : World) (hr0 : Kd.C (Kd.slice 5 (Kd.int .u8)) w A0 l0.length l0) (hb : (joinL l0).length ≤ 140737488355328) :
    Calls Tryd.prog 29 #[.slice A0 l0.length c0] w fun e w' => ∃ v0_ : Value, e = .returned (v0_) ∧ Kd.R (Kd.int .u8) 5 w' w.heap.size (fun _ => True) v0_ (joinL l0) ∧ Below w.heap.size w w' := by
  have HR0 := Aside0.mk hr0
  have HBd := Aside0.mk hb
  have hm := hr0.2.1
  clear hr0 hb
  go_enter Tryd.func29, Tryd.ntmps29
  go_wp2
  go_loopw [3, 4] (fun v3 v4 w' => ∃ (k : Nat), k ≤ l0.length ∧ v4 = .int .i64 k ∧ Aside0 (w'.ownsRow w.heap.size 5 1 v3 (joinL (l0.take k)).length (nums .u8 (joinL (l0.take k)))) ∧ Aside0 (Below w.heap.size w w')) (fun _ v4 _ => l0.length - (intOf v4).toNat)
  case atStart => exact ⟨0, Nat.zero_le _, rfl, ⟨own_nil _ _ _ _⟩, ⟨Below.refl _ _⟩⟩
  case round =>
    obtain ⟨k, hk, rfl, HO, HB⟩ := hrel
    by_cases hlt : k < l0.length
    · obtain ⟨ad, A1, c1, rfl, hxa, hl1, hi1⟩ := row_get HR0.out k hlt
      have HX := Aside0.mk hxa
      have hx := hxa wr HB.out
      clear hxa
      have HS := Aside0.mk (joinL_snoc l0 k hlt)
      have HLe := Aside0.mk (joinL_le l0 (k + 1))
      have hm1 := hi1.2.1
      obtain ⟨A3, c3, rfl⟩ := own_slice HO.out
      generalize l0.getD k [] = p at *
      generalize hxs : joinL (l0.take k) = xs at *
      clear hxs
      have HR1 := Aside0.mk (reads_int hi1)
      have HLim : Aside0 (xs.length + 4 + p.length ≤ 140737488355328) := ⟨by
        have h1 := congrArg List.length HS.out
        have h2 := HLe.out
        have h3 := HBd.out
        simp only [List.length_append, be4, List.length_cons, List.length_nil] at h1
        omega⟩
      clear hi1 hl1
      go_wp2_with (first
        | (at_builtin; refine print_append_row (w0 := w) w.heap.size rfl (.tmp 17) (.tmp 33) 22 5 .u8 1 rfl Tryd.underlying22 info_u8 (by decide) (.slice A3 xs.length c3) xs (be4 p.length) (some ⟨wr.heap.size, 0, none⟩) 4 4 rfl rfl (HO.out.alloc _) (reads_lit wr .u8 5 (be4 p.length) (by simp [be4])) (bel_alloc HB.out _) (bel_size HB.out _) (by have := HLim.out; omega) ?_; intro v1 w1 ho hb hg hat; have HO1 := Aside0.mk ho; have HB1 := Aside0.mk hb; have hx1 := HX.out w1 hb; clear ho hb hg hat HO)
        | (at_builtin; refine print_append_row (w0 := w) w.heap.size rfl (.tmp 35) (.tmp 39) 22 5 .u8 1 rfl Tryd.underlying22 info_u8 (by decide) v1 (xs ++ be4 p.length) p A1 p.length c1 rfl rfl HO1.out (HR1.out.below HB1.out) HB1.out HB1.out.size (by have := HLim.out; simp only [List.length_append, be4, List.length_cons, List.length_nil]; omega) ?_; intro v2 w2 ho hb hg hat; have HO2 := Aside0.mk ho; have HB2 := Aside0.mk hb; clear ho hb hg hat))
      go_roundw
      case measure => simp [intOf]; omega
      case rel => exact ⟨k + 1, by omega, by go_num, ⟨by rw [HS.out]; exact HO2.out⟩, HB2⟩
    · obtain rfl : k = l0.length := by omega
      go_wp2
      go_ret
      exact ⟨_, rfl, R_int (by rw [← List.take_length (l := l0)]; simpa using HO.out), HB.out⟩
theorem rjoin_n (A0 : Option Addr) (n c0 : Nat) (l0 : List (List Int)) (w : World) (hr0 : Kd.C (Kd.slice 5 (Kd.int .u8)) w A0 n l0) (hb : (joinL l0).length ≤ 140737488355328) :
    Calls Tryd.prog 29 #[.slice A0 n c0] w fun e w' => ∃ v0_ : Value, e = .returned (v0_) ∧ Kd.R (Kd.int .u8) 5 w' w.heap.size (fun _ => True) v0_ (joinL l0) ∧ Below w.heap.size w w' := by
  obtain rfl := hr0.1
  exact rjoin_calls A0 c0 l0 w hr0 hb
end Go.Proofs.YtpndobhakmjglaaDoor.Ref
