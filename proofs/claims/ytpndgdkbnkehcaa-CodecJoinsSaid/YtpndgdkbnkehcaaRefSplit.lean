/- The reference's Split takes bytes apart into their pieces, or says that they are none's. -/
import Derived.Test.YtpndgdkbnkehcaaCodecSplit
namespace Go.Proofs.Ytpndgdkbnkehcaa.Ref
open Go.RowKit Go.Proofs.YtpndgdkbnkehcaaW.PrintWords Go.Proofs.YtpndgdkbnkehcaaW.PrintLast Go.Proofs.YtpndgdkbnkehcaaW.PrintMore Go.Proofs.Ytpndgdkbnkehcaa.K Go.Proofs.Ytpndgdkbnkehcaa.Codec
set_option linter.unusedVariables false
def RSplitPost (w : World) (b0 : List Int) (e : Ending) (w' : World) : Prop :=
  match splitL b0 with
  | none => e = .returned (.tuple #[.slice none 0 0, .bool false]) ∧ Below w.heap.size w w'
  | some ps => ∃ A c, e = .returned (.tuple #[.slice A ps.length c, .bool true]) ∧ Kd.C (Kd.slice 5 (Kd.int .u8)) w' A ps.length ps ∧ Below w.heap.size w w'
set_option maxHeartbeats 2000000 in
set_option maxRecDepth 100000 in
theorem rsplit_calls (A : Option Addr) (c : Nat) (b0 : List Int) (w : World) (hr0 : Kd.C (Kd.int .u8) w A b0.length b0) (hc : b0.length ≤ c) (hb : ∀ x ∈ b0, 0 ≤ x ∧ x < 256) (hlim : b0.length * 24 ≤ 140737488355328) :
    Calls Try.prog 15 #[.slice A b0.length c] w (RSplitPost w b0) := by
  have HC := Aside0.mk hr0
  have HBy := Aside0.mk hb
  have HLim := Aside0.mk hlim
  have hm := hr0.2.1
  clear hr0 hb hlim
  go_enter Try.func15, Try.ntmps15
  go_wp2
  go_loopw [4, 5] (fun v4 v5 w' => ∃ (k : Nat) (acc : List (List Int)), k ≤ b0.length ∧ v5 = .int .i64 k ∧ Aside0 (splitL b0 = (splitL (b0.drop k)).map (acc ++ ·)) ∧ Aside0 (acc.length ≤ k) ∧ Aside0 (Kd.R (Kd.fixed (Kd.slice 5 (Kd.int .u8)) w) 25 w' w.heap.size (fun _ => True) v4 acc) ∧ Aside0 (Below w.heap.size w w')) (fun _ v5 _ => b0.length - (intOf v5).toNat)
  case atStart => exact ⟨0, [], Nat.zero_le _, rfl, ⟨by simp⟩, ⟨by simp⟩, ⟨Kd.R_nil _ _ _ _ _⟩, ⟨Below.refl _ _⟩⟩
  case round =>
    obtain ⟨k, acc, hk, rfl, HE, HA, HR, HB⟩ := hrel
    by_cases hlt : k < b0.length
    · have HN0 : Aside0 (splitL (b0.drop k) = if (b0.drop k).length < 4 then none else if (((b0.drop k).drop 4).length : Int) < num4 (b0.drop k) then none else (splitL (((b0.drop k).drop 4).drop (num4 (b0.drop k)).toNat)).map ((((b0.drop k).drop 4).take (num4 (b0.drop k)).toNat) :: ·)) := ⟨by
        conv => lhs; rw [splitL]
        rw [dif_neg (by rw [List.length_drop]; omega)]⟩
      have HL : Aside0 ((b0.drop k).length = b0.length - k) := ⟨by simp⟩
      by_cases h4 : b0.length - k < 4
      · have HN : Aside0 (splitL (b0.drop k) = none) := ⟨by rw [HN0.out, if_pos (by rw [HL.out]; exact h4)]⟩
        have h4I : ((b0.length : Int) - (k : Int)) < 4 := by omega
        go_wp2
        go_ret2
        show RSplitPost _ _ _ _
        unfold RSplitPost
        rw [HE.out, HN.out]
        exact ⟨rfl, HB.out⟩
      · have h4I : ¬ ((b0.length : Int) - (k : Int)) < 4 := by omega
        obtain ⟨ad, rfl, hx0⟩ := int_at' HC.out HB.out k (by omega)
        have hx1 := int_cell HC.out HB.out (k + 1) (by omega)
        have hx2 := int_cell HC.out HB.out (k + 2) (by omega)
        have hx3 := int_cell HC.out HB.out (k + 3) (by omega)
        obtain ⟨a0, a0'⟩ := byte_at HBy.out k
        obtain ⟨a1, a1'⟩ := byte_at HBy.out (k + 1)
        obtain ⟨a2, a2'⟩ := byte_at HBy.out (k + 2)
        obtain ⟨a3, a3'⟩ := byte_at HBy.out (k + 3)
        have HM : Aside0 (num4 (b0.drop k) = ((b0.getD k 0 * 256 + b0.getD (k + 1) 0) * 256 + b0.getD (k + 2) 0) * 256 + b0.getD (k + 3) 0) := ⟨by simp [num4, List.getD_eq_getElem?_getD, List.getElem?_drop]⟩
        generalize b0.getD k 0 = x0 at *
        generalize b0.getD (k + 1) 0 = x1 at *
        generalize b0.getD (k + 2) 0 = x2 at *
        generalize b0.getD (k + 3) 0 = x3 at *
        obtain ⟨k1, hk1⟩ : ∃ k1, k1 = k + 1 := ⟨_, rfl⟩
        obtain ⟨k2, hk2⟩ : ∃ k2, k2 = k + 2 := ⟨_, rfl⟩
        obtain ⟨k3, hk3⟩ : ∃ k3, k3 = k + 3 := ⟨_, rfl⟩
        rw [← hk1] at hx1
        rw [← hk2] at hx2
        rw [← hk3] at hx3
        have fi1 : IntKind.i64.wrap ((k : Int) + 1) = (k1 : Int) := by rw [IntWalk.i64_in _ (by omega)]; omega
        have fi2 : IntKind.i64.wrap ((k : Int) + 2) = (k2 : Int) := by rw [IntWalk.i64_in _ (by omega)]; omega
        have fi3 : IntKind.i64.wrap ((k : Int) + 3) = (k3 : Int) := by rw [IntWalk.i64_in _ (by omega)]; omega
        have hi1 : (k1 : Int) < b0.length := by omega
        have hi2 : (k2 : Int) < b0.length := by omega
        have hi3 : (k3 : Int) < b0.length := by omega
        have fw0 : IntKind.i64.wrap x0 = x0 := IntWalk.i64_in _ (by omega)
        have fw1 : IntKind.i64.wrap x1 = x1 := IntWalk.i64_in _ (by omega)
        have fw2 : IntKind.i64.wrap x2 = x2 := IntWalk.i64_in _ (by omega)
        have fw3 : IntKind.i64.wrap x3 = x3 := IntWalk.i64_in _ (by omega)
        obtain ⟨y0, hy0⟩ : ∃ y, y = x0 * 16777216 := ⟨_, rfl⟩
        obtain ⟨y1, hy1⟩ : ∃ y, y = x1 * 65536 := ⟨_, rfl⟩
        obtain ⟨y2, hy2⟩ : ∃ y, y = x2 * 256 := ⟨_, rfl⟩
        have fm0 : IntKind.i64.wrap (x0 * 16777216) = y0 := by rw [IntWalk.i64_in _ (by omega), hy0]
        have fm1 : IntKind.i64.wrap (x1 * 65536) = y1 := by rw [IntWalk.i64_in _ (by omega), hy1]
        have fm2 : IntKind.i64.wrap (x2 * 256) = y2 := by rw [IntWalk.i64_in _ (by omega), hy2]
        obtain ⟨z1, hz1⟩ : ∃ y, y = y0 + y1 := ⟨_, rfl⟩
        obtain ⟨z2, hz2⟩ : ∃ y, y = z1 + y2 := ⟨_, rfl⟩
        obtain ⟨m, hz3⟩ : ∃ y : Nat, (y : Int) = z2 + x3 := ⟨(z2 + x3).toNat, by omega⟩
        have fs1 : IntKind.i64.wrap (y0 + y1) = z1 := by rw [IntWalk.i64_in _ (by omega), hz1]
        have fs2 : IntKind.i64.wrap (z1 + y2) = z2 := by rw [IntWalk.i64_in _ (by omega), hz2]
        have fs3 : IntKind.i64.wrap (z2 + x3) = (m : Int) := by rw [IntWalk.i64_in _ (by omega), hz3]
        have HM' : Aside0 (num4 (b0.drop k) = (m : Int)) := ⟨by rw [HM.out]; omega⟩
        have HML : Aside0 (m < 4294967296) := ⟨by omega⟩
        clear hz3 hz2 hz1 hy0 hy1 hy2 hk1 hk2 hk3 HM
        have h4' : k + 4 ≤ b0.length := by omega
        have HD : Aside0 ((b0.drop k).drop 4 = b0.drop (k + 4)) := ⟨by rw [List.drop_drop]⟩
        have HD2 : Aside0 ((b0.drop (k + 4)).length = b0.length - (k + 4)) := ⟨by rw [List.length_drop]⟩
        go_wp2
        go_quiet (fail)
        have hk4 : k + 4 ≤ b0.length := by assumption
        clear fi1 fi2 fi3 fw0 fw1 fw2 fw3 fm0 fm1 fm2 fs1 fs2 fs3 hx0 hx1 hx2 hx3
        by_cases hgt : b0.length - (k + 4) < m
        · have HN : Aside0 (splitL (b0.drop k) = none) := ⟨by rw [HN0.out, if_neg (by rw [HL.out]; omega), if_pos (by rw [HM'.out, HD.out, HD2.out]; omega)]⟩
          have hgtI : (b0.length : Int) - ((k : Int) + 4) < (m : Int) := by omega
          go_wp2
          go_ret2
          show RSplitPost _ _ _ _
          unfold RSplitPost
          rw [HE.out, HN.out]
          exact ⟨rfl, by have := HB.out; exact pw_below_drewN this _⟩
        · have hle : k + 4 + m ≤ b0.length := by omega
          have hgtI : ¬ (b0.length : Int) - ((k : Int) + 4) < (m : Int) := by omega
          obtain ⟨A2, hcut, hread, hle2⟩ := mid_int (P := Try.prog) (k := .u8) 25 5 Try.underlying25 info_u8 (some ad) c b0 ((k : Int) + 4) ((k : Int) + 4 + (m : Int)) (k + 4) m (by omega) (by omega) hle hc
          have HT := Aside0.mk (hread w HC.out)
          have HN : Aside0 (splitL (b0.drop k) = (splitL (b0.drop (k + 4 + m))).map ((b0.drop (k + 4)).take m :: ·)) := ⟨by
            rw [HN0.out, if_neg (by rw [HL.out]; omega), if_neg (by rw [HM'.out, HD.out, HD2.out]; omega), HM'.out, HD.out, Int.toNat_natCast, List.drop_drop]⟩
          have HT2 := Aside0.mk hle2
          clear hread HN0 HM' HD HD2 hgt hle2
          generalize (b0.drop (k + 4)).take m = t1 at *
          go_wp2_with (at_builtin; refine Kd.R_append (Kd.fixed (Kd.slice 5 (Kd.int .u8)) w) (w0 := w) (W := wr.drewN nq) w.heap.size rfl (.tmp 53) (.tmp 60) 22 25 (.slice none 0 0) 24 rfl Try.underlying22 info_bs rfl Nat.zero_lt_one (by decide) u4 acc t1 [.slice A2 t1.length (c - (k + 4))] (fun _ => True) (fun k => True ∧ some k ≠ u4.ownBlock) rfl rfl ⟨A2, c - (k + 4), rfl, HT2.out, HT.out⟩ (fun k hk => ⟨trivial, hk.2⟩) (fun _ _ => trivial) (Kd.R_drewN HR.out _) (pw_below_drewN HB.out _) HB.out.size (by have := HLim.out; have := HA.out; omega) ?_; intro v5 w2 ho hb hg hat; have HO2 := Aside0.mk ho; have HB2 := Aside0.mk hb; clear ho hb hg hat)
          go_roundw
          case measure => simp [intOf]; omega
          case rel =>
            refine ⟨k + 4 + m, acc ++ [t1], hle, by go_num, ⟨?_⟩, ⟨?_⟩, HO2, HB2⟩
            · rw [HE.out, HN.out]
              simp [Option.map_map, Function.comp_def]
            · have := HA.out; simp only [List.length_append, List.length_singleton]; omega
    · obtain rfl : k = b0.length := by omega
      go_wp2
      go_ret2
      show RSplitPost _ _ _ _
      unfold RSplitPost
      rw [HE.out, List.drop_length, splitL]
      obtain ⟨A', c', rfl, hl, hC⟩ := Kd.R_reads HR.out
      exact ⟨A', c', by simp, C_unfix HB.out (by simpa using hC), HB.out⟩
theorem rsplit_n (A : Option Addr) (n c : Nat) (b0 : List Int) (w : World) (hr0 : Kd.C (Kd.int .u8) w A n b0) (hc : n ≤ c) (hb : ∀ x ∈ b0, 0 ≤ x ∧ x < 256) (hlim : b0.length * 24 ≤ 140737488355328) :
    Calls Try.prog 15 #[.slice A n c] w (RSplitPost w b0) := by
  obtain rfl := hr0.1
  exact rsplit_calls A c b0 w hr0 hc hb hlim
end Go.Proofs.Ytpndgdkbnkehcaa.Ref
