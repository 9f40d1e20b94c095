/- codec.Split takes bytes apart into their pieces, or says that they are none's. -/
import Derived.Test.YtpndgdkbnkehcaaCodecClone
namespace Go.Proofs.Ytpndgdkbnkehcaa.Codec
open Go.RowKit Go.Proofs.YtpndgdkbnkehcaaW.PrintWords Go.Proofs.YtpndgdkbnkehcaaW.PrintLast Go.Proofs.YtpndgdkbnkehcaaW.PrintMore Go.Proofs.Ytpndgdkbnkehcaa.K
set_option linter.unusedVariables false

def num4 (b : List Int) : Int := ((b.getD 0 0 * 256 + b.getD 1 0) * 256 + b.getD 2 0) * 256 + b.getD 3 0
def splitL (b : List Int) : Option (List (List Int)) :=
  if h : b.length = 0 then some []
  else if b.length < 4 then none
  else if ((b.drop 4).length : Int) < num4 b then none
  else (splitL ((b.drop 4).drop (num4 b).toNat)).map (((b.drop 4).take (num4 b).toNat) :: ·)
termination_by b.length
decreasing_by simp only [List.length_drop]; omega
/-- What a jump back finds. -/
def SplitSt (w : World) (b0 : List Int) (v4 : Value) (acc : List (List Int)) (b : List Int) (A : Option Addr) (c : Nat) (w' : World) : Prop :=
  splitL b0 = (splitL b).map (acc ++ ·) ∧ Kd.C (Kd.int .u8) w A b.length b ∧ b.length ≤ c ∧ (∀ x ∈ b, 0 ≤ x ∧ x < 256) ∧ b.length + acc.length ≤ b0.length ∧ Kd.R (Kd.slice 5 (Kd.int .u8)) 25 w' w.heap.size (fun _ => True) v4 acc ∧ Below w.heap.size w w'
theorem info_bs : (Try.prog.info? 25).map (fun i => (i.zero, i.size, i.bytes)) = some (some (.slice none 0 0), 1, 24) := by kernel_rfl
def SplitPost (w : World) (b0 : List Int) (e : Ending) (w' : World) : Prop :=
  match splitL b0 with
  | none => e = .returned (.tuple #[.slice none 0 0, .int .i64 11]) ∧ Below w.heap.size w w'
  | some ps => ∃ v, e = .returned (.tuple #[v, .int .i64 0]) ∧ Kd.R (Kd.slice 5 (Kd.int .u8)) 25 w' w.heap.size (fun _ => True) v ps ∧ Below w.heap.size w w'
set_option maxHeartbeats 4000000 in
set_option maxRecDepth 100000 in
theorem split_calls (A : Option Addr) (c : Nat) (b0 : List Int) (w : World) (hr0 : Kd.C (Kd.int .u8) w A b0.length b0) (hc : b0.length ≤ c) (hb : ∀ x ∈ b0, 0 ≤ x ∧ x < 256) (hlim : b0.length * 24 ≤ 140737488355328) :
    Calls Try.prog 14 #[.slice A b0.length c] w (SplitPost w b0) := by
  have HS0 : Aside0 (SplitSt w b0 (.slice none 0 0) [] b0 A c w) := ⟨by simp, hr0, hc, hb, by simp, Kd.R_nil _ _ _ _ _, Below.refl _ _⟩
  have HLim := Aside0.mk hlim
  clear hr0 hc hb hlim
  go_enter Try.func14, Try.ntmps14
  go_wp2
  refine wp_scope_once 0 (fun a' w' => ∃ (v4 : Value) (acc : List (List Int)) (b : List Int) (A : Option Addr) (c : Nat) (u5 u6 u7 u8 u9 u10 u11 u12 u13 u14 u15 u16 u17 u18 u19 u20 u21 u22 u23 u24 u25 u26 u27 u28 u29 u30 u31 u32 u33 u34 u35 u36 u37 u38 u39 u40 u41 u42 u43 : Value), a' = { tmps := #[.slice A b.length c, undef, .slice none 0 0, .int .i64 0, v4, u5, u6, u7, u8, u9, u10, u11, u12, u13, u14, u15, u16, u17, u18, u19, u20, u21, u22, u23, u24, u25, u26, u27, u28, u29, u30, u31, u32, u33, u34, u35, u36, u37, u38, u39, u40, u41, u42, u43], defers := [] } ∧ SplitSt w b0 v4 acc b A c w') (fun a' _ => match a'.tmps.getD 0 undef with | .slice _ n _ => n | _ => 0) rfl ?_ ?_
  · clear HS0
    rintro a' wr ⟨v4, acc, b, A, c, u5, u6, u7, u8, u9, u10, u11, u12, u13, u14, u15, u16, u17, u18, u19, u20, u21, u22, u23, u24, u25, u26, u27, u28, u29, u30, u31, u32, u33, u34, u35, u36, u37, u38, u39, u40, u41, u42, u43, rfl, hS⟩
    obtain ⟨hs, hC, hc, hby, hln, hR, hB⟩ := hS
    have HE := Aside0.mk hs
    have HC := Aside0.mk hC
    have HBy := Aside0.mk hby
    have HLn := Aside0.mk hln
    have HR := Aside0.mk hR
    have HB := Aside0.mk hB
    have hm := hC.2.1
    clear hs hC hby hln hR hB
    by_cases h0 : b.length = 0
    · have h0' : b = [] := List.eq_nil_of_length_eq_zero h0
      subst h0'
      clear h0
      go_wp2
      simp only [Exit.jump]
      go_ret2
      show SplitPost _ _ _ _
      unfold SplitPost
      rw [HE.out, splitL]
      exact ⟨_, rfl, by simpa using HR.out, HB.out⟩
    · have hp : 0 < b.length := by omega
      have hpI : ((b.length : Int) == 0) = false := by rw [beq_eq_false_iff_ne]; omega
      by_cases h4 : b.length < 4
      · have HN : Aside0 (splitL b = none) := ⟨by rw [splitL]; simp [h0, h4]⟩
        clear h0
        go_wp2
        simp only [Exit.jump]
        go_ret2
        show SplitPost _ _ _ _
        unfold SplitPost
        rw [HE.out, HN.out]
        exact ⟨rfl, HB.out⟩
      · have h4' : 4 ≤ b.length := by omega
        have hc4 : 4 ≤ c := by omega
        obtain ⟨A1, hcut1, hread1⟩ := cut_int (P := Try.prog) (k := .u8) 25 5 Try.underlying25 info_u8 A c b 4 h4' hc
        have hcut1' : ∀ W : World, (Instr.slice 25 (.slice A b.length c) (some (.int .i64 4)) none none).run Try.prog W = .ok (.slice A1 (b.drop 4).length (c - 4)) W := hcut1
        have HC1 := Aside0.mk (hread1 w HC.out)
        obtain ⟨ad, rfl, hx00⟩ := int_at' HC.out HB.out 0 (by omega)
        have hx0 : wr.cell? ad = some (.int .u8 (b.getD 0 0)) := hx00
        clear hx00
        have hx1 : wr.cell? ⟨ad.block, ad.off + 1, none⟩ = some (.int .u8 (b.getD 1 0)) := int_cell HC.out HB.out 1 (by omega)
        have hx2 : wr.cell? ⟨ad.block, ad.off + 2, none⟩ = some (.int .u8 (b.getD 2 0)) := int_cell HC.out HB.out 2 (by omega)
        have hx3 : wr.cell? ⟨ad.block, ad.off + 3, none⟩ = some (.int .u8 (b.getD 3 0)) := int_cell HC.out HB.out 3 (by omega)
        obtain ⟨a0, a0'⟩ := byte_at HBy.out 0
        obtain ⟨a1, a1'⟩ := byte_at HBy.out 1
        obtain ⟨a2, a2'⟩ := byte_at HBy.out 2
        obtain ⟨a3, a3'⟩ := byte_at HBy.out 3
        have HN : Aside0 (splitL b = if ((b.drop 4).length : Int) < num4 b then none else (splitL ((b.drop 4).drop (num4 b).toNat)).map (((b.drop 4).take (num4 b).toNat) :: ·)) := ⟨by rw [splitL]; simp [h0, h4]⟩
        have HM : Aside0 (num4 b = ((b.getD 0 0 * 256 + b.getD 1 0) * 256 + b.getD 2 0) * 256 + b.getD 3 0) := ⟨rfl⟩
        have HL1 : Aside0 ((b.drop 4).length = b.length - 4) := ⟨by simp⟩
        have HBy1 : Aside0 (∀ x ∈ b.drop 4, 0 ≤ x ∧ x < 256) := ⟨fun x hx => HBy.out x (List.mem_of_mem_drop hx)⟩
        generalize b.getD 0 0 = x0 at *
        generalize b.getD 1 0 = x1 at *
        generalize b.getD 2 0 = x2 at *
        generalize b.getD 3 0 = x3 at *
        have hc1 : (b.drop 4).length ≤ c - 4 := by have := HL1.out; omega
        generalize b.drop 4 = b1 at *
        generalize c - 4 = c1 at *
        have o1 : Go.bits .or .i64 0 x0 = x0 := by have := or_step 0 x0 (by decide) (by decide) a0 a0'; simpa using this
        obtain ⟨m2, hm2⟩ : ∃ m, m = x0 * 256 + x1 := ⟨_, rfl⟩
        have o2 : Go.bits .or .i64 (x0 * 256) x1 = m2 := by rw [hm2]; exact or_step x0 x1 a0 (by omega) a1 a1'
        have hm2a : 0 ≤ m2 := by omega
        have hm2b : m2 < 65536 := by omega
        obtain ⟨m3, hm3⟩ : ∃ m, m = m2 * 256 + x2 := ⟨_, rfl⟩
        have o3 : Go.bits .or .i64 (m2 * 256) x2 = m3 := by rw [hm3]; exact or_step m2 x2 hm2a (by omega) a2 a2'
        have hm3a : 0 ≤ m3 := by omega
        have hm3b : m3 < 16777216 := by omega
        obtain ⟨m, hm4⟩ : ∃ m : Nat, (m : Int) = m3 * 256 + x3 := ⟨(m3 * 256 + x3).toNat, by omega⟩
        have o4 : Go.bits .or .i64 (m3 * 256) x3 = (m : Int) := by rw [hm4]; exact or_step m3 x3 hm3a (by omega) a3 a3'
        have HM' : Aside0 (num4 b = (m : Int)) := ⟨by rw [HM.out, hm4, hm3, hm2]⟩
        clear HM hm4 hm3 hm2 h0 h4 hcut1 HBy hread1
        have h4I : decide ((b.length : Int) < 4) = false := by simp; omega
        have hm1 := HC1.out.2.1
        by_cases hgt : b1.length < m
        · have HN' : Aside0 (splitL b = none) := ⟨by rw [HN.out, HM'.out, if_pos (by omega)]⟩
          clear HN HM'
          go_wp2
          refine wp_loop_rounds 5 ?_
          rw [rounds_succ]
          go_wp2
          rw [rounds_succ]
          go_wp2
          rw [rounds_succ]
          go_wp2
          rw [rounds_succ]
          go_wp2
          rw [rounds_succ]
          go_wp2
          simp only [Exit.jump]
          go_ret2
          show SplitPost _ _ _ _
          unfold SplitPost
          rw [HE.out, HN'.out]
          exact ⟨rfl, HB.out⟩
        · have hle : m ≤ b1.length := by omega
          have hleI : (m : Int) ≤ b1.length := by omega
          have hmc : m ≤ c1 := by omega
          obtain ⟨A2, hcut2, hread2⟩ := cut_int (P := Try.prog) (k := .u8) 25 5 Try.underlying25 info_u8 A1 c1 b1 m hle hc1
          have HC2 := Aside0.mk (hread2 w HC1.out)
          have HT := Aside0.mk (take_int m hle HC1.out)
          have HT' : Aside0 ((b1.take m).length = m) := ⟨by rw [List.length_take]; omega⟩
          have HL2 : Aside0 ((b1.drop m).length = b1.length - m) := ⟨by simp⟩
          have HN' : Aside0 (splitL b = (splitL (b1.drop m)).map (b1.take m :: ·)) := ⟨by rw [HN.out, HM'.out, if_neg (by omega), Int.toNat_natCast]⟩
          have HBy2 : Aside0 (∀ x ∈ b1.drop m, 0 ≤ x ∧ x < 256) := ⟨fun x hx => HBy1.out x (List.mem_of_mem_drop hx)⟩
          clear HN HM' hread2 HBy1 hgt
          generalize b1.take m = t1 at *
          generalize b1.drop m = b2 at *
          have hc2 : b2.length ≤ c1 - m := by have := HL2.out; omega
          go_wp2
          refine wp_loop_rounds 5 ?_
          rw [rounds_succ]
          go_wp2
          rw [rounds_succ]
          go_wp2
          rw [rounds_succ]
          go_wp2
          rw [rounds_succ]
          go_wp2
          rw [rounds_succ]
          go_wp2_with (first
            | (go_at_call 21; refine (clone_calls _ _ _ t1 _ (Kd.C_below HT.out HB.out) (by have := HLim.out; have := HLn.out; have := HL1.out; omega)).mono ?_; rintro e w1 ⟨v1, rfl, hv1, hb1⟩; obtain ⟨Av, cv, rfl⟩ := Kd.R_slice hv1; have HV := Aside0.mk hv1; have HB1 := Aside0.mk hb1; clear hv1 hb1)
            | (at_builtin; refine Kd.R_append (Kd.slice 5 (Kd.int .u8)) (w0 := w) (W := w1) w.heap.size rfl (.tmp 34) (.tmp 39) 22 25 (.slice none 0 0) 24 rfl Try.underlying22 info_bs rfl (by decide) (by decide) v4 acc t1 [.slice Av t1.length cv] (fun _ => True) (fun k => True ∧ some k ≠ v4.ownBlock) rfl rfl (Kd.M_row (Kd.R_lower (Kd.R_new' HV.out (Kd.R_lt HR.out)) HB.out.size)) (fun k hk => ⟨trivial, hk.2⟩) (fun _ _ => trivial) (Kd.R_below HR.out HB1.out) (below_step HB.out HB1.out) (below_step HB.out HB1.out).size (by have := HLim.out; have := HLn.out; have := HL1.out; omega) ?_; intro v5 w2 ho hb hg hat; have HO2 := Aside0.mk ho; have HB2 := Aside0.mk hb; clear ho hb hg hat))
          go_step3
          refine ⟨rfl, ⟨v5, acc ++ [t1], b2, A2, c1 - m, _, _, _, _, _, _, _, _, _, _, _, _, _, _, _, _, _, _, _, _, _, _, _, _, _, _, _, _, _, _, _, _, _, _, _, _, _, _, _, rfl, ?_⟩, ?_⟩
          · refine ⟨?_, HC2.out, hc2, HBy2.out, ?_, HO2.out, HB2.out⟩
            · rw [HE.out, HN'.out]
              simp [Option.map_map, Function.comp_def]
            · have := HLn.out; have := HL1.out; have := HL2.out; simp only [List.length_append, List.length_singleton]; omega
          · have := HL1.out; have := HL2.out
            simp
            omega
  · intro hrest
    go_wp2
    go_step3
    rename_i k1 hk1
    apply hk1
    exact hrest _ _ ⟨_, _, _, _, _, _, _, _, _, _, _, _, _, _, _, _, _, _, _, _, _, _, _, _, _, _, _, _, _, _, _, _, _, _, _, _, _, _, _, _, _, _, _, _, rfl, HS0.out⟩
theorem split_n (A : Option Addr) (n c : Nat) (b0 : List Int) (w : World) (hr0 : Kd.C (Kd.int .u8) w A n b0) (hc : n ≤ c) (hb : ∀ x ∈ b0, 0 ≤ x ∧ x < 256) (hlim : b0.length * 24 ≤ 140737488355328) :
    Calls Try.prog 14 #[.slice A n c] w (SplitPost w b0) := by
  obtain rfl := hr0.1
  exact split_calls A c b0 w hr0 hc hb hlim
end Go.Proofs.Ytpndgdkbnkehcaa.Codec
