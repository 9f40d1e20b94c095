/- store: Recover. -/
import Derived.Test.YtpndobhakmjglaaDoorStoreApp
import Derived.Test.YtpndobhakmjglaaDoorStoreRecP
namespace Go.Proofs.YtpndobhakmjglaaDoor.Store
open Go.RowKit Go.Proofs.YtpndobhakmjglaaDoorW.PrintWords Go.Proofs.YtpndobhakmjglaaDoorW.PrintLast Go.Proofs.YtpndobhakmjglaaDoorW.PrintMore Go.Proofs.YtpndobhakmjglaaDoor.K Go.Proofs.YtpndobhakmjglaaDoor.Sha
set_option linter.unusedVariables false
set_option linter.unusedSimpArgs false
/-- What a jump back finds. -/
def RecSt (w : World) (b0 : List Int) (g : Nat) (rs : List (List Int)) (b : List Int) (A : Option Addr) (c : Nat) (w' : World) : Prop :=
  ∃ vl vm vb, StAt w' w.heap.size g vl vm vb rs (markV [] rs) (storeB [] rs) ∧ recV [] b0 = (rs ++ (recV (markV [] rs) b).1, (recV (markV [] rs) b).2) ∧ Kd.C (Kd.int .u8) w A b.length b ∧ b.length ≤ c ∧ (∀ x ∈ b, 0 ≤ x ∧ x < 256) ∧ ((∀ x ∈ markV [] rs, 0 ≤ x ∧ x < 256) ∧ (markV [] rs).length ≤ 16) ∧ (storeB [] rs).length + b.length ≤ b0.length ∧ rs.length + b.length ≤ b0.length ∧ Below w.heap.size w w'
def RecEnd (w : World) (b0 : List Int) (e : Ending) (w' : World) : Prop :=
  ∃ g vl vm vb, e = .returned (.tuple #[.pointer (some ⟨g, 0, none⟩), .int .i64 ((recV [] b0).2.length : Int)]) ∧ StAt w' w.heap.size g vl vm vb (recV [] b0).1 (markV [] (recV [] b0).1) (storeB [] (recV [] b0).1) ∧ Below w.heap.size w w'
theorem recEnd_of {w : World} {b0 : List Int} {g : Nat} {vl vm vb : Value} {rs : List (List Int)} {b : List Int} {w' : World} {e : Ending} (he : e = .returned (.tuple #[.pointer (some ⟨g, 0, none⟩), .int .i64 (b.length : Int)])) (hs : StAt w' w.heap.size g vl vm vb rs (markV [] rs) (storeB [] rs)) (hE : recV [] b0 = (rs ++ (recV (markV [] rs) b).1, (recV (markV [] rs) b).2)) (hno : recOk (markV [] rs) b = false) (hb : Below w.heap.size w w') : RecEnd w b0 e w' := by
  rw [recV_no hno, List.append_nil] at hE
  unfold RecEnd
  rw [hE]
  exact ⟨g, vl, vm, vb, he, hs, hb⟩
set_option maxHeartbeats 16000000 in
set_option maxRecDepth 100000 in
theorem rec_calls (A : Option Addr) (c : Nat) (b0 : List Int) (w : World) (hr0 : Kd.C (Kd.int .u8) w A b0.length b0) (hc : b0.length ≤ c) (hb : ∀ x ∈ b0, 0 ≤ x ∧ x < 256) (hlim : b0.length ≤ 100000)
    (hLf : LaidAt w 0 firstA) (hL : LaidAt w 1 constA) :
    Calls Tryd.prog 10 #[.slice A b0.length c] w (RecEnd w b0) := by
  have HLim := Aside0.mk hlim
  have HC0 := Aside0.mk hr0
  have HCc := Aside0.mk hc
  have HBy0 := Aside0.mk hb
  have HLf := Aside0.mk hLf
  have HL := Aside0.mk hL
  clear hr0 hc hb hlim hLf hL
  go_enter Tryd.func10, Tryd.ntmps10
  go_wp2
  refine wp_scope_once 0 (fun a' w' => ∃ (g : Nat) (rs : List (List Int)) (b : List Int) (A : Option Addr) (c : Nat) (u5 u6 u7 u8 u9 u10 u11 u12 u13 u14 u15 u16 u17 u18 u19 u20 u21 u22 u23 u24 u25 u26 u27 u28 u29 u30 u31 u32 u33 u34 u35 u36 u37 u38 u39 u40 u41 u42 u43 u44 u45 u46 u47 u48 u49 u50 u51 u52 u53 u54 u55 u56 u57 u58 u59 u60 u61 u62 u63 u64 u65 u66 u67 u68 u69 u70 : Value), a' = { tmps := (.slice A b.length c :: undef :: .pointer none :: .int .i64 0 :: .pointer (some ⟨g, 0, none⟩) :: u5 :: u6 :: u7 :: u8 :: u9 :: u10 :: u11 :: u12 :: u13 :: u14 :: u15 :: u16 :: u17 :: u18 :: u19 :: u20 :: u21 :: u22 :: u23 :: u24 :: u25 :: u26 :: u27 :: u28 :: u29 :: u30 :: u31 :: u32 :: u33 :: u34 :: u35 :: u36 :: u37 :: u38 :: u39 :: u40 :: u41 :: u42 :: u43 :: u44 :: u45 :: u46 :: u47 :: u48 :: u49 :: u50 :: u51 :: u52 :: u53 :: u54 :: u55 :: u56 :: u57 :: u58 :: u59 :: u60 :: u61 :: u62 :: u63 :: u64 :: u65 :: u66 :: u67 :: u68 :: u69 :: u70 :: []).toArray, defers := [] } ∧ RecSt w b0 g rs b A c w') (fun a' _ => match a'.tmps.getD 0 undef with | .slice _ n _ => n | _ => 0) rfl ?_ ?_
  · clear HC0 HCc HBy0
    rintro a' wr ⟨g, rs, b, A, c, u5, u6, u7, u8, u9, u10, u11, u12, u13, u14, u15, u16, u17, u18, u19, u20, u21, u22, u23, u24, u25, u26, u27, u28, u29, u30, u31, u32, u33, u34, u35, u36, u37, u38, u39, u40, u41, u42, u43, u44, u45, u46, u47, u48, u49, u50, u51, u52, u53, u54, u55, u56, u57, u58, u59, u60, u61, u62, u63, u64, u65, u66, u67, u68, u69, u70, rfl, vl, vm, vb, hSt, hE, hC, hc, hby, hmk, hbl, hrl, hB⟩
    have HSt := Aside0.mk hSt
    have HE := Aside0.mk hE
    have HC := Aside0.mk hC
    have HBy := Aside0.mk hby
    have HMk := Aside0.mk hmk
    have HBl := Aside0.mk hbl
    have HRl := Aside0.mk hrl
    have HB := Aside0.mk hB
    have hm := hC.2.1
    clear hSt hE hC hby hmk hbl hrl hB
    by_cases h4 : b.length < 4
    · have h4I : decide ((b.length : Int) < 4) = true := by simp; omega
      have HNo : Aside0 (recOk (markV [] rs) b = false) := ⟨by simp [recOk, show ¬ 4 ≤ b.length by omega]⟩
      go_wp2
      simp only [Exit.jump]
      go_ret2
      exact recEnd_of rfl HSt.out HE.out HNo.out HB.out
    · have h4' : 4 ≤ b.length := by omega
      have h4I : decide ((b.length : Int) < 4) = false := by simp; omega
      have hc4 : 4 ≤ c := by omega
      obtain ⟨A1, hcut1, hread1⟩ := cut_int (P := Tryd.prog) (k := .u8) 22 5 Tryd.underlying22 info_u8 A c b 4 h4' hc
      have hcut1' : ∀ W : World, (Instr.slice 22 (.slice A b.length c) (some (.int .i64 4)) none none).run Tryd.prog W = .ok (.slice A1 (b.drop 4).length (c - 4)) W := hcut1
      have HC1 := Aside0.mk (hread1 w HC.out)
      obtain ⟨ad, rfl, hx00⟩ := int_at' HC.out HB.out 0 (by omega)
      have hx0 : wr.cell? ad = some (.int .u8 (b.getD 0 0)) := hx00
      clear hx00
      have hx1 : wr.cell? ⟨ad.block, ad.off + 1, none⟩ = some (.int .u8 (b.getD 1 0)) := int_cell HC.out HB.out 1 (by omega)
      have hx2 : wr.cell? ⟨ad.block, ad.off + 2, none⟩ = some (.int .u8 (b.getD 2 0)) := int_cell HC.out HB.out 2 (by omega)
      have hx3 : wr.cell? ⟨ad.block, ad.off + 3, none⟩ = some (.int .u8 (b.getD 3 0)) := int_cell HC.out HB.out 3 (by omega)
      obtain ⟨a0, a0'⟩ := byte_at HBy.out 0
      obtain ⟨a1, a1'⟩ := byte_at HBy.out 1
      obtain ⟨a2, a2'⟩ := byte_at HBy.out 2
      obtain ⟨a3, a3'⟩ := byte_at HBy.out 3
      have HM : Aside0 (num4 b = ((b.getD 0 0 * 256 + b.getD 1 0) * 256 + b.getD 2 0) * 256 + b.getD 3 0) := ⟨rfl⟩
      have HL1 : Aside0 ((b.drop 4).length = b.length - 4) := ⟨by simp⟩
      have hw4 : IntKind.i64.wrap ((b.length : Int) - 4) = ((b.drop 4).length : Int) := by rw [IntWalk.i64_in _ (by omega), HL1.out]; omega
      have hc1 : (b.drop 4).length ≤ c - 4 := by have := HL1.out; omega
      generalize b.getD 0 0 = x0 at *
      generalize b.getD 1 0 = x1 at *
      generalize b.getD 2 0 = x2 at *
      generalize b.getD 3 0 = x3 at *
      have o1 : Go.bits .or .i64 0 x0 = x0 := by have := or_step 0 x0 (by decide) (by decide) a0 a0'; simpa using this
      obtain ⟨m2, hm2⟩ : ∃ m, m = x0 * 256 + x1 := ⟨_, rfl⟩
      have o2 : Go.bits .or .i64 (x0 * 256) x1 = m2 := by rw [hm2]; exact or_step x0 x1 a0 (by omega) a1 a1'
      have hm2a : 0 ≤ m2 := by omega
      have hm2b : m2 < 65536 := by omega
      obtain ⟨m3, hm3⟩ : ∃ m, m = m2 * 256 + x2 := ⟨_, rfl⟩
      have o3 : Go.bits .or .i64 (m2 * 256) x2 = m3 := by rw [hm3]; exact or_step m2 x2 hm2a (by omega) a2 a2'
      have hm3a : 0 ≤ m3 := by omega
      have hm3b : m3 < 16777216 := by omega
      obtain ⟨m, hm4⟩ : ∃ m : Nat, (m : Int) = m3 * 256 + x3 := ⟨(m3 * 256 + x3).toNat, by omega⟩
      have o4 : Go.bits .or .i64 (m3 * 256) x3 = (m : Int) := by rw [hm4]; exact or_step m3 x3 hm3a (by omega) a3 a3'
      have HM' : Aside0 (num4 b = (m : Int)) := ⟨by rw [HM.out, hm4, hm3, hm2]⟩
      clear HM hm4 hm3 hm2 h4 hcut1 hread1
      have hm1 := HC1.out.2.1
      generalize hb1 : b.drop 4 = b1 at *
      have HB1 := Aside0.mk hb1
      clear hb1
      by_cases hbig : 1048576 < m
      · skip
        have hd1 : decide (1048576 < (m : Int)) = true := by simp; omega
        have HNo : Aside0 (recOk (markV [] rs) b = false) := ⟨by simp [recOk, HM'.out, show ¬ ((m : Int) ≤ 1048576) by omega]⟩
        clear HM'
        go_wp2_with (fail)
        refine wp_loop_rounds 5 ?_
        rw [rounds_succ]
        go_wp2_with (fail)
        rw [rounds_succ]
        go_wp2_with (fail)
        rw [rounds_succ]
        go_wp2_with (fail)
        rw [rounds_succ]
        go_wp2_with (fail)
        rw [rounds_succ]
        go_wp2_with (fail)
        simp only [Exit.jump]
        go_ret2
        exact recEnd_of rfl HSt.out HE.out HNo.out HB.out
      · have hd1 : decide (1048576 < (m : Int)) = false := by simp; omega
        by_cases hgt : b1.length < m
        · skip
          have hd2 : decide ((b1.length : Int) < (m : Int)) = true := by simp; omega
          have HNo : Aside0 (recOk (markV [] rs) b = false) := ⟨by simp [recOk, HM'.out, HB1.out, show ¬ ((m : Int) ≤ (b1.length : Int)) by omega]⟩
          clear HM'
          go_wp2_with (fail)
          refine wp_loop_rounds 5 ?_
          rw [rounds_succ]
          go_wp2_with (fail)
          rw [rounds_succ]
          go_wp2_with (fail)
          rw [rounds_succ]
          go_wp2_with (fail)
          rw [rounds_succ]
          go_wp2_with (fail)
          rw [rounds_succ]
          go_wp2_with (fail)
          simp only [Exit.jump]
          go_ret2
          exact recEnd_of rfl HSt.out HE.out HNo.out HB.out
        · have hd2 : decide ((b1.length : Int) < (m : Int)) = false := by simp; omega
          have hle : m ≤ b1.length := by omega
          have hleI : (m : Int) ≤ b1.length := by omega
          have hmI : (0 : Int) ≤ (m : Int) := Int.natCast_nonneg _
          have hmc : m ≤ c - 4 := by omega
          have HR1 : Aside0 (recR b = b1.take m) := ⟨by rw [recR, HB1.out, HM'.out, Int.toNat_natCast]⟩
          have HT := Aside0.mk (take_int m hle HC1.out)
          have HT' : Aside0 ((b1.take m).length = m) := ⟨by rw [List.length_take]; omega⟩
          obtain ⟨Am, cm, hvm⟩ := Kd.R_slice HSt.out.2.2.2.1
          subst hvm
          have hk1 := st1 HSt.out
          have HRm := Aside0.mk (Kd.R_reads' HSt.out.2.2.2.1)
          have HRb : Aside0 (∀ x ∈ b1.take m, 0 ≤ x ∧ x < 256) := ⟨fun x hx => HBy.out x (List.mem_of_mem_drop (HB1.out ▸ List.mem_of_mem_take hx))⟩
          have HSl := Aside0.mk (seal_calls Am (markV [] rs).length cm (markV [] rs) A1 m m (b1.take m) wr HRm.out.2.2 HRm.out.2.1 (Kd.C_below HT.out HB.out) (Nat.le_refl _) (by have := HMk.out.2; have := HT'.out; omega) HMk.out.1 HRb.out (HLf.out.below HB.out) (HL.out.below HB.out))
          go_wp2_with (fail)
          refine wp_loop_rounds 5 ?_
          rw [rounds_succ]
          go_wp2_with (fail)
          rw [rounds_succ]
          go_wp2_with (fail)
          rw [rounds_succ]
          go_wp2_with (fail)
          rw [rounds_succ]
          go_wp2_with (fail)
          rw [rounds_succ]
          go_wp2_with (fail)
          refine HSl.out.mono ?_
          rintro e w1 ⟨v, rfl, hR, hb⟩
          obtain ⟨As, cs, rfl⟩ := Kd.R_slice hR
          have HS1 := Aside0.mk (Kd.R_reads' hR)
          have HB2 := Aside0.mk (below_step HB.out hb)
          have HSt2 := Aside0.mk (HSt.out.below hb)
          have HWl : Aside0 ((joinL [b1.take m, sealV (markV [] rs) (b1.take m)]).length = m + 24) := ⟨by rw [joinTwo_len, sealV_len, HT'.out]⟩
          have HWe : Aside0 (recW (markV [] rs) b = joinL [b1.take m, sealV (markV [] rs) (b1.take m)]) := ⟨by rw [recW, HR1.out]⟩
          have HWb : Aside0 (∀ x ∈ joinL [b1.take m, sealV (markV [] rs) (b1.take m)], 0 ≤ x ∧ x < 256) := ⟨joinTwo_byte HRb.out (sealV_byte _ _)⟩
          have HJ := Aside0.mk (join2 A1 m m (b1.take m) As (sealV (markV [] rs) (b1.take m)).length cs (sealV (markV [] rs) (b1.take m)) w1 (Kd.C_below HT.out HB2.out) (Nat.le_refl _) HS1.out.2.2 HS1.out.2.1 (by have := HT'.out; have := sealV_len (markV [] rs) (b1.take m); omega))
          have HBa : Aside0 (Below w1.heap.size w1 (w1.alloc (.cells #[.slice A1 m m, .slice As (sealV (markV [] rs) (b1.take m)).length cs] 22))) := ⟨bel_alloc (Below.refl _ _) _⟩
          clear hR hb hk1
          go_wp2_with (fail)
          refine HJ.out.mono ?_
          rintro e w2 ⟨vj, rfl, hRj, hbj⟩
          obtain ⟨Aj, cj, rfl⟩ := Kd.R_slice hRj
          have HB3 := Aside0.mk (below_step HBa.out hbj)
          have HB4 := Aside0.mk (below_step HB2.out HB3.out)
          have HSt3 := Aside0.mk (HSt2.out.below HB3.out)
          have HRj := Aside0.mk (Kd.R_reads' hRj)
          clear hRj hbj
          have HHas := Aside0.mk (has_calls (some ad) c b Aj cj (joinL [b1.take m, sealV (markV [] rs) (b1.take m)]) w2 (Kd.C_below HC.out HB4.out) hc HRj.out.2.2 HBy.out HWb.out)
          go_wp2_with (fail)
          refine HHas.out.mono ?_
          rintro e w3 ⟨rfl, ⟨nd, rfl⟩⟩
          cases hh : hasB b (joinL [b1.take m, sealV (markV [] rs) (b1.take m)]) with
          | false =>
            have HNo : Aside0 (recOk (markV [] rs) b = false) := ⟨by simp [recOk, HWe.out, hh]⟩
            have HBz : Aside0 (Below w.heap.size w (w2.drewN nd)) := ⟨pw_below_drewN HB4.out nd⟩
            clear hh
            go_wp2_with (fail)
            simp only [Exit.jump]
            go_ret2
            exact recEnd_of rfl (HSt3.out.move (fun _ _ _ => rfl)) HE.out HNo.out HBz.out
          | true =>
            have HYes : Aside0 (recOk (markV [] rs) b = true) := ⟨by simp [recOk, HWe.out, hh, HM'.out, HB1.out, h4', show (m : Int) ≤ 1048576 by omega, hleI]⟩
            have HWle : Aside0 (m + 24 ≤ b.length) := ⟨by
              have h1 := congrArg List.length (recOk_has HYes.out)
              rw [HWe.out, List.length_append, HWl.out] at h1
              omega⟩
            have HBz : Aside0 (Below w.heap.size w (w2.drewN nd)) := ⟨pw_below_drewN HB4.out nd⟩
            have HSt4 : Aside0 (StAt (w2.drewN nd) w.heap.size g vl (.slice Am (markV [] rs).length cm) vb rs (markV [] rs) (storeB [] rs)) := ⟨HSt3.out.move (fun _ _ _ => rfl)⟩
            have HVm := Aside0.mk HRm.out
            clear hh
            generalize w2.drewN nd = w4 at *
            have HTk : Aside0 (∀ W, Kept w4 W (Touch g vl vb) → Kd.C (Kd.int .u8) W A1 m (b1.take m)) := ⟨Kd.C_kept_came (Kd.heap_int .u8) HT.out HBz.out (by
              rintro k (rfl | e | e)
              · exact HSt4.out.1
              · exact ((Kd.R_bound HSt4.out.2.2.1).1 k e).2.1
              · exact ((Kd.R_bound HSt4.out.2.2.2.2).1 k e).2.1)⟩
            have HAp := Aside0.mk (append_calls A1 m m (b1.take m) HSt4.out HBz.out.size HTk.out (Nat.le_refl _) HRb.out HMk.out.1 HMk.out.2 (by omega) (by have := HRl.out; have := HLim.out; omega) (by have := HBl.out; have := HLim.out; omega) (HLf.out.below HBz.out) (HL.out.below HBz.out))
            have hwcut : m + 24 ≤ b.length := HWle.out
            obtain ⟨A9, hcut9, hread9⟩ := cut_int (P := Tryd.prog) (k := .u8) 22 5 Tryd.underlying22 info_u8 (some ad) c b (m + 24) hwcut hc
            have hcut9' : ∀ W : World, (Instr.slice 22 (.slice (some ad) b.length c) (some (.int .i64 ((m : Int) + 24))) none none).run Tryd.prog W = .ok (.slice A9 (b.drop (m + 24)).length (c - (m + 24))) W := fun W => by
              have h := hcut9 W
              rwa [show ((m + 24 : Nat) : Int) = (m : Int) + 24 from by omega] at h
            have HC9 := Aside0.mk (hread9 w HC.out)
            clear hcut9 hread9
            rw [HWl.out]
            go_wp2_with (fail)
            refine HAp.out.mono ?_
            rintro e w5 ⟨rfl, ⟨v5, m5, b5, hSt5⟩, hB5, hK5⟩
            have HB5 : Aside0 (Below w.heap.size w w5) := ⟨HBz.out.trans hB5⟩
            have HSt5 := Aside0.mk hSt5
            clear hSt5 hB5 hK5
            go_wp2_with (fail)
            go_step3
            have HMs : Aside0 (markV [] (rs ++ [b1.take m]) = sealV (markV [] rs) (b1.take m)) := ⟨markV_snoc _ _ _⟩
            have HSs : Aside0 (storeB [] (rs ++ [b1.take m]) = storeB [] rs ++ joinL [b1.take m, sealV (markV [] rs) (b1.take m)]) := ⟨storeB_snoc _ _ _⟩
            refine ⟨rfl, ⟨g, rs ++ [b1.take m], b.drop (m + 24), A9, c - (m + 24), _, _, _, _, _, _, _, _, _, _, _, _, _, _, _, _, _, _, _, _, _, _, _, _, _, _, _, _, _, _, _, _, _, _, _, _, _, _, _, _, _, _, _, _, _, _, _, _, _, _, _, _, _, _, _, _, _, _, _, _, _, _, _, _, _, _, by rw [List.length_drop], v5, m5, b5, ?_⟩, ?_⟩
            · rw [HMs.out, HSs.out]
              refine ⟨HSt5.out, ?_, HC9.out, by rw [List.length_drop]; omega, fun x hx => HBy.out x (List.mem_of_mem_drop hx), ⟨sealV_byte _ _, by rw [sealV_len]; decide⟩, ?_, ?_, HB5.out⟩
              · rw [HE.out, recV_yes HYes.out, HR1.out, HWe.out, HWl.out]
                simp
              · have := HBl.out; rw [List.length_append, HWl.out, List.length_drop]; omega
              · have := HRl.out; simp only [List.length_append, List.length_singleton, List.length_drop]; omega
            · simp
              omega
  · intro hrest
    go_wp2_with (fail)
    refine (new_calls w).mono ?_
    rintro e w1 ⟨g, rfl, hS, hb⟩
    have HS := Aside0.mk hS
    have HB := Aside0.mk hb
    clear hS hb
    go_wp2_with (fail)
    go_step3
    rename_i k1 hk1
    apply hk1
    exact hrest _ _ ⟨g, [], b0, A, c, _, _, _, _, _, _, _, _, _, _, _, _, _, _, _, _, _, _, _, _, _, _, _, _, _, _, _, _, _, _, _, _, _, _, _, _, _, _, _, _, _, _, _, _, _, _, _, _, _, _, _, _, _, _, _, _, _, _, _, _, _, _, _, _, _, _, rfl, _, _, _, HS.out, by simp [markV], HC0.out, HCc.out, HBy0.out, ⟨(fun x hx => absurd hx (by simp [markV])), (by simp [markV])⟩, (by simp [storeB]), (by simp), HB.out⟩
end Go.Proofs.YtpndobhakmjglaaDoor.Store

