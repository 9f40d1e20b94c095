/- Texts put together: StoreRecP, StoreRec, StoreGet, StorePl, StoreAwake, StoreMade, RangeAll, StoreAll, LawBytes, StoreHolds, LawPieces. -/
import Derived.Test.YtpndobhakmjglaaDoorBunS2
import Derived.RangeFuncNested
import Derived.RangeFuncBound
import Derived.RangeFuncCalls
import Derived.RangeFuncLeaves
import Derived.RangeFuncBox
import Derived.RangeFuncFrom
import Derived.RangeFuncWrites
import Derived.Shelf.Abstract
import Derived.Shelf.RegionOpen
import Derived.WalkKit
import Derived.OwnWalkIn
import Derived.TacticsInMore
import Derived.LoopNIn
import Derived.LoopIn
set_option linter.unusedVariables false
set_option linter.unusedSimpArgs false
namespace Go.Proofs.YtpndobhakmjglaaDoor.Store
open Go.RowKit Go.Proofs.YtpndobhakmjglaaDoorW.PrintWords Go.Proofs.YtpndobhakmjglaaDoorW.PrintLast Go.Proofs.YtpndobhakmjglaaDoorW.PrintMore Go.Proofs.YtpndobhakmjglaaDoor.K Go.Proofs.YtpndobhakmjglaaDoor.Sha
set_option linter.unusedVariables false
/-- The number that four bytes are; the first record of bytes; its bytes behind a mark; is it there. -/
def num4 (b : List Int) : Int := ((b.getD 0 0 * 256 + b.getD 1 0) * 256 + b.getD 2 0) * 256 + b.getD 3 0
def recR (b : List Int) : List Int := (b.drop 4).take (num4 b).toNat
def recW (a b : List Int) : List Int := joinL [recR b, sealV a (recR b)]
def recOk (a b : List Int) : Bool := decide (4 ≤ b.length) && decide (num4 b ≤ 1048576) && decide (num4 b ≤ ((b.drop 4).length : Int)) && hasB b (recW a b)
theorem recW_len (a b : List Int) : (recW a b).length = (recR b).length + 24 := by
  rw [recW, joinTwo_len, sealV_len]
/-- The records with which bytes begin, behind a mark, and the bytes behind them. -/
def recV (a b : List Int) : List (List Int) × List Int :=
  if h : recOk a b = true then (recR b :: (recV (sealV a (recR b)) (b.drop (recW a b).length)).1, (recV (sealV a (recR b)) (b.drop (recW a b).length)).2) else ([], b)
termination_by b.length
decreasing_by all_goals
  simp only [recOk, Bool.and_eq_true, decide_eq_true_eq] at h
  rw [List.length_drop, recW_len]
  omega
theorem recV_no {a b : List Int} (h : recOk a b = false) : recV a b = ([], b) := by rw [recV]; simp [h]
theorem recV_yes {a b : List Int} (h : recOk a b = true) : recV a b = (recR b :: (recV (sealV a (recR b)) (b.drop (recW a b).length)).1, (recV (sealV a (recR b)) (b.drop (recW a b).length)).2) := by rw [recV]; simp [h]
theorem recOk_has {a b : List Int} (h : recOk a b = true) : b = recW a b ++ b.drop (recW a b).length := by
  simp only [recOk, Bool.and_eq_true, decide_eq_true_eq, hasB] at h
  have h2 := List.take_append_drop (recW a b).length b
  rw [h.2] at h2
  exact h2.symm
/-- The bytes are those of the records, and the rest. -/
theorem recV_bytes (n : Nat) : ∀ (a b : List Int), b.length ≤ n → storeB a (recV a b).1 ++ (recV a b).2 = b := by
  induction n with
  | zero =>
    intro a b hb
    have hno : recOk a b = false := by
      have : ¬ 4 ≤ b.length := by omega
      simp [recOk, this]
    rw [recV_no hno]; rfl
  | succ n ih =>
    intro a b hb
    cases h : recOk a b with
    | false => rw [recV_no h]; rfl
    | true =>
      rw [recV_yes h]
      show joinL [recR b, sealV a (recR b)] ++ storeB (sealV a (recR b)) _ ++ _ = b
      rw [List.append_assoc, ih _ _ (by rw [List.length_drop, recW_len]; omega)]
      exact (recOk_has h).symm
end Go.Proofs.YtpndobhakmjglaaDoor.Store
namespace Go.Proofs.YtpndobhakmjglaaDoor.Store
open Go.RowKit Go.Proofs.YtpndobhakmjglaaDoorW.PrintWords Go.Proofs.YtpndobhakmjglaaDoorW.PrintLast Go.Proofs.YtpndobhakmjglaaDoorW.PrintMore Go.Proofs.YtpndobhakmjglaaDoor.K Go.Proofs.YtpndobhakmjglaaDoor.Sha
set_option linter.unusedVariables false
set_option linter.unusedSimpArgs false
/-- What a jump back finds. -/
def RecSt (w : World) (b0 : List Int) (g : Nat) (rs : List (List Int)) (b : List Int) (A : Option Addr) (c : Nat) (w' : World) : Prop :=
  ∃ vl vm vb, StAt w' w.heap.size g vl vm vb rs (markV [] rs) (storeB [] rs) ∧ recV [] b0 = (rs ++ (recV (markV [] rs) b).1, (recV (markV [] rs) b).2) ∧ Kd.C (Kd.int .u8) w A b.length b ∧ b.length ≤ c ∧ (∀ x ∈ b, 0 ≤ x ∧ x < 256) ∧ ((∀ x ∈ markV [] rs, 0 ≤ x ∧ x < 256) ∧ (markV [] rs).length ≤ 16) ∧ (storeB [] rs).length + b.length ≤ b0.length ∧ rs.length + b.length ≤ b0.length ∧ Below w.heap.size w w'
def RecEnd (w : World) (b0 : List Int) (e : Ending) (w' : World) : Prop :=
  ∃ g vl vm vb, e = .returned (.tuple #[.pointer (some ⟨g, 0, none⟩), .int .i64 ((recV [] b0).2.length : Int)]) ∧ StAt w' w.heap.size g vl vm vb (recV [] b0).1 (markV [] (recV [] b0).1) (storeB [] (recV [] b0).1) ∧ Below w.heap.size w w'
theorem recEnd_of {w : World} {b0 : List Int} {g : Nat} {vl vm vb : Value} {rs : List (List Int)} {b : List Int} {w' : World} {e : Ending} (he : e = .returned (.tuple #[.pointer (some ⟨g, 0, none⟩), .int .i64 (b.length : Int)])) (hs : StAt w' w.heap.size g vl vm vb rs (markV [] rs) (storeB [] rs)) (hE : recV [] b0 = (rs ++ (recV (markV [] rs) b).1, (recV (markV [] rs) b).2)) (hno : recOk (markV [] rs) b = false) (hb : Below w.heap.size w w') : RecEnd w b0 e w' := by
  rw [recV_no hno, List.append_nil] at hE
  unfold RecEnd
  rw [hE]
  exact ⟨g, vl, vm, vb, he, hs, hb⟩
set_option maxHeartbeats 16000000 in
set_option maxRecDepth 100000 in
theorem rec_calls (A : Option Addr) (c : Nat) (b0 : List Int) (w : World) (hr0 : Kd.C (Kd.int .u8) w A b0.length b0) (hc : b0.length ≤ c) (hb : ∀ x ∈ b0, 0 ≤ x ∧ x < 256) (hlim : b0.length ≤ 100000)
    (hLf : LaidAt w 0 firstA) (hL : LaidAt w 1 constA) :
    Calls Tryd.prog 10 #[.slice A b0.length c] w (RecEnd w b0) := by
  have HLim := Aside0.mk hlim
  have HC0 := Aside0.mk hr0
  have HCc := Aside0.mk hc
  have HBy0 := Aside0.mk hb
  have HLf := Aside0.mk hLf
  have HL := Aside0.mk hL
  clear hr0 hc hb hlim hLf hL
  go_enter Tryd.func10, Tryd.ntmps10
  go_wp2
  refine wp_scope_once 0 (fun a' w' => ∃ (g : Nat) (rs : List (List Int)) (b : List Int) (A : Option Addr) (c : Nat) (u5 u6 u7 u8 u9 u10 u11 u12 u13 u14 u15 u16 u17 u18 u19 u20 u21 u22 u23 u24 u25 u26 u27 u28 u29 u30 u31 u32 u33 u34 u35 u36 u37 u38 u39 u40 u41 u42 u43 u44 u45 u46 u47 u48 u49 u50 u51 u52 u53 u54 u55 u56 u57 u58 u59 u60 u61 u62 u63 u64 u65 u66 u67 u68 u69 u70 : Value), a' = { tmps := (.slice A b.length c :: undef :: .pointer none :: .int .i64 0 :: .pointer (some ⟨g, 0, none⟩) :: u5 :: u6 :: u7 :: u8 :: u9 :: u10 :: u11 :: u12 :: u13 :: u14 :: u15 :: u16 :: u17 :: u18 :: u19 :: u20 :: u21 :: u22 :: u23 :: u24 :: u25 :: u26 :: u27 :: u28 :: u29 :: u30 :: u31 :: u32 :: u33 :: u34 :: u35 :: u36 :: u37 :: u38 :: u39 :: u40 :: u41 :: u42 :: u43 :: u44 :: u45 :: u46 :: u47 :: u48 :: u49 :: u50 :: u51 :: u52 :: u53 :: u54 :: u55 :: u56 :: u57 :: u58 :: u59 :: u60 :: u61 :: u62 :: u63 :: u64 :: u65 :: u66 :: u67 :: u68 :: u69 :: u70 :: []).toArray, defers := [] } ∧ RecSt w b0 g rs b A c w') (fun a' _ => match a'.tmps.getD 0 undef with | .slice _ n _ => n | _ => 0) rfl ?_ ?_
  · clear HC0 HCc HBy0
    rintro a' wr ⟨g, rs, b, A, c, u5, u6, u7, u8, u9, u10, u11, u12, u13, u14, u15, u16, u17, u18, u19, u20, u21, u22, u23, u24, u25, u26, u27, u28, u29, u30, u31, u32, u33, u34, u35, u36, u37, u38, u39, u40, u41, u42, u43, u44, u45, u46, u47, u48, u49, u50, u51, u52, u53, u54, u55, u56, u57, u58, u59, u60, u61, u62, u63, u64, u65, u66, u67, u68, u69, u70, rfl, vl, vm, vb, hSt, hE, hC, hc, hby, hmk, hbl, hrl, hB⟩
    have HSt := Aside0.mk hSt
    have HE := Aside0.mk hE
    have HC := Aside0.mk hC
    have HBy := Aside0.mk hby
    have HMk := Aside0.mk hmk
    have HBl := Aside0.mk hbl
    have HRl := Aside0.mk hrl
    have HB := Aside0.mk hB
    have hm := hC.2.1
    clear hSt hE hC hby hmk hbl hrl hB
    by_cases h4 : b.length < 4
    · have h4I : decide ((b.length : Int) < 4) = true := by simp; omega
      have HNo : Aside0 (recOk (markV [] rs) b = false) := ⟨by simp [recOk, show ¬ 4 ≤ b.length by omega]⟩
      go_wp2
      simp only [Exit.jump]
      go_ret2
      exact recEnd_of rfl HSt.out HE.out HNo.out HB.out
    · have h4' : 4 ≤ b.length := by omega
      have h4I : decide ((b.length : Int) < 4) = false := by simp; omega
      have hc4 : 4 ≤ c := by omega
      obtain ⟨A1, hcut1, hread1⟩ := cut_int (P := Tryd.prog) (k := .u8) 22 5 Tryd.underlying22 info_u8 A c b 4 h4' hc
      have hcut1' : ∀ W : World, (Instr.slice 22 (.slice A b.length c) (some (.int .i64 4)) none none).run Tryd.prog W = .ok (.slice A1 (b.drop 4).length (c - 4)) W := hcut1
      have HC1 := Aside0.mk (hread1 w HC.out)
      obtain ⟨ad, rfl, hx00⟩ := int_at' HC.out HB.out 0 (by omega)
      have hx0 : wr.cell? ad = some (.int .u8 (b.getD 0 0)) := hx00
      clear hx00
      have hx1 : wr.cell? ⟨ad.block, ad.off + 1, none⟩ = some (.int .u8 (b.getD 1 0)) := int_cell HC.out HB.out 1 (by omega)
      have hx2 : wr.cell? ⟨ad.block, ad.off + 2, none⟩ = some (.int .u8 (b.getD 2 0)) := int_cell HC.out HB.out 2 (by omega)
      have hx3 : wr.cell? ⟨ad.block, ad.off + 3, none⟩ = some (.int .u8 (b.getD 3 0)) := int_cell HC.out HB.out 3 (by omega)
      obtain ⟨a0, a0'⟩ := byte_at HBy.out 0
      obtain ⟨a1, a1'⟩ := byte_at HBy.out 1
      obtain ⟨a2, a2'⟩ := byte_at HBy.out 2
      obtain ⟨a3, a3'⟩ := byte_at HBy.out 3
      have HM : Aside0 (num4 b = ((b.getD 0 0 * 256 + b.getD 1 0) * 256 + b.getD 2 0) * 256 + b.getD 3 0) := ⟨rfl⟩
      have HL1 : Aside0 ((b.drop 4).length = b.length - 4) := ⟨by simp⟩
      have hw4 : IntKind.i64.wrap ((b.length : Int) - 4) = ((b.drop 4).length : Int) := by rw [IntWalk.i64_in _ (by omega), HL1.out]; omega
      have hc1 : (b.drop 4).length ≤ c - 4 := by have := HL1.out; omega
      generalize b.getD 0 0 = x0 at *
      generalize b.getD 1 0 = x1 at *
      generalize b.getD 2 0 = x2 at *
      generalize b.getD 3 0 = x3 at *
      have o1 : Go.bits .or .i64 0 x0 = x0 := by have := or_step 0 x0 (by decide) (by decide) a0 a0'; simpa using this
      obtain ⟨m2, hm2⟩ : ∃ m, m = x0 * 256 + x1 := ⟨_, rfl⟩
      have o2 : Go.bits .or .i64 (x0 * 256) x1 = m2 := by rw [hm2]; exact or_step x0 x1 a0 (by omega) a1 a1'
      have hm2a : 0 ≤ m2 := by omega
      have hm2b : m2 < 65536 := by omega
      obtain ⟨m3, hm3⟩ : ∃ m, m = m2 * 256 + x2 := ⟨_, rfl⟩
      have o3 : Go.bits .or .i64 (m2 * 256) x2 = m3 := by rw [hm3]; exact or_step m2 x2 hm2a (by omega) a2 a2'
      have hm3a : 0 ≤ m3 := by omega
      have hm3b : m3 < 16777216 := by omega
      obtain ⟨m, hm4⟩ : ∃ m : Nat, (m : Int) = m3 * 256 + x3 := ⟨(m3 * 256 + x3).toNat, by omega⟩
      have o4 : Go.bits .or .i64 (m3 * 256) x3 = (m : Int) := by rw [hm4]; exact or_step m3 x3 hm3a (by omega) a3 a3'
      have HM' : Aside0 (num4 b = (m : Int)) := ⟨by rw [HM.out, hm4, hm3, hm2]⟩
      clear HM hm4 hm3 hm2 h4 hcut1 hread1
      have hm1 := HC1.out.2.1
      generalize hb1 : b.drop 4 = b1 at *
      have HB1 := Aside0.mk hb1
      clear hb1
      by_cases hbig : 1048576 < m
      · skip
        have hd1 : decide (1048576 < (m : Int)) = true := by simp; omega
        have HNo : Aside0 (recOk (markV [] rs) b = false) := ⟨by simp [recOk, HM'.out, show ¬ ((m : Int) ≤ 1048576) by omega]⟩
        clear HM'
        go_wp2_with (fail)
        refine wp_loop_rounds 5 ?_
        rw [rounds_succ]
        go_wp2_with (fail)
        rw [rounds_succ]
        go_wp2_with (fail)
        rw [rounds_succ]
        go_wp2_with (fail)
        rw [rounds_succ]
        go_wp2_with (fail)
        rw [rounds_succ]
        go_wp2_with (fail)
        simp only [Exit.jump]
        go_ret2
        exact recEnd_of rfl HSt.out HE.out HNo.out HB.out
      · have hd1 : decide (1048576 < (m : Int)) = false := by simp; omega
        by_cases hgt : b1.length < m
        · skip
          have hd2 : decide ((b1.length : Int) < (m : Int)) = true := by simp; omega
          have HNo : Aside0 (recOk (markV [] rs) b = false) := ⟨by simp [recOk, HM'.out, HB1.out, show ¬ ((m : Int) ≤ (b1.length : Int)) by omega]⟩
          clear HM'
          go_wp2_with (fail)
          refine wp_loop_rounds 5 ?_
          rw [rounds_succ]
          go_wp2_with (fail)
          rw [rounds_succ]
          go_wp2_with (fail)
          rw [rounds_succ]
          go_wp2_with (fail)
          rw [rounds_succ]
          go_wp2_with (fail)
          rw [rounds_succ]
          go_wp2_with (fail)
          simp only [Exit.jump]
          go_ret2
          exact recEnd_of rfl HSt.out HE.out HNo.out HB.out
        · have hd2 : decide ((b1.length : Int) < (m : Int)) = false := by simp; omega
          have hle : m ≤ b1.length := by omega
          have hleI : (m : Int) ≤ b1.length := by omega
          have hmI : (0 : Int) ≤ (m : Int) := Int.natCast_nonneg _
          have hmc : m ≤ c - 4 := by omega
          have HR1 : Aside0 (recR b = b1.take m) := ⟨by rw [recR, HB1.out, HM'.out, Int.toNat_natCast]⟩
          have HT := Aside0.mk (take_int m hle HC1.out)
          have HT' : Aside0 ((b1.take m).length = m) := ⟨by rw [List.length_take]; omega⟩
          obtain ⟨Am, cm, hvm⟩ := Kd.R_slice HSt.out.2.2.2.1
          subst hvm
          have hk1 := st1 HSt.out
          have HRm := Aside0.mk (Kd.R_reads' HSt.out.2.2.2.1)
          have HRb : Aside0 (∀ x ∈ b1.take m, 0 ≤ x ∧ x < 256) := ⟨fun x hx => HBy.out x (List.mem_of_mem_drop (HB1.out ▸ List.mem_of_mem_take hx))⟩
          have HSl := Aside0.mk (seal_calls Am (markV [] rs).length cm (markV [] rs) A1 m m (b1.take m) wr HRm.out.2.2 HRm.out.2.1 (Kd.C_below HT.out HB.out) (Nat.le_refl _) (by have := HMk.out.2; have := HT'.out; omega) HMk.out.1 HRb.out (HLf.out.below HB.out) (HL.out.below HB.out))
          go_wp2_with (fail)
          refine wp_loop_rounds 5 ?_
          rw [rounds_succ]
          go_wp2_with (fail)
          rw [rounds_succ]
          go_wp2_with (fail)
          rw [rounds_succ]
          go_wp2_with (fail)
          rw [rounds_succ]
          go_wp2_with (fail)
          rw [rounds_succ]
          go_wp2_with (fail)
          refine HSl.out.mono ?_
          rintro e w1 ⟨v, rfl, hR, hb⟩
          obtain ⟨As, cs, rfl⟩ := Kd.R_slice hR
          have HS1 := Aside0.mk (Kd.R_reads' hR)
          have HB2 := Aside0.mk (below_step HB.out hb)
          have HSt2 := Aside0.mk (HSt.out.below hb)
          have HWl : Aside0 ((joinL [b1.take m, sealV (markV [] rs) (b1.take m)]).length = m + 24) := ⟨by rw [joinTwo_len, sealV_len, HT'.out]⟩
          have HWe : Aside0 (recW (markV [] rs) b = joinL [b1.take m, sealV (markV [] rs) (b1.take m)]) := ⟨by rw [recW, HR1.out]⟩
          have HWb : Aside0 (∀ x ∈ joinL [b1.take m, sealV (markV [] rs) (b1.take m)], 0 ≤ x ∧ x < 256) := ⟨joinTwo_byte HRb.out (sealV_byte _ _)⟩
          have HJ := Aside0.mk (join2 A1 m m (b1.take m) As (sealV (markV [] rs) (b1.take m)).length cs (sealV (markV [] rs) (b1.take m)) w1 (Kd.C_below HT.out HB2.out) (Nat.le_refl _) HS1.out.2.2 HS1.out.2.1 (by have := HT'.out; have := sealV_len (markV [] rs) (b1.take m); omega))
          have HBa : Aside0 (Below w1.heap.size w1 (w1.alloc (.cells #[.slice A1 m m, .slice As (sealV (markV [] rs) (b1.take m)).length cs] 22))) := ⟨bel_alloc (Below.refl _ _) _⟩
          clear hR hb hk1
          go_wp2_with (fail)
          refine HJ.out.mono ?_
          rintro e w2 ⟨vj, rfl, hRj, hbj⟩
          obtain ⟨Aj, cj, rfl⟩ := Kd.R_slice hRj
          have HB3 := Aside0.mk (below_step HBa.out hbj)
          have HB4 := Aside0.mk (below_step HB2.out HB3.out)
          have HSt3 := Aside0.mk (HSt2.out.below HB3.out)
          have HRj := Aside0.mk (Kd.R_reads' hRj)
          clear hRj hbj
          have HHas := Aside0.mk (has_calls (some ad) c b Aj cj (joinL [b1.take m, sealV (markV [] rs) (b1.take m)]) w2 (Kd.C_below HC.out HB4.out) hc HRj.out.2.2 HBy.out HWb.out)
          go_wp2_with (fail)
          refine HHas.out.mono ?_
          rintro e w3 ⟨rfl, ⟨nd, rfl⟩⟩
          cases hh : hasB b (joinL [b1.take m, sealV (markV [] rs) (b1.take m)]) with
          | false =>
            have HNo : Aside0 (recOk (markV [] rs) b = false) := ⟨by simp [recOk, HWe.out, hh]⟩
            have HBz : Aside0 (Below w.heap.size w (w2.drewN nd)) := ⟨pw_below_drewN HB4.out nd⟩
            clear hh
            go_wp2_with (fail)
            simp only [Exit.jump]
            go_ret2
            exact recEnd_of rfl (HSt3.out.move (fun _ _ _ => rfl)) HE.out HNo.out HBz.out
          | true =>
            have HYes : Aside0 (recOk (markV [] rs) b = true) := ⟨by simp [recOk, HWe.out, hh, HM'.out, HB1.out, h4', show (m : Int) ≤ 1048576 by omega, hleI]⟩
            have HWle : Aside0 (m + 24 ≤ b.length) := ⟨by
              have h1 := congrArg List.length (recOk_has HYes.out)
              rw [HWe.out, List.length_append, HWl.out] at h1
              omega⟩
            have HBz : Aside0 (Below w.heap.size w (w2.drewN nd)) := ⟨pw_below_drewN HB4.out nd⟩
            have HSt4 : Aside0 (StAt (w2.drewN nd) w.heap.size g vl (.slice Am (markV [] rs).length cm) vb rs (markV [] rs) (storeB [] rs)) := ⟨HSt3.out.move (fun _ _ _ => rfl)⟩
            have HVm := Aside0.mk HRm.out
            clear hh
            generalize w2.drewN nd = w4 at *
            have HTk : Aside0 (∀ W, Kept w4 W (Touch g vl vb) → Kd.C (Kd.int .u8) W A1 m (b1.take m)) := ⟨Kd.C_kept_came (Kd.heap_int .u8) HT.out HBz.out (by
              rintro k (rfl | e | e)
              · exact HSt4.out.1
              · exact ((Kd.R_bound HSt4.out.2.2.1).1 k e).2.1
              · exact ((Kd.R_bound HSt4.out.2.2.2.2).1 k e).2.1)⟩
            have HAp := Aside0.mk (append_calls A1 m m (b1.take m) HSt4.out HBz.out.size HTk.out (Nat.le_refl _) HRb.out HMk.out.1 HMk.out.2 (by omega) (by have := HRl.out; have := HLim.out; omega) (by have := HBl.out; have := HLim.out; omega) (HLf.out.below HBz.out) (HL.out.below HBz.out))
            have hwcut : m + 24 ≤ b.length := HWle.out
            obtain ⟨A9, hcut9, hread9⟩ := cut_int (P := Tryd.prog) (k := .u8) 22 5 Tryd.underlying22 info_u8 (some ad) c b (m + 24) hwcut hc
            have hcut9' : ∀ W : World, (Instr.slice 22 (.slice (some ad) b.length c) (some (.int .i64 ((m : Int) + 24))) none none).run Tryd.prog W = .ok (.slice A9 (b.drop (m + 24)).length (c - (m + 24))) W := fun W => by
              have h := hcut9 W
              rwa [show ((m + 24 : Nat) : Int) = (m : Int) + 24 from by omega] at h
            have HC9 := Aside0.mk (hread9 w HC.out)
            clear hcut9 hread9
            rw [HWl.out]
            go_wp2_with (fail)
            refine HAp.out.mono ?_
            rintro e w5 ⟨rfl, ⟨v5, m5, b5, hSt5⟩, hB5, hK5⟩
            have HB5 : Aside0 (Below w.heap.size w w5) := ⟨HBz.out.trans hB5⟩
            have HSt5 := Aside0.mk hSt5
            clear hSt5 hB5 hK5
            go_wp2_with (fail)
            go_step3
            have HMs : Aside0 (markV [] (rs ++ [b1.take m]) = sealV (markV [] rs) (b1.take m)) := ⟨markV_snoc _ _ _⟩
            have HSs : Aside0 (storeB [] (rs ++ [b1.take m]) = storeB [] rs ++ joinL [b1.take m, sealV (markV [] rs) (b1.take m)]) := ⟨storeB_snoc _ _ _⟩
            refine ⟨rfl, ⟨g, rs ++ [b1.take m], b.drop (m + 24), A9, c - (m + 24), _, _, _, _, _, _, _, _, _, _, _, _, _, _, _, _, _, _, _, _, _, _, _, _, _, _, _, _, _, _, _, _, _, _, _, _, _, _, _, _, _, _, _, _, _, _, _, _, _, _, _, _, _, _, _, _, _, _, _, _, _, _, _, _, _, _, by rw [List.length_drop], v5, m5, b5, ?_⟩, ?_⟩
            · rw [HMs.out, HSs.out]
              refine ⟨HSt5.out, ?_, HC9.out, by rw [List.length_drop]; omega, fun x hx => HBy.out x (List.mem_of_mem_drop hx), ⟨sealV_byte _ _, by rw [sealV_len]; decide⟩, ?_, ?_, HB5.out⟩
              · rw [HE.out, recV_yes HYes.out, HR1.out, HWe.out, HWl.out]
                simp
              · have := HBl.out; rw [List.length_append, HWl.out, List.length_drop]; omega
              · have := HRl.out; simp only [List.length_append, List.length_singleton, List.length_drop]; omega
            · simp
              omega
  · intro hrest
    go_wp2_with (fail)
    refine (new_calls w).mono ?_
    rintro e w1 ⟨g, rfl, hS, hb⟩
    have HS := Aside0.mk hS
    have HB := Aside0.mk hb
    clear hS hb
    go_wp2_with (fail)
    go_step3
    rename_i k1 hk1
    apply hk1
    exact hrest _ _ ⟨g, [], b0, A, c, _, _, _, _, _, _, _, _, _, _, _, _, _, _, _, _, _, _, _, _, _, _, _, _, _, _, _, _, _, _, _, _, _, _, _, _, _, _, _, _, _, _, _, _, _, _, _, _, _, _, _, _, _, _, _, _, _, _, _, _, _, _, _, _, _, _, rfl, _, _, _, HS.out, by simp [markV], HC0.out, HCc.out, HBy0.out, ⟨(fun x hx => absurd hx (by simp [markV])), (by simp [markV])⟩, (by simp [storeB]), (by simp), HB.out⟩
end Go.Proofs.YtpndobhakmjglaaDoor.Store
namespace Go.Proofs.YtpndobhakmjglaaDoor.Store
open Go.RowKit Go.Proofs.YtpndobhakmjglaaDoorW.PrintWords Go.Proofs.YtpndobhakmjglaaDoorW.PrintLast Go.Proofs.YtpndobhakmjglaaDoorW.PrintMore Go.Proofs.YtpndobhakmjglaaDoor.K Go.Proofs.YtpndobhakmjglaaDoor.Sha
set_option linter.unusedVariables false
set_option linter.unusedSimpArgs false
section
variable {w : World} {B g : Nat} {vl vm vb : Value} {rs : List (List Int)} {mk bs : List Int}
set_option maxHeartbeats 2000000 in
theorem len_nil (w : World) : Calls Tryd.prog 13 #[.pointer none] w fun e w' => e = .returned (.int .i64 0) ∧ w = w' := by
  go_enter Tryd.func13, Tryd.ntmps13
  go_wp2
  go_ret
  exact ⟨rfl, rfl⟩
set_option maxHeartbeats 2000000 in
theorem len_calls (h : StAt w B g vl vm vb rs mk bs) : Calls Tryd.prog 13 #[.pointer (some ⟨g, 0, none⟩)] w fun e w' => e = .returned (.int .i64 (rs.length : Int)) ∧ w = w' := by
  obtain ⟨Al, cl, hvl⟩ := Kd.R_slice h.2.2.1
  subst hvl
  have h0 := st0 h
  clear h
  go_enter Tryd.func13, Tryd.ntmps13
  go_wp2
  go_ret
  exact ⟨rfl, rfl⟩
set_option maxHeartbeats 2000000 in
theorem bytes_nil (w : World) : Calls Tryd.prog 11 #[.pointer none] w fun e w' => e = .returned (.slice none 0 0) ∧ w = w' := by
  go_enter Tryd.func11, Tryd.ntmps11
  go_wp2
  go_ret
  exact ⟨rfl, rfl⟩
set_option maxHeartbeats 2000000 in
theorem bytes_calls (h : StAt w B g vl vm vb rs mk bs) (hl : bs.length ≤ 100000000) : Calls Tryd.prog 11 #[.pointer (some ⟨g, 0, none⟩)] w fun e w' => ∃ v, e = .returned v ∧ kB.R 5 w' w.heap.size (fun _ => True) v bs ∧ Below w.heap.size w w' := by
  obtain ⟨Ab, cb, hvb⟩ := Kd.R_slice h.2.2.2.2
  subst hvb
  have h2 := st2 h
  have HCl := Aside0.mk (Clone.clone_calls Ab bs.length cb bs w (Kd.R_reads' h.2.2.2.2).2.2 (by omega))
  clear h hl
  go_enter Tryd.func11, Tryd.ntmps11
  go_wp2_with (fail)
  refine HCl.out.mono ?_
  rintro e w1 ⟨v, rfl, hR, hb⟩
  have HR := Aside0.mk hR
  have HB := Aside0.mk hb
  clear hR hb
  go_wp2
  go_ret
  exact ⟨v, rfl, HR.out, HB.out⟩
set_option maxHeartbeats 2000000 in
theorem get_nil (i : Int) (w : World) : Calls Tryd.prog 22 #[.pointer none, .int .i64 i] w fun e w' => e = .returned (.tuple #[.slice none 0 0, .int .i64 2]) ∧ w = w' := by
  go_enter Tryd.func22, Tryd.ntmps22
  go_wp2
  go_ret2
  exact ⟨rfl, rfl⟩
set_option maxHeartbeats 2000000 in
theorem get_none (i : Int) (h : StAt w B g vl vm vb rs mk bs) (hi : i < 0 ∨ (rs.length : Int) ≤ i) : Calls Tryd.prog 22 #[.pointer (some ⟨g, 0, none⟩), .int .i64 i] w fun e w' => e = .returned (.tuple #[.slice none 0 0, .int .i64 10]) ∧ w = w' := by
  have HLn := Aside0.mk (len_calls h)
  by_cases hn : i < 0
  · have hd : decide (i < 0) = true := by simp; omega
    clear h hi hn
    go_enter Tryd.func22, Tryd.ntmps22
    go_wp2
    go_ret2
    exact ⟨rfl, rfl⟩
  · have hd : decide (i < 0) = false := by simp; omega
    have hd2 : decide ((rs.length : Int) ≤ i) = true := by simp; omega
    clear h hi hn
    go_enter Tryd.func22, Tryd.ntmps22
    go_wp2_with (fail)
    refine HLn.out.mono ?_
    rintro e w' ⟨rfl, rfl⟩
    go_wp2
    go_ret2
    exact ⟨rfl, rfl⟩
set_option maxHeartbeats 2000000 in
theorem get_some (i : Nat) (h : StAt w B g vl vm vb rs mk bs) (hi : i < rs.length) (hl : (rs.getD i []).length ≤ 100000000) : Calls Tryd.prog 22 #[.pointer (some ⟨g, 0, none⟩), .int .i64 (i : Int)] w fun e w' => ∃ v, e = .returned (.tuple #[v, .int .i64 0]) ∧ kB.R 5 w' w.heap.size (fun _ => True) v (rs.getD i []) ∧ Below w.heap.size w w' := by
  have HLn := Aside0.mk (len_calls h)
  have h0 := st0 h
  obtain ⟨A, c, rfl, hcap, hC⟩ := Kd.R_reads h.2.2.1
  obtain ⟨ad, A0, c0, rfl, hx1, hcx, hK⟩ := row_at hC i hi
  have HCl := Aside0.mk (Clone.clone_calls A0 (rs.getD i []).length c0 (rs.getD i []) w hK (by omega))
  have hd : decide ((i : Int) < 0) = false := by simp
  have hd2 : decide ((rs.length : Int) ≤ (i : Int)) = false := by simp; omega
  have hiI : (i : Int) < (rs.length : Int) := by omega
  clear hC hK h hl hcap
  generalize rs.getD i [] = tx at *
  go_enter Tryd.func22, Tryd.ntmps22
  go_wp2_with (fail)
  refine HLn.out.mono ?_
  rintro e w' ⟨rfl, rfl⟩
  go_wp2_with (fail)
  refine HCl.out.mono ?_
  rintro e w1 ⟨v, rfl, hR, hb⟩
  have HR := Aside0.mk hR
  have HB := Aside0.mk hb
  clear hR hb
  go_wp2
  go_ret2
  exact ⟨v, rfl, HR.out, HB.out⟩
end
end Go.Proofs.YtpndobhakmjglaaDoor.Store
namespace Go.Proofs.YtpndobhakmjglaaDoor.Store
open Go.RowKit Go.Proofs.YtpndobhakmjglaaDoorW.PrintWords Go.Proofs.YtpndobhakmjglaaDoorW.PrintLast Go.Proofs.YtpndobhakmjglaaDoorW.PrintMore Go.Proofs.YtpndobhakmjglaaDoor.K Go.Proofs.YtpndobhakmjglaaDoor.Sha
set_option linter.unusedVariables false
theorem num4_be4 (n : Nat) (h : n ≤ 1048576) (t : List Int) : num4 (be4 n ++ t) = n := by
  simp only [num4, be4, List.cons_append, List.getD_cons_zero, List.getD_cons_succ]
  omega
theorem join_head (r s t : List Int) : joinL [r, s] ++ t = be4 r.length ++ (r ++ (be4 s.length ++ s ++ t)) := by
  rw [joinTwo]; simp only [List.append_assoc]
theorem be4_len (n : Nat) : (be4 n).length = 4 := rfl
theorem drop4 (n : Nat) (t : List Int) : (be4 n ++ t).drop 4 = t := by
  rw [show (4 : Nat) = (be4 n).length from rfl, List.drop_left]
theorem recR_join {r : List Int} (s t : List Int) (h : r.length ≤ 1048576) : recR (joinL [r, s] ++ t) = r := by
  rw [join_head, recR, num4_be4 _ h, drop4, Int.toNat_natCast, List.take_left]
theorem recOk_join {a r : List Int} (t : List Int) (h : r.length ≤ 1048576) : recOk a (joinL [r, sealV a r] ++ t) = true := by
  have h1 : (joinL [r, sealV a r] ++ t).length = r.length + 24 + t.length := by rw [List.length_append, joinTwo_len, sealV_len]
  have h2 : num4 (joinL [r, sealV a r] ++ t) = r.length := by rw [join_head, num4_be4 _ h]
  have h3 : recW a (joinL [r, sealV a r] ++ t) = joinL [r, sealV a r] := by rw [recW, recR_join _ _ h]
  have h4 : hasB (joinL [r, sealV a r] ++ t) (joinL [r, sealV a r]) = true := by simp [hasB]
  rw [recOk, h2, h3, h4, List.length_drop, h1]
  simp only [Bool.and_eq_true, decide_eq_true_eq, and_true]
  omega
/-- What is recovered of a store's bytes, and more. -/
theorem recV_store : ∀ (l : List (List Int)) (a t : List Int), (∀ r ∈ l, r.length ≤ 1048576) → recV a (storeB a l ++ t) = (l ++ (recV (markV a l) t).1, (recV (markV a l) t).2)
  | [], a, t, _ => rfl
  | r :: l, a, t, h => by
    have hr := h r (List.mem_cons_self ..)
    have e : storeB a (r :: l) ++ t = joinL [r, sealV a r] ++ (storeB (sealV a r) l ++ t) := by
      show joinL [r, sealV a r] ++ storeB (sealV a r) l ++ t = _
      rw [List.append_assoc]
    rw [e, recV_yes (recOk_join _ hr), recR_join _ _ hr, show recW a (joinL [r, sealV a r] ++ (storeB (sealV a r) l ++ t)) = joinL [r, sealV a r] from by rw [recW, recR_join _ _ hr], List.drop_left, recV_store l _ t (fun x hx => h x (List.mem_cons_of_mem _ hx))]
    rfl
theorem recV_nil (a : List Int) : recV a [] = ([], []) := recV_no (by simp [recOk])
theorem recV_own {l : List (List Int)} (a : List Int) (h : ∀ r ∈ l, r.length ≤ 1048576) : recV a (storeB a l) = (l, []) := by
  have := recV_store l a [] h
  rw [List.append_nil, recV_nil, List.append_nil] at this
  exact this
theorem storeB_inj {l m : List (List Int)} (a : List Int) (hl : ∀ r ∈ l, r.length ≤ 1048576) (hm : ∀ r ∈ m, r.length ≤ 1048576) (h : storeB a l = storeB a m) : l = m := by
  have h1 := recV_own a hl
  rw [h, recV_own a hm] at h1
  exact (congrArg Prod.fst h1).symm
theorem recR_short {a b : List Int} (h : recOk a b = true) : (recR b).length ≤ 1048576 := by
  simp only [recOk, Bool.and_eq_true, decide_eq_true_eq] at h
  rw [recR, List.length_take]
  omega
theorem recV_short (n : Nat) : ∀ (a b : List Int), b.length ≤ n → ∀ r ∈ (recV a b).1, r.length ≤ 1048576 := by
  induction n with
  | zero =>
    intro a b hb
    rw [recV_no (by simp [recOk, show ¬ 4 ≤ b.length by omega])]
    intro r hr
    cases hr
  | succ n ih =>
    intro a b hb r hr
    cases h : recOk a b with
    | false =>
      rw [recV_no h] at hr
      cases hr
    | true =>
      rw [recV_yes h] at hr
      rcases List.mem_cons.1 hr with rfl | hr
      · exact recR_short h
      · exact ih _ _ (by rw [List.length_drop, recW_len]; omega) r hr
/-- A record whose bytes are cut is none. -/
theorem recOk_cut {a r : List Int} (t u : List Int) (h : r.length ≤ 1048576) (ht : t.length < r.length + 24) (hp : t <+: joinL [r, sealV a r] ++ u) : recOk a t = false := by
  cases hk : recOk a t with
  | false => rfl
  | true =>
    exfalso
    obtain ⟨v, hv⟩ := hp
    have h0 := hk
    simp only [recOk, Bool.and_eq_true, decide_eq_true_eq] at hk
    have hn : num4 t = r.length := by
      have h1 := congrArg num4 hv
      rw [join_head, num4_be4 _ h] at h1
      rw [← h1]
      have hg : ∀ i, i < 4 → (t ++ v).getD i 0 = t.getD i 0 := fun i hi => by
        rw [List.getD_eq_getElem?_getD, List.getD_eq_getElem?_getD, List.getElem?_append_left (by omega)]
      simp only [num4, hg 0 (by decide), hg 1 (by decide), hg 2 (by decide), hg 3 (by decide)]
    have hl : (recR t).length = r.length := by
      rw [recR, List.length_take]
      omega
    have h2 := congrArg List.length (recOk_has h0)
    rw [List.length_append, recW_len, hl] at h2
    omega
theorem joinTwo_eq_len (r s : List Int) (hs : s.length = 16) : (joinL [r, s]).length = r.length + 24 := by rw [joinTwo_len, hs]
/-- The records and the rest of a store's bytes that are cut. -/
theorem recV_cut : ∀ (l : List (List Int)) (a : List Int) (m k : Nat), (∀ r ∈ l, r.length ≤ 1048576) → m ≤ l.length → (storeB a (l.take m)).length ≤ k → (m < l.length → k < (storeB a (l.take (m + 1))).length) → (m = l.length → k ≤ (storeB a l).length) →
    recV a ((storeB a l).take k) = (l.take m, ((storeB a l).take k).drop (storeB a (l.take m)).length) := by
  intro l a m k h hm h1 h2 h3
  have hL : storeB a l = storeB a (l.take m) ++ storeB (markV a (l.take m)) (l.drop m) := by
    rw [← storeB_append, List.take_append_drop]
  have hT : (storeB a l).take k = storeB a (l.take m) ++ (storeB (markV a (l.take m)) (l.drop m)).take (k - (storeB a (l.take m)).length) := by
    rw [hL, List.take_append, List.take_of_length_le h1]
  have hD : ((storeB a l).take k).drop (storeB a (l.take m)).length = (storeB (markV a (l.take m)) (l.drop m)).take (k - (storeB a (l.take m)).length) := by
    rw [hT, List.drop_left]
  rw [hD, hT, recV_store _ _ _ (fun r hr => h r (List.mem_of_mem_take hr))]
  rcases Nat.lt_or_ge m l.length with hlt | hge
  · have hk := h2 hlt
    obtain ⟨r, l2, hd⟩ : ∃ r l2, l.drop m = r :: l2 := by
      cases hc : l.drop m with
      | nil =>
        have := congrArg List.length hc
        rw [List.length_drop, List.length_nil] at this
        omega
      | cons r l2 => exact ⟨r, l2, rfl⟩
    have hr : r.length ≤ 1048576 := h r (List.mem_of_mem_drop (by rw [hd]; exact List.mem_cons_self ..))
    have hs : l.take (m + 1) = l.take m ++ [r] := by
      have h6 := List.take_append_drop m l
      have h7 : (l.take m).length = m := by rw [List.length_take]; omega
      rw [hd] at h6
      conv => lhs; rw [← h6]
      rw [List.take_append, List.take_of_length_le (by omega), h7, show m + 1 - m = 1 by omega]
      rfl
    rw [hs, storeB_snoc, List.length_append, joinTwo_eq_len _ _ (sealV_len _ _)] at hk
    rw [hd]
    have hno : recOk (markV a (l.take m)) ((storeB (markV a (l.take m)) (r :: l2)).take (k - (storeB a (l.take m)).length)) = false :=
      recOk_cut _ (storeB (sealV (markV a (l.take m)) r) l2) hr (by rw [List.length_take]; omega) (List.take_prefix _ _)
    rw [recV_no hno, List.append_nil]
  · obtain rfl : m = l.length := by omega
    rw [List.drop_length]
    simp [storeB, recV_nil]
end Go.Proofs.YtpndobhakmjglaaDoor.Store
namespace Go.Proofs.YtpndobhakmjglaaDoor.Store
open Go.RowKit Go.Proofs.YtpndobhakmjglaaDoorW.PrintWords Go.Proofs.YtpndobhakmjglaaDoorW.PrintLast Go.Proofs.YtpndobhakmjglaaDoorW.PrintMore Go.Proofs.YtpndobhakmjglaaDoor.K Go.Proofs.YtpndobhakmjglaaDoor.Sha
set_option linter.unusedVariables false
set_option linter.unusedSimpArgs false
theorem lit_C {W : World} {g t : Nat} {fr : Nat × Nat} (xs : List Int) (h : W.heap[g]? = some (.cells (nums .u8 xs).toArray t fr)) (hm : xs.length ≤ 9223372036854775807) : Kd.C (Kd.int .u8) W (some ⟨g, 0, none⟩) xs.length xs := by
  refine C_int ⟨rfl, hm, fun _ => ⟨_, rfl, fun j hj => ?_⟩⟩
  rw [add_plain, World.cell?, h]
  simp [nums, List.getElem?_eq_getElem hj, List.getD_eq_getElem?_getD]
theorem Touch.old {w : World} {B g : Nat} {vl vm vb : Value} {rs : List (List Int)} {mk bs : List Int} (h : StAt w B g vl vm vb rs mk bs) : ∀ k, Touch g vl vb k → B ≤ k ∧ k < w.heap.size := by
  rintro k (rfl | e | e)
  · exact ⟨h.1, blk_lt h.2.1⟩
  · exact ⟨((Kd.R_bound h.2.2.1).1 k e).2.1, ((Kd.R_bound h.2.2.1).1 k e).2.2.1⟩
  · exact ⟨((Kd.R_bound h.2.2.2.2).1 k e).2.1, ((Kd.R_bound h.2.2.2.2).1 k e).2.2.1⟩
/-- Append of what was just laid. -/
theorem append_lit {w : World} {B g : Nat} {vl vm vb : Value} {rs : List (List Int)} {mk bs : List Int} (r : List Int) (t c : Nat) (fr : Nat × Nat) (h : StAt w B g vl vm vb rs mk bs) (hB : B ≤ w.heap.size) (hc : r.length ≤ c) (hby : ∀ x ∈ r, 0 ≤ x ∧ x < 256) (hmb : ∀ x ∈ mk, 0 ≤ x ∧ x < 256) (hml : mk.length ≤ 16) (hn : r.length ≤ 1048576) (hrs : rs.length ≤ 1000000) (hbs : bs.length ≤ 100000000)
    (hLf : LaidAt w 0 firstA) (hL : LaidAt w 1 constA) :
    Calls Tryd.prog 21 #[.pointer (some ⟨g, 0, none⟩), .slice (some ⟨w.heap.size, 0, none⟩) r.length c] (w.alloc (.cells (nums .u8 r).toArray t fr)) fun e w' => e = .returned (.int .i64 0) ∧ (∃ v1 m1 b1, StAt w' B g v1 m1 b1 (rs ++ [r]) (sealV mk r) (bs ++ joinL [r, sealV mk r])) ∧ Below B w w' := by
  have hb := bel_alloc (Below.refl w.heap.size w) (.cells (nums .u8 r).toArray t fr)
  have hs := h.below hb
  refine (append_calls (some ⟨w.heap.size, 0, none⟩) r.length c r hs (by have := hb.size; omega) (fun W hk => lit_C r (blk_kept (heap_alloc_new _ _) hk (fun ht => by have := (Touch.old h _ ht).2; omega)) (by omega)) hc hby hmb hml hn hrs hbs (hLf.below hb) (hL.below hb)).mono ?_
  rintro e w' ⟨he, hS, hB2, _⟩
  exact ⟨he, hS, (Below.mono hb hB).trans hB2⟩
theorem rec_n (A : Option Addr) (n c : Nat) (b0 : List Int) (w : World) (hr0 : Kd.C (Kd.int .u8) w A n b0) (hc : n ≤ c) (hb : ∀ x ∈ b0, 0 ≤ x ∧ x < 256) (hlim : n ≤ 100000)
    (hLf : LaidAt w 0 firstA) (hL : LaidAt w 1 constA) :
    Calls Tryd.prog 10 #[.slice A n c] w (RecEnd w b0) := by
  obtain rfl := hr0.1
  exact rec_calls A c b0 w hr0 hc hb hlim hLf hL
theorem storeB_byte : ∀ (l : List (List Int)) (a : List Int), (∀ r ∈ l, ∀ x ∈ r, 0 ≤ x ∧ x < 256) → ∀ x ∈ storeB a l, 0 ≤ x ∧ x < 256
  | [], a, _ => fun x hx => absurd hx (by simp [storeB])
  | r :: l, a, h => fun x hx => by
    rw [storeB, List.mem_append] at hx
    rcases hx with hx | hx
    · exact joinTwo_byte (h r (List.mem_cons_self ..)) (sealV_byte _ _) x hx
    · exact storeB_byte l _ (fun r2 h2 => h r2 (List.mem_cons_of_mem _ h2)) x hx
theorem storeB_one (a r : List Int) : (storeB a [r]).length = r.length + 24 := by
  rw [storeB, List.length_append, joinTwo_eq_len _ _ (sealV_len _ _)]; rfl
theorem storeB_two (a r s : List Int) : (storeB a [r, s]).length = r.length + s.length + 48 := by
  rw [storeB, List.length_append, joinTwo_eq_len _ _ (sealV_len _ _), storeB_one]; omega
theorem rec_ex : (recV [] ((storeB [] [[97], [98]]).take 49)).1 = [[97]] ∧ (recV [] ((storeB [] [[97], [98]]).take 49)).2.length = 24 := by
  have h := recV_cut [[97], [98]] [] 1 49 (by decide) (by decide) (by rw [show List.take 1 [[97], [98]] = [[(97 : Int)]] from rfl, storeB_one]; decide) (fun _ => by rw [show List.take (1 + 1) [[97], [98]] = [[(97 : Int)], [98]] from rfl, storeB_two]; decide) (fun h => by cases h)
  rw [h]
  refine ⟨rfl, ?_⟩
  rw [List.length_drop, List.length_take, storeB_two, show List.take 1 [[97], [98]] = [[(97 : Int)]] from rfl, storeB_one]
  rfl
theorem run_upto8 (A : Option Addr) (n c m : Nat) (hm : m ≤ n) (hc : n ≤ c) (W : World) : (Instr.slice 22 (.slice A n c) none (some (.int .i64 (m : Int))) none).run Tryd.prog W = .ok (.slice A m c) W :=
  run_upto 22 5 Tryd.underlying22 info_u8 A n c m hm hc W
set_option maxHeartbeats 4000000 in
set_option maxRecDepth 100000 in
theorem awake_calls (w : World) (hLf : LaidAt w 0 firstA) (hL : LaidAt w 1 constA) :
    Calls Tryd.prog 9 #[] w fun e w' => e = .returned (.bool true) ∧ Below w.heap.size w w' := by
  have kc := fun (w : World) (C : Array Value) (n c : Nat) => Lib.run_convert_bytes_const (P := Tryd.prog) w 22 5 C n c Tryd.underlying22 Tryd.underlying5
  have HLf := Aside0.mk hLf
  have HL := Aside0.mk hL
  clear hLf hL
  go_enter Tryd.func9, Tryd.ntmps9
  go_wp2_with (fail)
  refine (new_calls w).mono ?_
  rintro e w1 ⟨g, rfl, hS, hb⟩
  have HS := Aside0.mk hS
  have HB := Aside0.mk hb
  clear hS hb
  go_wp2_with (fail)
  refine (append_lit [97] _ 1 _ HS.out HB.out.size (by decide) (by decide) (by simp) (by decide) (by decide) (by decide) (by decide) (HLf.out.below HB.out) (HL.out.below HB.out)).mono ?_
  rintro e w2 ⟨rfl, ⟨vl2, vm2, vb2, hS⟩, hb⟩
  have HS2 := Aside0.mk hS
  have HB2 : Aside0 (Below w.heap.size w w2) := ⟨HB.out.trans hb⟩
  clear hS hb
  go_wp2_with (fail)
  refine (append_lit [98] _ 1 _ HS2.out HB2.out.size (by decide) (by decide) (sealV_byte _ _) (by rw [sealV_len]; decide) (by decide) (by decide) (by rw [List.nil_append, joinTwo_eq_len _ _ (sealV_len _ _)]; decide) (HLf.out.below HB2.out) (HL.out.below HB2.out)).mono ?_
  rintro e w3 ⟨rfl, ⟨vl3, vm3, vb3, hS⟩, hb⟩
  have HB3 : Aside0 (Below w.heap.size w w3) := ⟨HB2.out.trans hb⟩
  have HE : Aside0 (([] : List Int) ++ joinL [[97], sealV [] [97]] ++ joinL [[98], sealV (sealV [] [97]) [98]] = storeB [] [[97], [98]]) := ⟨by simp [storeB]⟩
  rw [HE.out] at hS
  have HS3 := Aside0.mk hS
  clear hS hb
  have hlen := storeB_two [] [97] [98]
  have HEx := Aside0.mk rec_ex
  have HBy : Aside0 (∀ x ∈ storeB [] [[97], [98]], 0 ≤ x ∧ x < 256) := ⟨storeB_byte _ _ (by decide)⟩
  generalize storeB [] [[97], [98]] = bs at *
  have hlen : bs.length = 50 := hlen
  go_wp2_with (fail)
  refine (bytes_calls HS3.out (by omega)).mono ?_
  rintro e w4 ⟨v, rfl, hR, hb⟩
  obtain ⟨Ab, cb, rfl⟩ := Kd.R_slice hR
  have HR := Aside0.mk (Kd.R_reads' hR)
  have HB4 := Aside0.mk (below_step HB3.out hb)
  rw [hlen]
  have hcut : ∀ W, (Instr.slice 22 (.slice Ab 50 cb) none (some (.int .i64 49)) none).run Tryd.prog W = .ok (.slice Ab 49 cb) W := fun W => run_upto8 Ab 50 cb 49 (by decide) (by have := HR.out.2.1; omega) W
  have HT : Aside0 (Kd.C (Kd.int .u8) w4 Ab 49 (bs.take 49)) := ⟨take_int 49 (by omega) HR.out.2.2⟩
  have HCb : Aside0 (49 ≤ cb) := ⟨by have := HR.out.2.1; omega⟩
  clear hR hb hlen
  go_wp2_with (fail)
  refine (rec_n Ab 49 cb (bs.take 49) w4 HT.out HCb.out (fun x hx => HBy.out x (List.mem_of_mem_take hx)) (by decide) (HLf.out.below HB4.out) (HL.out.below HB4.out)).mono ?_
  rintro e w5 ⟨g2, vl5, vm5, vb5, rfl, hS, hb⟩
  have HB5 := Aside0.mk (below_step HB4.out hb)
  rw [HEx.out.1] at hS
  rw [HEx.out.2]
  have HS5 := Aside0.mk hS
  clear hS hb
  go_wp2_with (fail)
  refine (get_some 0 HS5.out (by decide) (by decide)).mono ?_
  rintro e w6 ⟨v6, rfl, hR, hb⟩
  obtain ⟨A6, c6, rfl⟩ := Kd.R_slice hR
  have HR6 := Aside0.mk (Kd.R_reads' hR).2.2
  have HB6 := Aside0.mk (below_step HB5.out hb)
  have HLn := Aside0.mk (len_calls (HS5.out.below hb))
  clear hR hb
  go_wp2_with (fail)
  refine HLn.out.mono ?_
  rintro e w7 ⟨rfl, rfl⟩
  have hcv : (convert 22 9 (.slice A6 1 c6)).run Tryd.prog w6 = .ok (.string ⟨#[97]⟩) w6 := by
    have h := Kd.C_string (P := Tryd.prog) (A := A6) (c := c6) Tryd.underlying22 Tryd.underlying5 Tryd.underlying9 HR6.out
    exact h
  go_wp2_with (fail)
  go_ret
  exact ⟨rfl, HB6.out⟩
end Go.Proofs.YtpndobhakmjglaaDoor.Store
namespace Go.Proofs.YtpndobhakmjglaaDoor.Store
open Go.RowKit Go.Proofs.YtpndobhakmjglaaDoorW.PrintWords Go.Proofs.YtpndobhakmjglaaDoorW.PrintLast Go.Proofs.YtpndobhakmjglaaDoorW.PrintMore Go.Proofs.YtpndobhakmjglaaDoor.K Go.Proofs.YtpndobhakmjglaaDoor.Sha
set_option linter.unusedVariables false
set_option linter.unusedSimpArgs false
def Few (xs : List (List Int)) : Prop := (∀ r ∈ xs, r.length ≤ 200) ∧ xs.length ≤ 12
theorem few_step {xs : List (List Int)} {k : Nat} (h : ∀ r ∈ xs.take k, r.length ≤ 200) (hk : k < xs.length) (hx : (xs.getD k []).length ≤ 200) : ∀ r ∈ xs.take (k + 1), r.length ≤ 200 := by
  intro r hr
  rw [List.take_succ_eq_append_getElem hk, List.mem_append] at hr
  rcases hr with hr | hr
  · exact h r hr
  · rw [List.mem_singleton] at hr
    rw [List.getD_eq_getElem?_getD, List.getElem?_eq_getElem hk] at hx
    rw [hr]; exact hx
set_option maxHeartbeats 4000000 in
set_option maxRecDepth 100000 in
theorem few_calls (A : Option Addr) (c : Nat) (xs : List (List Int)) (w : World) (hx : Kd.C (Kd.slice 5 (Kd.int .u8)) w A xs.length xs) :
    Calls Tryd.prog 14 #[.slice A xs.length c] w fun e w' => ∃ b : Bool, e = .returned (.bool b) ∧ (b = true → Few xs) ∧ Drawn0 w w' := by
  have HX := Aside0.mk hx
  have hm := hx.2.1
  clear hx
  go_enter Tryd.func14, Tryd.ntmps14
  go_wp2
  go_loopw [3] (fun v3 w' => ∃ k : Nat, k ≤ xs.length ∧ v3 = .int .i64 k ∧ Aside0 (∀ r ∈ xs.take k, r.length ≤ 200) ∧ ∃ n, w' = w.drewN n) (fun v3 _ => xs.length - (intOf v3).toNat)
  case atStart => exact ⟨0, Nat.zero_le _, rfl, ⟨fun r hr => by simp at hr⟩, 0, rfl⟩
  case round =>
    obtain ⟨k, hk, rfl, HF, nd, rfl⟩ := hrel
    by_cases hlt : k < xs.length
    · obtain ⟨ad, A1, c1, rfl, hx, hl1, hr1⟩ := row_at HX.out k hlt
      clear hl1
      have hm1 := hr1.2.1
      have hwk : IntKind.i64.wrap ((k : Int) + 1) = (k : Int) + 1 := by rw [IntKind.wrap_i64]; omega
      clear hr1
      have HSt := Aside0.mk (fun h => few_step HF.out hlt h)
      generalize xs.getD k [] = x at *
      by_cases h7 : 200 < x.length
      · have h7I : decide (200 < (x.length : Int)) = true := by simp; omega
        have h7N : decide (200 < x.length) = true := by simp; omega
        clear h7
        go_wp2
        go_ret
        exact ⟨_, rfl, (fun h => by cases h), by first | exact ⟨_, rfl⟩ | exact ⟨_, World.drewN_drewN _ _ _⟩⟩
      · have h7I : decide (200 < (x.length : Int)) = false := by simp; omega
        have h7N : decide (200 < x.length) = false := by simp; omega
        have HF2 := Aside0.mk (HSt.out (by omega))
        clear h7
        go_wp2
        go_roundw
        case rel => exact ⟨k + 1, by omega, by go_num, HF2, _, rfl⟩
        case measure => simp [intOf]; omega
    · obtain rfl : k = xs.length := by omega
      have hAll : ∀ r ∈ xs, r.length ≤ 200 := by have := HF.out; rwa [List.take_length] at this
      have HAll := Aside0.mk hAll
      clear hAll hlt hk
      by_cases h12 : xs.length ≤ 12
      · have d1 : decide ((xs.length : Int) ≤ 12) = true := by simp; omega
        have d2 : decide (xs.length ≤ 12) = true := by simp; omega
        go_wp2
        go_ret
        exact ⟨_, rfl, (fun _ => ⟨HAll.out, h12⟩), ⟨_, rfl⟩⟩
      · have d1 : decide ((xs.length : Int) ≤ 12) = false := by simp; omega
        have d2 : decide (xs.length ≤ 12) = false := by simp; omega
        clear h12
        go_wp2
        go_ret
        exact ⟨_, rfl, (fun h => by cases h), ⟨_, rfl⟩⟩
/-- Append of what lay there before the store. -/
theorem append_old {w0 w : World} {B g : Nat} {vl vm vb : Value} {rs : List (List Int)} {mk bs : List Int} (A : Option Addr) (n c : Nat) (r : List Int) (h : StAt w B g vl vm vb rs mk bs) (hC : Kd.C (Kd.int .u8) w0 A n r) (hb : Below w0.heap.size w0 w) (hB0 : w0.heap.size ≤ B) (hB : B ≤ w.heap.size) (hc : n ≤ c) (hby : ∀ x ∈ r, 0 ≤ x ∧ x < 256) (hmb : ∀ x ∈ mk, 0 ≤ x ∧ x < 256) (hml : mk.length ≤ 16) (hn : n ≤ 1048576) (hrs : rs.length ≤ 1000000) (hbs : bs.length ≤ 100000000)
    (hLf : LaidAt w 0 firstA) (hL : LaidAt w 1 constA) :
    Calls Tryd.prog 21 #[.pointer (some ⟨g, 0, none⟩), .slice A n c] w fun e w' => e = .returned (.int .i64 0) ∧ (∃ v1 m1 b1, StAt w' B g v1 m1 b1 (rs ++ [r]) (sealV mk r) (bs ++ joinL [r, sealV mk r])) ∧ Below B w w' ∧ Kept w w' (Touch g vl vb) :=
  append_calls A n c r h hB (Kd.C_kept_came (Kd.heap_int .u8) hC hb (fun k hk => Nat.le_trans hB0 (Touch.old h k hk).1)) hc hby hmb hml hn hrs hbs hLf hL
/-- The state of a store of records. -/
def Made (W : World) (B g : Nat) (l : List (List Int)) : Prop := ∃ vl vm vb, StAt W B g vl vm vb l (markV [] l) (storeB [] l)
theorem Made.below {W W1 : World} {B g : Nat} {l : List (List Int)} (h : Made W B g l) (hb : Below W.heap.size W W1) : Made W1 B g l := by
  obtain ⟨vl, vm, vb, h⟩ := h
  exact ⟨vl, vm, vb, h.below hb⟩
theorem markV_byte : ∀ (l : List (List Int)) (a : List Int), (∀ x ∈ a, 0 ≤ x ∧ x < 256) → ∀ x ∈ markV a l, 0 ≤ x ∧ x < 256
  | [], a, h => h
  | r :: l, a, h => markV_byte l (sealV a r) (sealV_byte a r)
theorem markV_le : ∀ (l : List (List Int)) (a : List Int), a.length ≤ 16 → (markV a l).length ≤ 16
  | [], a, h => h
  | r :: l, a, h => markV_le l (sealV a r) (by rw [sealV_len]; exact Nat.le_refl _)
theorem storeB_le (m : Nat) : ∀ (l : List (List Int)) (a : List Int), (∀ r ∈ l, r.length ≤ m) → (storeB a l).length ≤ (m + 24) * l.length
  | [], a, _ => Nat.zero_le _
  | r :: l, a, h => by
    have h1 := storeB_le m l (sealV a r) (fun x hx => h x (List.mem_cons_of_mem _ hx))
    have h2 := h r (List.mem_cons_self ..)
    rw [storeB, List.length_append, joinTwo_eq_len _ _ (sealV_len _ _), List.length_cons, Nat.mul_succ]
    omega
theorem few_bytes {l : List (List Int)} (h : Few l) : (storeB [] l).length ≤ 2688 := by
  have h1 := storeB_le 200 l [] h.1
  have h2 := h.2
  have h3 : 224 * l.length ≤ 224 * 12 := Nat.mul_le_mul_left _ h2
  omega
theorem few_take {l : List (List Int)} (k : Nat) (h : Few l) : Few (l.take k) := ⟨fun r hr => h.1 r (List.mem_of_mem_take hr), by rw [List.length_take]; have := h.2; omega⟩
theorem few_short {l : List (List Int)} (h : Few l) : ∀ r ∈ l, r.length ≤ 1048576 := fun r hr => by have := h.1 r hr; omega
theorem take_snoc {l : List (List Int)} (k : Nat) (h : k < l.length) : l.take (k + 1) = l.take k ++ [l.getD k []] := by
  rw [List.take_succ_eq_append_getElem h, List.getD_eq_getElem?_getD, List.getElem?_eq_getElem h]; rfl
/-- One more record of a store. -/
theorem made_step {W : World} {B g : Nat} {v1 m1 b1 : Value} {l : List (List Int)} {k : Nat} (hk : k < l.length) (h : StAt W B g v1 m1 b1 (l.take k ++ [l.getD k []]) (sealV (markV [] (l.take k)) (l.getD k [])) (storeB [] (l.take k) ++ joinL [l.getD k [], sealV (markV [] (l.take k)) (l.getD k [])])) : Made W B g (l.take (k + 1)) := by
  rw [← storeB_snoc, ← markV_snoc, ← take_snoc k hk] at h
  exact ⟨v1, m1, b1, h⟩
set_option maxHeartbeats 4000000 in
set_option maxRecDepth 100000 in
theorem made_calls (A : Option Addr) (n c : Nat) (l : List (List Int)) (w0 w : World) (hx : Kd.C (Kd.slice 5 (Kd.int .u8)) w0 A n l) (hb : Below w0.heap.size w0 w) (hby : ∀ r ∈ l, ∀ x ∈ r, 0 ≤ x ∧ x < 256) (hf : Few l)
    (hLf : LaidAt w0 0 firstA) (hL : LaidAt w0 1 constA) :
    Calls Tryd.prog 15 #[.slice A n c] w fun e w' => ∃ g, e = .returned (.pointer (some ⟨g, 0, none⟩)) ∧ Made w' w.heap.size g l ∧ Below w.heap.size w w' := by
  obtain rfl := hx.1
  have HX := Aside0.mk hx
  have HB0 := Aside0.mk hb
  have HBy := Aside0.mk hby
  have HF := Aside0.mk hf
  have HLf := Aside0.mk hLf
  have HL := Aside0.mk hL
  clear hx hb hby hLf hL
  have hl12 := hf.2
  clear hf
  go_enter Tryd.func15, Tryd.ntmps15
  go_wp2_with (fail)
  refine (new_calls w).mono ?_
  rintro e w1 ⟨g, rfl, hS, hb⟩
  have HS := Aside0.mk hS
  have HB1 := Aside0.mk hb
  clear hS hb
  go_wp2_with (fail)
  go_loopw [4] (fun v3 w' => ∃ k : Nat, k ≤ l.length ∧ v3 = .int .i64 k ∧ Aside0 (Made w' w.heap.size g (l.take k) ∧ Below w.heap.size w w')) (fun v3 _ => l.length - (intOf v3).toNat)
  case atStart => exact ⟨0, Nat.zero_le _, rfl, ⟨⟨_, _, _, HS.out⟩, HB1.out⟩⟩
  case round =>
    obtain ⟨k, hk, rfl, HM⟩ := hrel
    clear HS HB1
    by_cases hlt : k < l.length
    · obtain ⟨vl, vm, vb, hS⟩ := HM.out.1
      have HS := Aside0.mk hS
      have HBr := Aside0.mk HM.out.2
      have HB2 : Aside0 (Below w0.heap.size w0 wr) := ⟨below_step HB0.out HBr.out⟩
      obtain ⟨ad, A1, c1, rfl, hx, hl1, hr1⟩ := row_at' HX.out HB2.out k hlt
      have HR1 := Aside0.mk hr1
      have hwk : IntKind.i64.wrap ((k : Int) + 1) = (k : Int) + 1 := by rw [IntKind.wrap_i64]; omega
      have HG : Aside0 (l.getD k [] ∈ l) := ⟨by rw [List.getD_eq_getElem?_getD, List.getElem?_eq_getElem hlt]; exact List.getElem_mem hlt⟩
      have HAp := Aside0.mk (append_old A1 (l.getD k []).length c1 (l.getD k []) HS.out HR1.out HB2.out HB0.out.size HBr.out.size hl1 (HBy.out _ HG.out) (markV_byte _ _ (fun x hx => by cases hx)) (markV_le _ _ (by decide)) (by have := HF.out.1 _ HG.out; omega) (by rw [List.length_take]; omega) (by have := few_bytes (few_take k HF.out); omega) (HLf.out.below HB2.out) (HL.out.below HB2.out))
      have HSt : Aside0 (∀ W v1 m1 b1, StAt W w.heap.size g v1 m1 b1 (l.take k ++ [l.getD k []]) (sealV (markV [] (l.take k)) (l.getD k [])) (storeB [] (l.take k) ++ joinL [l.getD k [], sealV (markV [] (l.take k)) (l.getD k [])]) → Made W w.heap.size g (l.take (k + 1))) := ⟨fun W v1 m1 b1 h => made_step hlt h⟩
      clear hS hl1 hr1 HM
      generalize l.getD k [] = x at *
      go_wp2_with (fail)
      refine HAp.out.mono ?_
      rintro e w2 ⟨rfl, ⟨v1, m1, b1, hS⟩, hb, _⟩
      have HM2 := Aside0.mk (HSt.out _ _ _ _ hS)
      have HB3 : Aside0 (Below w.heap.size w w2) := ⟨HBr.out.trans hb⟩
      clear hS hb
      go_wp2_with (fail)
      go_roundw
      case rel => exact ⟨k + 1, by omega, by go_num, ⟨HM2.out, HB3.out⟩⟩
      case measure => simp [intOf]; omega
    · obtain rfl : k = l.length := by omega
      have HM1 := Aside0.mk HM.out.1
      rw [List.take_length] at HM1
      have HB3 := Aside0.mk HM.out.2
      go_wp2
      go_ret
      exact ⟨_, rfl, HM1.out, HB3.out⟩
end Go.Proofs.YtpndobhakmjglaaDoor.Store
namespace Go.Proofs.YtpndobhakmjglaaDoor.RangeAll
open Go.RowKit Go.Proofs.YtpndobhakmjglaaDoorW.PrintWords Go.Proofs.YtpndobhakmjglaaDoor.K
set_option linter.unusedVariables false
section
variable {F : Fence} {n : Nat} {P : Program}
/-- The iterator's word: in whatever state J between two rounds, if each round that is handed what is good goes on, all N rounds come. -/
def Gives (F : Fence) (n : Nat) (P : Program) (gf : Nat) (lb : Array Value) (N : Nat) (R : World → Prop) (G : Nat → Array Value → World → Prop) (w : World) : Prop :=
  ∀ (l : Nat) (J : Nat → World → Prop) (W : World), w.heap.size ≤ W.heap.size → AbidesFrom W.heap.size J → (∀ k W1, J k W1 → R W1) →
    (∀ k args W1, J k W1 → k < N → G k args W1 → YieldAt F (n - 1) P l args W1 fun e W' => e = .returned (.bool true) ∧ J (k + 1) W') → J 0 W →
    CallsIn F n P gf (#[.func (.yield l) #[] #[]] ++ lb) W fun e W' => (∃ v, e = .returned v) ∧ J N W'
theorem range_all {g : Operand} {ps : Array Tmp} {assign body : Code} {Q : Exit → Act → World → Prop} {a : Act} {w : World} (hro : F.round = none) (h1 : 1 ≤ n) {gf : Nat} {lb : Array Value} (hg : a.eval g = .func (.func gf) #[] lb) (hFg : F.fn gf) (eg : ∀ args w, (callFunc gf args).run P w = .ok (.enter gf args) w)
    {N : Nat} {R : World → Prop} {G : Nat → Array Value → World → Prop} (hseq : Gives F (n - 1) P gf lb N R G w)
    (I : Nat → World → Prop) (hI : OwnFrom w.heap.size I) (hG : ∀ args, OwnFrom w.heap.size (fun k W => G k args W)) (hR : ∀ k W, I k W → R W) (h0 : I 0 w) (hps : ∀ k args W, G k args W → args.size = ps.size)
    (a₁ : Array Value → Act)
    (hassign : ∀ (l k : Nat) (args : Array Value) (W : World) (K : Act → World → Prop), G k args W → K (a₁ args) W →
      assign.wpIn (F.inRound l) (n - 1 - 1) P (Exit.then K (fun _ _ _ => False)) { tmps := (ps.zip args).foldl (fun t (p, v) => t.setIfInBounds p v) a.tmps, defers := [] } W)
    (hbody : ∀ (l k : Nat) (args : Array Value) (W : World), I k W → G k args W → k < N → body.wpIn (F.inRound l) (n - 1 - 1) P (fun e _ W' => e = .normal ∧ KeepsFrom w.heap.size W W' ∧ I (k + 1) W') (a₁ args) W)
    (hdone : ∀ (D : Nat) (W : World), w.heap.size ≤ D → I N W → W.heap[D]? = some (.deferred (some [])) → Q .normal { a with defers := { target := .collected D, args := #[] } :: a.defers } W) :
    (Code.rangeFunc g ps assign body).wpIn F n P Q a w := by
  refine wpIn_rangeFunc fun fn hfn => ?_
  rw [hro]
  let rec_ : LoopState → Loop := fun st => { state := st, pending := none, fn := fn, tmps := a.tmps, params := ps, assign := assign, body := body, defers := w.heap.size }
  let w1 : World := (w.alloc (.deferred (some []))).alloc (.loop (rec_ .ready))
  have hsz1 : w1.heap.size = w.heap.size + 2 := by simp [w1]
  have hl1 : w1.heap[w.heap.size + 1]? = some (.loop (rec_ .ready)) := by
    have := World.alloc_heap_new (w.alloc (.deferred (some []))) (.loop (rec_ .ready))
    rwa [World.size_alloc] at this
  have hd1 : w1.heap[w.heap.size]? = some (.deferred (some [])) := ((bel_alloc (Below.refl (w.alloc (.deferred (some []))).heap.size (w.alloc (.deferred (some [])))) (.loop (rec_ .ready))).block w.heap.size (by simp)).trans (World.alloc_heap_new w _)
  have hI1 : I 0 w1 := hI.alloc _ (hI.alloc _ h0)
  let J : Nat → World → Prop := fun k W => I k W ∧ W.heap[w.heap.size + 1]? = some (.loop (rec_ .ready)) ∧ W.heap[w.heap.size]? = some (.deferred (some []))
  have hJ : AbidesFrom w1.heap.size J := fun k A B row hs hgr hr => by
    have hr2 : ∀ r, row = some r → w.heap.size ≤ r ∧ ∃ o : Obj, A.heap[r]? = some o ∧ o.isCells = false := fun r e => by
      obtain ⟨hb, o, ho, hw⟩ := hr r e
      exact ⟨by omega, o, ho, Obj.not_cells_of_walk hw⟩
    exact ⟨hI k A B row hs.1 hgr hr2, (grownBy_keeps hgr (fun r e => (hr r e).2) hs.2.1 rfl).trans hs.2.1, (grownBy_keeps hgr (fun r e => (hr r e).2) hs.2.2 rfl).trans hs.2.2⟩
  refine ⟨w.heap.size + 1, [{ target := .collected w.heap.size, args := #[] }], w1, { target := .fn (.func gf) lb, args := #[.func (.yield (w.heap.size + 1)) #[] #[]] }, w1, gf, #[.func (.yield (w.heap.size + 1)) #[] #[]] ++ lb, w1, run_enterLoop_outer _ _ _ _ _, ?_, ?_, ?_, fun _ => h1, ?_⟩
  · simp only [resolve, hg]
    simp [go_sem]
  · intro f' hf'
    simp [Target.leads] at hf'
    subst hf'
    exact hFg
  · simp [invoke, go_sem, eg]
  · refine (hseq (w.heap.size + 1) J w1 (by omega) hJ (fun k W1 h => hR k W1 h.1) ?_ ⟨hI1, hl1, hd1⟩).mono ?_
    · rintro k args W ⟨hi, hl, hd⟩ hk hgood
      have hlt : w.heap.size + 1 < W.heap.size := (Array.getElem?_eq_some_iff.1 hl).1
      refine ⟨fn, _, assign, body, run_yield hl (hps k args W hgood), roundIn_of_wpIn hfn (hassign _ k args W _ hgood ⟨_, run_beginRound hl rfl, ?_⟩)⟩
      have hl2 : (W.putObj (w.heap.size + 1) (.loop { rec_ .ready with state := .busy })).heap[w.heap.size + 1]? = some (.loop (rec_ .busy)) := World.putObj_heap_same hlt
      have hd2 : (W.putObj (w.heap.size + 1) (.loop { rec_ .ready with state := .busy })).heap[w.heap.size]? = some (.deferred (some [])) := (World.putObj_heap_other (by omega)).trans hd
      have hi2 := hI.putObj (.loop { rec_ .ready with state := .busy }) hi (by omega : w.heap.size ≤ w.heap.size + 1) hl rfl
      have hg2 := (hG args).putObj (.loop { rec_ .ready with state := .busy }) hgood (by omega : w.heap.size ≤ w.heap.size + 1) hl rfl
      refine wpIn_mono (hbody _ k args _ hi2 hg2 hk) ?_
      rintro e a3 W3 ⟨rfl, hkeep, hi3⟩
      have hl3 := hkeep.same _ _ (by omega : w.heap.size ≤ w.heap.size + 1) hl2 rfl
      have hd3 := hkeep.same _ _ (Nat.le_refl _) hd2 rfl
      refine ⟨_, _, run_endRound none hl3, rfl, hI.putObj _ hi3 (by omega) hl3 rfl, World.putObj_heap_same (Array.getElem?_eq_some_iff.1 hl3).1, (World.putObj_heap_other (by omega)).trans hd3⟩
    · rintro e W2 ⟨⟨v, rfl⟩, hi, hl, hd⟩
      exact ⟨none, _, run_endLoop hl (by simp [rec_]), hdone _ _ (Nat.le_refl _) (hI.putObj _ hi (by omega) hl rfl) ((World.putObj_heap_other (by omega)).trans hd)⟩
/-- What stands in cells stands there still. -/
theorem cell_own {W W' : World} {row : Option Nat} {p : Addr} {v : Value} (h : W.cell? p = some v) (hg : W.grownBy W' row) (hr : ∀ r, row = some r → ∃ o : Obj, W.heap[r]? = some o ∧ o.isCells = false) : W'.cell? p = some v := by
  have hlt := World.block_lt_of_cell? W p h
  have hne : some p.block ≠ row := fun e => by
    obtain ⟨o, ho, hc⟩ := hr p.block e.symm
    unfold World.cell? at h
    rw [ho] at h
    cases o <;> simp_all [Obj.isCells]
  have hb := hg.block p.block hlt hne
  unfold World.cell? at h ⊢
  rw [hb]
  exact h
theorem blk_own {W W' : World} {row : Option Nat} {b : Nat} {cells : Array Value} {t : TypeId} {fr : Nat × Nat} (h : W.heap[b]? = some (.cells cells t fr)) (hg : W.grownBy W' row) (hr : ∀ r, row = some r → ∃ o : Obj, W.heap[r]? = some o ∧ o.isCells = false) : W'.heap[b]? = some (.cells cells t fr) := by
  refine (hg.block b (blk_lt h) (fun e => ?_)).trans h
  obtain ⟨o, ho, hc⟩ := hr b e.symm
  rw [h] at ho
  cases ho
  simp [Obj.isCells] at hc
theorem C_own {k : IntKind} {W W' : World} {A : Option Addr} {m : Nat} {xs : List Int} {row : Option Nat} (h : Kd.C (Kd.int k) W A m xs) (hg : W.grownBy W' row) (hr : ∀ r, row = some r → ∃ o : Obj, W.heap[r]? = some o ∧ o.isCells = false) : Kd.C (Kd.int k) W' A m xs := by
  have h1 := reads_int h
  refine C_int ⟨h1.1, h1.2.1, fun hm => ?_⟩
  obtain ⟨ad, e, hc⟩ := h1.2.2 hm
  exact ⟨ad, e, fun j hj => cell_own (hc j hj) hg hr⟩
end
end Go.Proofs.YtpndobhakmjglaaDoor.RangeAll
namespace Go.Proofs.YtpndobhakmjglaaDoor.Store
open Go.RowKit Go.Proofs.YtpndobhakmjglaaDoorW.PrintWords Go.Proofs.YtpndobhakmjglaaDoorW.PrintLast Go.Proofs.YtpndobhakmjglaaDoorW.PrintMore Go.Proofs.YtpndobhakmjglaaDoor.K Go.Proofs.YtpndobhakmjglaaDoor.Sha Go.Proofs.YtpndobhakmjglaaDoor.RangeAll
set_option linter.unusedVariables false
set_option linter.unusedSimpArgs false
attribute [local go_sem] Oper.semAt_some
set_option maxHeartbeats 2000000 in
/-- slices.Clone of rows: the rows are those that came in. -/
theorem clonerows_calls (A : Option Addr) (n c : Nat) (l : List (List Int)) (w0 w : World) (hw : Below w0.heap.size w0 w) (hr0 : Kd.C kT w0 A n l) (hb : n ≤ 1000000) :
    Calls Tryd.prog 32 #[.slice A n c] w fun e w' => ∃ v0_ : Value, e = .returned (v0_) ∧ Kd.R (Kd.fixed kT w0) 22 w' w.heap.size (fun _ => True) v0_ l ∧ Below w.heap.size w w' := by
  have HR0 := Aside0.mk hr0
  have HN := Aside0.mk (C_len hr0)
  have HL := Aside0.mk hb
  have HW := Aside0.mk hw
  clear hr0 hb hw
  cases A with
  | none =>
    have h0 : l = [] := by
      have h1 := HR0.out
      have h2 := HN.out
      rcases Nat.eq_zero_or_pos n with h | h
      · exact List.eq_nil_of_length_eq_zero (by omega)
      · obtain ⟨_, h3, _⟩ := h1.2.2 h
        cases h3
    subst h0
    have hnil := fun (w : World) => Lib.run_eql_slice_nil (P := Tryd.prog) w 31 22 none n c 0 0 Tryd.underlying31
    go_enter Tryd.func32, Tryd.ntmps32
    go_wp2
    go_ret
    exact ⟨_, rfl, Kd.R_nil _ _ _ _ _, Below.refl _ _⟩
  | some a =>
    have hnil := fun (w : World) => Lib.run_eql_slice_nil (P := Tryd.prog) w 31 22 (some a) n c 0 0 Tryd.underlying31
    have HO : Aside0 ((Kd.fixed kT w0).R 22 (w.alloc (.cells #[] 22)) w.heap.size (fun _ => True) (.slice (some ⟨w.heap.size, 0, none⟩) 0 0) []) :=
      ⟨⟨fun _ _ => trivial, [], ⟨rfl, .inr ⟨w.heap.size, 0, #[], rfl, Nat.le_refl _, heap_alloc_new _ _, Nat.le_refl _, Nat.zero_le _, rfl, rfl⟩⟩, ⟨rfl, fun j p hj => by simp at hj⟩⟩⟩
    have HRw := Aside0.mk (C_fix HR0.out (below_step HW.out (bel_alloc (Below.refl w.heap.size w) (.cells #[] 22))))
    go_enter Tryd.func32, Tryd.ntmps32
    go_wp2_with (at_builtin; refine Kd.R_append_rows (Kd.fixed kT w0) (w0 := w) w.heap.size rfl (.tmp 5) (.tmp 6) 31 22 (.slice none 0 0) 24 rfl Tryd.underlying31 info_bs rfl Nat.zero_lt_one (by decide) (.slice (some ⟨w.heap.size, 0, none⟩) 0 0) [] l (some a) n c (fun _ => True) (fun k => True ∧ some k ≠ (Value.slice (some ⟨w.heap.size, 0, none⟩) 0 0).ownBlock) rfl rfl HO.out HRw.out (fun x cs h => h) (fun _ hk => hk) (fun _ _ => trivial) (bel_alloc (Below.refl _ _) _) (bel_size (Below.refl _ _) _) (by have := HL.out; simp; omega) ?_; intro v1 w1 ho hb hg hat; have HO1 := Aside0.mk ho; have HB1 := Aside0.mk hb; clear ho hb hg hat)
    go_ret
    exact ⟨_, rfl, HO1.out, HB1.out⟩
/-- What All hands out: a function over a box in which the rows lie. -/
def AllEnd (w : World) (l : List (List Int)) (e : Ending) (w' : World) : Prop :=
  ∃ b A c, e = .returned (.func (.func 33) #[] #[.pointer (some ⟨b, 0, none⟩)]) ∧ w'.heap[b]? = some (.cells #[.slice A l.length c] 31 (0, 0)) ∧ w.heap.size ≤ b ∧ Kd.C kT w' A l.length l ∧ Below w.heap.size w w'
set_option maxHeartbeats 4000000 in
set_option maxRecDepth 100000 in
theorem all_calls {w : World} {B g : Nat} {vl vm vb : Value} {rs : List (List Int)} {mk bs : List Int} (h : StAt w B g vl vm vb rs mk bs) (hl : rs.length ≤ 1000000) :
    Calls Tryd.prog 23 #[.pointer (some ⟨g, 0, none⟩)] w (AllEnd w rs) := by
  obtain ⟨A, c, hvl, hcap, hC⟩ := Kd.R_reads h.2.2.1
  subst hvl
  have HB1 : Aside0 (Below w.heap.size w (w.alloc (.cells #[.slice none 0 0] 31))) := ⟨bel_alloc (Below.refl _ _) _⟩
  have hx0 : (w.alloc (.cells #[.slice none 0 0] 31)).cell? ⟨g, 0, none⟩ = some (.slice A rs.length c) := cell_keep HB1.out (st0 h)
  have HBx : Aside0 ((w.alloc (.cells #[.slice none 0 0] 31)).heap[w.heap.size]? = some (.cells #[.slice none 0 0] 31 (0, 0))) := ⟨heap_alloc_new _ _⟩
  have HCl := Aside0.mk (clonerows_calls A rs.length c rs w (w.alloc (.cells #[.slice none 0 0] 31)) HB1.out hC hl)
  clear h hl hcap hC
  go_enter Tryd.func23, Tryd.ntmps23
  go_wp2_with (fail)
  refine HCl.out.mono ?_
  rintro e w1 ⟨v, rfl, hR, hb⟩
  obtain ⟨A1, c1, rfl⟩ := Kd.R_slice hR
  have HBx1 : Aside0 (w1.heap[w.heap.size]? = _) := ⟨(hb.block _ (blk_lt HBx.out)).trans HBx.out⟩
  have f1 : w1.frozen? ⟨w.heap.size, 0, none⟩ = false := blk_frozen HBx1.out 0
  have c1' : w1.cell? ⟨w.heap.size, 0, none⟩ = some (.slice none 0 0) := blk_cell HBx1.out 0
  have HB2 := Aside0.mk (below_step HB1.out hb)
  have HB3 : Aside0 (Below w.heap.size w (w1.setCell ⟨w.heap.size, 0, none⟩ (.slice A1 rs.length c1))) := ⟨HB2.out.setCell (Nat.le_refl _) _⟩
  have HR : Aside0 (Kd.C kT (w1.setCell ⟨w.heap.size, 0, none⟩ (.slice A1 rs.length c1)) A1 rs.length rs) := ⟨by
    have h1 := Kd.R_set hR HBx1.out (fun q hq => by
      simp [Kd.fixed] at hq
      rw [hq]
      decide) 0 (.slice A1 rs.length c1)
    obtain ⟨A2, c2, he, _, h2⟩ := Kd.R_reads h1
    obtain ⟨rfl, rfl⟩ : A1 = A2 ∧ c1 = c2 := by injection he with e1 e2 e3; exact ⟨e1, e3⟩
    exact C_unfix HB3.out h2⟩
  have HBy : Aside0 ((w1.setCell ⟨w.heap.size, 0, none⟩ (.slice A1 rs.length c1)).heap[w.heap.size]? = some (.cells #[.slice A1 rs.length c1] 31 (0, 0))) := ⟨blk_set HBx1.out 0 _⟩
  clear hb hR
  go_wp2_with (fail)
  go_ret
  exact ⟨_, _, _, rfl, HBy.out, Nat.le_refl _, HR.out, HB3.out⟩
set_option maxHeartbeats 2000000 in
theorem all_nil (w : World) :
    Calls Tryd.prog 23 #[.pointer none] w (AllEnd w []) := by
  have HB1 : Aside0 (Below w.heap.size w (w.alloc (.cells #[.slice none 0 0] 31))) := ⟨bel_alloc (Below.refl _ _) _⟩
  have HBx : Aside0 ((w.alloc (.cells #[.slice none 0 0] 31)).heap[w.heap.size]? = some (.cells #[.slice none 0 0] 31 (0, 0))) := ⟨heap_alloc_new _ _⟩
  go_enter Tryd.func23, Tryd.ntmps23
  go_wp2_with (fail)
  go_ret
  exact ⟨_, _, _, rfl, HBx.out, Nat.le_refl _, ⟨rfl, by decide, fun h => absurd h (by decide)⟩, HB1.out⟩
/-- What stands between two rounds: the box and the rows in it. -/
def RowsAt (b : Nat) (A : Option Addr) (c : Nat) (l : List (List Int)) (W : World) : Prop := W.heap[b]? = some (.cells #[.slice A l.length c] 31 (0, 0)) ∧ Kd.C kT W A l.length l
/-- What a round is handed: a place, and the row there (new memory). -/
def RowGood (l : List (List Int)) (k : Nat) (args : Array Value) (W : World) : Prop :=
  ∃ A c, args = #[.int .i64 (k : Int), .slice A (l.getD k []).length c] ∧ (l.getD k []).length ≤ c ∧ Kd.C (Kd.int .u8) W A (l.getD k []).length (l.getD k [])
theorem rowGood_own (l : List (List Int)) (B : Nat) (args : Array Value) : OwnFrom B (fun k W => RowGood l k args W) := fun k W W' row h hg hr => by
  obtain ⟨A, c, e, hc, hC⟩ := h
  exact ⟨A, c, e, hc, C_own hC hg (fun r hr2 => (hr r hr2).2)⟩
set_option maxRecDepth 100000 in
set_option maxHeartbeats 4000000 in
theorem all1_gives (F : Fence) (n : Nat) (h7 : F.fn 33) (h8 : F.fn 27) (hcl : ∀ A m c xs W, Kd.C (Kd.int .u8) W A m xs → m ≤ 100000000 → CallsIn F (n - 1) Tryd.prog 27 #[.slice A m c] W fun e W' => ∃ v, e = .returned v ∧ kB.R 5 W' W.heap.size (fun _ => True) v xs ∧ Below W.heap.size W W')
    (hro : F.round = none) (hn : 1 ≤ n) (b : Nat) (A : Option Addr) (c : Nat) (l : List (List Int)) (hl : ∀ r ∈ l, r.length ≤ 100000000) (w : World) :
    Gives F n Tryd.prog 33 #[.pointer (some ⟨b, 0, none⟩)] l.length (RowsAt b A c l) (RowGood l) w := fun L J W hW hJ hJR hY h0 => by
  refine callsIn_of_wp Tryd.func33 rfl h7 ?_ hro
  simp only [Tryd.ntmps33, List.size_toArray, List.length_cons, List.length_nil, Nat.reduceAdd, Nat.reduceSub, Array.replicate_succ, Array.replicate_zero, List.push_toArray, List.append_toArray, List.nil_append, List.cons_append]
  have hb0 := (hJR 0 W h0).1
  have hm := (hJR 0 W h0).2.2.1
  have hx : W.cell? ⟨b, 0, none⟩ = some (.slice A l.length c) := blk_cell hb0 0
  clear hb0
  gi_wp2
  gi_loopw [7] (fun i wr => ∃ k : Nat, k ≤ l.length ∧ i = .int .i64 (k : Int) ∧ Aside0 (J k wr)) (fun i _ => l.length - (intOf i).toNat)
  case atStart => exact ⟨0, Nat.zero_le _, rfl, ⟨h0⟩⟩
  case round =>
    obtain ⟨k, hk, rfl, HJ0⟩ := hrel
    by_cases hlt : k < l.length
    · obtain ⟨hbx, hC⟩ := hJR k wr HJ0.out
      obtain ⟨ad, A1, c1, rfl, hx1, hl1, hr1⟩ := row_at hC k hlt
      have hwk : IntKind.i64.wrap ((k : Int) + 1) = (k : Int) + 1 := by rw [IntKind.wrap_i64]; omega
      have hlen : (l.getD k []).length ≤ 100000000 := by
        rw [List.getD_eq_getElem?_getD, List.getElem?_eq_getElem hlt]
        exact hl _ (List.getElem_mem hlt)
      have HCl := hcl A1 (l.getD k []).length c1 (l.getD k []) wr hr1 hlen
      have HYk := Aside0.mk (hY k)
      have HGd : Aside0 (∀ A c W, (l.getD k []).length ≤ c → Kd.C (Kd.int .u8) W A (l.getD k []).length (l.getD k []) → RowGood l k #[.int .i64 (k : Int), .slice A (l.getD k []).length c] W) := ⟨fun A c W h1 h2 => ⟨A, c, rfl, h1, h2⟩⟩
      clear hbx hC hl1 hr1 hJR hY hl hcl
      generalize l.getD k [] = x at *
      gi_wp2_with (gi_at_call 27; refine HCl.mono ?_; rintro e w2 ⟨v, rfl, hR, hb⟩; obtain ⟨A2, c2, rfl⟩ := Kd.R_slice hR; have hR2 := Kd.R_reads' hR; have hJ2 := hJ k wr w2 none HJ0.out ⟨hb.os, hb.tape, hb.output, hb.size, fun i hi _ => hb.block i hi⟩ (fun r e => by cases e); obtain ⟨fn, tmps, assign, body, hy, hRd⟩ := HYk.out _ w2 hJ2 hlt (HGd.out A2 c2 w2 hR2.2.1 hR2.2.2); have HRd := Aside0.mk hRd; clear hR hb hR2 hJ2 hRd)
      refine HRd.out.mono ?_
      rintro e w3 ⟨rfl, hJ3⟩
      have HJ3 := Aside0.mk hJ3
      clear hJ3 hy
      gi_wp2
      go_roundw
      case rel => exact ⟨k + 1, by omega, by go_num, HJ3⟩
      case measure => simp [intOf]; omega
    · obtain rfl : k = l.length := by omega
      gi_wp2
      go_end0
      exact ⟨⟨_, rfl⟩, HJ0.out⟩
end Go.Proofs.YtpndobhakmjglaaDoor.Store
namespace Go.Proofs.YtpndobhakmjglaaDoor.Law
open Go.RowKit Go.Proofs.YtpndobhakmjglaaDoorW.PrintWords Go.Proofs.YtpndobhakmjglaaDoorW.PrintLast Go.Proofs.YtpndobhakmjglaaDoorW.PrintMore Go.Proofs.YtpndobhakmjglaaDoor.K
set_option linter.unusedVariables false
set_option maxHeartbeats 1000000 in
theorem bytes_calls (A : Option Addr) (c : Nat) (xs : List Int) (A' : Option Addr) (c' : Nat) (ys : List Int) (w : World) (hx : Kd.C (Kd.int .u8) w A xs.length xs) (hy : Kd.C (Kd.int .u8) w A' ys.length ys) (b : Bool) (hb : decide (xs = ys) = b) :
    Calls Tryd.prog 12 #[.slice A xs.length c, .slice A' ys.length c'] w fun e w' => e = .returned (.bool b) ∧ Drawn0 w w' := by
  have HX := Aside0.mk hx
  have HY := Aside0.mk hy
  have HBb := Aside0.mk hb
  have hm := hx.2.1
  clear hx hy hb
  by_cases hl : xs.length = ys.length
  · have HL := Aside0.mk hl
    have e1 : ((xs.length : Int) == (ys.length : Int)) = true := by rw [beq_iff_eq]; omega
    have e2 : ((xs.length : Int) != (ys.length : Int)) = false := by rw [bne_eq_false_iff_eq]; omega
    have e3 : (xs.length == ys.length) = true := by rw [beq_iff_eq]; omega
    clear hl
    go_enter Tryd.func12, Tryd.ntmps12
    go_wp2
    go_loopw [5] (fun v5 w' => ∃ k : Nat, k ≤ xs.length ∧ v5 = .int .i64 k ∧ Aside0 (xs.take k = ys.take k) ∧ ∃ n, w' = w.drewN n) (fun v5 _ => xs.length - (intOf v5).toNat)
    case atStart => exact ⟨0, Nat.zero_le _, rfl, ⟨rfl⟩, 0, rfl⟩
    case round =>
      obtain ⟨k, hk, rfl, HE, nd, rfl⟩ := hrel
      clear e1 e2 e3
      by_cases hlt : k < xs.length
      · have hlt' : k < ys.length := by have := HL.out; omega
        obtain ⟨ad, rfl, hx⟩ := int_at HX.out k hlt
        obtain ⟨ad', rfl, hy⟩ := int_at HY.out k hlt'
        by_cases he : xs.getD k 0 = ys.getD k 0
        · have HE' := Aside0.mk (take_eq_step 0 k HE.out hlt hlt' he)
          rw [← he] at hy
          clear he
          generalize xs.getD k 0 = x at *
          go_wp2
          go_quiet (fail)
          go_wp2
          go_roundw
          case measure => simp [intOf]; omega
          case rel => exact ⟨k + 1, by omega, by go_num, HE', _, rfl⟩
        · have hbf : b = false := by
            rw [← HBb.out, decide_eq_false_iff_not]
            rintro h
            rw [h] at he
            exact he rfl
          subst hbf
          have e4 : (xs.getD k 0 == ys.getD k 0) = false := beq_eq_false_iff_ne.mpr he
          have e5 : (xs.getD k 0 != ys.getD k 0) = true := bne_iff_ne.mpr he
          clear he HBb HE
          generalize xs.getD k 0 = x at *
          generalize ys.getD k 0 = y at *
          go_wp2
          go_quiet (fail)
          go_wp2
          go_ret
          exact ⟨rfl, by first | exact ⟨_, rfl⟩ | exact ⟨_, World.drewN_drewN _ _ _⟩⟩
      · obtain rfl : k = xs.length := by omega
        have hbt : b = true := by
          have h1 := HE.out
          rw [List.take_length, HL.out, List.take_length] at h1
          rw [← HBb.out, h1]
          simp
        subst hbt
        go_wp2
        go_ret
        exact ⟨rfl, by first | exact ⟨_, rfl⟩ | exact ⟨_, World.drewN_drewN _ _ _⟩⟩
  · have hbf : b = false := by
      rw [← HBb.out, decide_eq_false_iff_not]
      rintro rfl
      exact hl rfl
    subst hbf
    have e1 : ((xs.length : Int) == (ys.length : Int)) = false := by rw [beq_eq_false_iff_ne]; omega
    have e2 : ((xs.length : Int) != (ys.length : Int)) = true := by rw [bne_iff_ne]; omega
    have e3 : (xs.length == ys.length) = false := by rw [beq_eq_false_iff_ne]; omega
    clear hl HBb
    go_enter Tryd.func12, Tryd.ntmps12
    go_wp2
    go_ret
    exact ⟨rfl, ⟨0, rfl⟩⟩
theorem bytes_n (A : Option Addr) (n c : Nat) (xs : List Int) (A' : Option Addr) (n' c' : Nat) (ys : List Int) (w : World) (hx : Kd.C (Kd.int .u8) w A n xs) (hy : Kd.C (Kd.int .u8) w A' n' ys) (b : Bool) (hb : decide (xs = ys) = b) :
    Calls Tryd.prog 12 #[.slice A n c, .slice A' n' c'] w fun e w' => e = .returned (.bool b) ∧ Drawn0 w w' := by
  obtain rfl := hx.1
  obtain rfl := hy.1
  exact bytes_calls A c xs A' c' ys w hx hy b hb
end Go.Proofs.YtpndobhakmjglaaDoor.Law
namespace Go.Proofs.YtpndobhakmjglaaDoor.Store
open Go.RowKit Go.Proofs.YtpndobhakmjglaaDoorW.PrintWords Go.Proofs.YtpndobhakmjglaaDoorW.PrintLast Go.Proofs.YtpndobhakmjglaaDoorW.PrintMore Go.Proofs.YtpndobhakmjglaaDoor.K Go.Proofs.YtpndobhakmjglaaDoor.Sha Go.Proofs.YtpndobhakmjglaaDoor.RangeAll
set_option linter.unusedVariables false
set_option linter.unusedSimpArgs false
attribute [local go_sem] Oper.semAt_some
/-- A result that lies in a cell. -/
theorem results_c0 {fn : Func} {p : Tmp} {ty : TypeId} (h : fn.results = #[.cell p ty]) (tmps : Array Value) (P : Program) (w : World) :
    (results fn tmps).run P w = ((asAddr (tmps.getD p undef)).run P w).andThen fun a w₁ => (loadVar ty a).run P w₁ := by
  simp only [results, h]
  simp [Sem.run_bind, Result.andThen]
theorem results_c1 {fn : Func} {p : Tmp} {ty : TypeId} (h : fn.results = #[.cell p ty]) (tmps : Array Value) (P : Program) (w : World) (a : Addr) (v : Value) (hp : tmps.getD p undef = .pointer (some a)) (hl : (loadVar ty a).run P w = .ok v w) : (results fn tmps).run P w = .ok v w := by
  rw [results_c0 h, hp]
  simp [asAddr, hl]
theorem run_loadVar_b {P : Program} {w : World} (t : TypeId) (hu : P.underlying t = some .bool) {a : Addr} {v : Value} (h : w.cell? a = some v) : (loadVar t a).run P w = .ok v w := by
  have h1 : (isAgg t).run P w = .ok false w := by
    unfold isAgg
    rw [Sem.run_bind, run_underlying hu w]
    rfl
  simp [loadVar, Sem.run_bind, h1, h]
theorem run_equalIn_func_nil {P : Program} (w : World) (k : Nat) (t : TypeId) {d : TypeDesc} (f : Fn) (fa lb : Array Value) (h : P.underlying t = some d) (hd : ∃ ps rs v, d = .func ps rs v) : (Op.equalIn (k + 1) t (.func f fa lb) .nilFunc).run P w = .ok false w := by
  obtain ⟨ps, rs, v, rfl⟩ := hd
  simp [Op.equalIn, run_underlying h]
theorem run_eql_func_nil {P : Program} (w : World) (t : TypeId) {d : TypeDesc} (f : Fn) (fa lb : Array Value) (h : P.underlying t = some d) (hd : ∃ ps rs v, d = .func ps rs v) : (binOp .eql t (.func f fa lb) .nilFunc).run P w = .ok (.bool false) w := by
  simp only [binOp]
  simp [Op.equal, Op.maxDepth, run_equalIn_func_nil w 9999 t f fa lb h hd]
/-- The ends of a function that holds a range over a function: it returns. -/
def endM (P : Program) (fn : Func) (R : Ending → World → Prop) : Exit → Act → World → Prop
  | .normal, a, w | .ret, a, w => LeavesInM Fence.wide 5 P fn a.tmps R a.defers .returning w
  | _, _, _ => False
theorem calls_marks {P : Program} {f : FuncId} {fn : Func} {c : Code} {args : Array Value} {w : World} {R : Ending → World → Prop} (hf : P.funcs[f]? = some fn) (hb : fn.body = some c)
    (h : c.wp P (endM P fn R) { tmps := args ++ Array.replicate (fn.ntmps - args.size) undef, defers := [] } w) : Calls P f args w R :=
  callsIn_wide.1 (callsIn_of_wp_marks (n := 5) hf hb trivial (wpIn_wide.2 (Code.wp_mono (fun e a w q => by
    cases e with
    | normal => exact q
    | ret => exact q
    | _ => exact q.elim) h)))
/-- Between two rounds: the count in its box, and all that lay before it. -/
def HI (wA : World) (k : Nat) (W : World) : Prop := W.heap[wA.heap.size]? = some (.cells #[.int .i64 (k : Int)] 3 (0, 0)) ∧ Below wA.heap.size wA W
theorem HI_own (wA : World) : OwnFrom (wA.heap.size + 1) (HI wA) := fun k W W' row h hg hr => by
  refine ⟨blk_own h.1 hg (fun r e => (hr r e).2), ?_⟩
  exact ⟨hg.os.trans h.2.os, hg.tape.trans h.2.tape, hg.output.trans h.2.output, Nat.le_trans h.2.size hg.size, fun i hi => (hg.block i (by have := h.2.size; omega) (fun e => by have := (hr i e.symm).1; omega)).trans (h.2.block i hi)⟩
def frH (g : Nat) (A : Option Addr) (c : Nat) (l : List (List Int)) (w wA : World) (b5 : Nat) (x y : Value) : Act := { tmps := (Value.pointer (some ⟨g, 0, none⟩) :: Value.slice A l.length c :: undef :: Value.pointer (some ⟨w.heap.size, 0, none⟩) :: Value.pointer (some ⟨w.heap.size + 1, 0, none⟩) :: Value.func (.func 33) #[] #[.pointer (some ⟨b5, 0, none⟩)] :: Value.pointer (some ⟨wA.heap.size, 0, none⟩) :: x :: y :: undef :: undef :: undef :: Value.pointer (some ⟨g, 0, none⟩) :: Value.func (.func 33) #[] #[.pointer (some ⟨b5, 0, none⟩)] :: Value.func (.func 33) #[] #[.pointer (some ⟨b5, 0, none⟩)] :: Value.bool false :: Value.bool false :: Value.pointer (some ⟨g, 0, none⟩) :: Value.int .i64 (l.length : Int) :: Value.slice A l.length c :: Value.int .i64 (l.length : Int) :: Value.bool false :: Value.bool false :: Value.func (.func 33) #[] #[.pointer (some ⟨b5, 0, none⟩)] :: x :: y :: undef :: undef :: undef :: undef :: undef :: undef :: undef :: undef :: undef :: undef :: undef :: undef :: undef :: undef :: undef :: undef :: undef :: undef :: undef :: undef :: undef :: undef :: undef :: undef :: undef :: undef :: undef :: undef :: undef :: undef :: undef :: undef :: undef :: undef :: undef :: undef :: undef :: undef :: undef :: undef :: undef :: undef :: undef :: undef :: undef :: undef :: undef :: undef :: undef :: undef :: undef :: undef :: undef :: undef :: undef :: undef :: undef :: undef :: undef :: undef :: undef :: undef :: []).toArray, defers := [] }
theorem HI_step {wA W : World} {k : Nat} (nd : Nat) (h : HI wA k W) : KeepsFrom (wA.heap.size + 1) W ((W.drewN nd).setCell ⟨wA.heap.size, 0, none⟩ (.int .i64 ((k + 1 : Nat) : Int))) ∧ HI wA (k + 1) ((W.drewN nd).setCell ⟨wA.heap.size, 0, none⟩ (.int .i64 ((k + 1 : Nat) : Int))) := by
  have hg := grownBy_setCell' (W.drewN nd) wA.heap.size (.int .i64 ((k + 1 : Nat) : Int))
  have h1 : (W.drewN nd).heap[wA.heap.size]? = some (.cells #[.int .i64 (k : Int)] 3 (0, 0)) := h.1
  refine ⟨⟨hg.size, fun i o hB hi _ => (hg.block i (Array.getElem?_eq_some_iff.1 hi).1 (fun e => by injection e with e; omega)).trans hi⟩, blk_set h1 0 _, (pw_below_drewN h.2 nd).setCell (Nat.le_refl _) _⟩
set_option maxRecDepth 100000 in
set_option maxHeartbeats 8000000 in
theorem holds_calls (A : Option Addr) (c : Nat) (l : List (List Int)) (B g : Nat) (w : World) (hM : Made w B g l) (hC : Kd.C kT w A l.length l) (hl : l.length ≤ 1000000) (hll : ∀ r ∈ l, r.length ≤ 100000000) :
    Calls Tryd.prog 17 #[.pointer (some ⟨g, 0, none⟩), .slice A l.length c] w fun e w' => e = .returned (.bool true) ∧ Below w.heap.size w w' := by
  obtain ⟨vl, vm, vb, hS⟩ := hM
  have hb1 : Below w.heap.size w ((w.alloc (.cells #[.slice A l.length c] 31)).alloc (.cells #[.bool false] 4)) := bel_alloc (bel_alloc (Below.refl _ _) _) _
  have HB1 := Aside0.mk hb1
  have HS := Aside0.mk hS
  have HS1 := Aside0.mk (hS.below hb1)
  have HC := Aside0.mk hC
  have HLl := Aside0.mk hll
  refine calls_marks Tryd.func17 rfl ?_
  simp only [Tryd.ntmps17, List.size_toArray, List.length_cons, List.length_nil, Nat.reduceAdd, Nat.reduceSub, Array.replicate_succ, Array.replicate_zero, List.push_toArray, List.append_toArray, List.nil_append, List.cons_append]
  clear hb1 hS hC hll
  go_wp2_with (fail)
  refine (all_calls HS1.out hl).mono ?_
  rintro e w2 hE
  obtain ⟨b5, A5, c5, rfl, hb5, hb5s, hC5, hbw2⟩ := hE
  have HE := Aside0.mk (And.intro hb5 (And.intro hb5s (And.intro hC5 hbw2)))
  clear hb5 hb5s hC5 hbw2
  have HB2 : Aside0 (Below w.heap.size w w2) := ⟨below_step HB1.out HE.out.2.2.2⟩
  have HS2 := Aside0.mk (HS1.out.below HE.out.2.2.2)
  have HB3 : Aside0 (w2.heap[w.heap.size]? = some (.cells #[.slice A l.length c] 31 (0, 0)) ∧ w2.heap[w.heap.size + 1]? = some (.cells #[.bool false] 4 (0, 0))) := ⟨(HE.out.2.2.2.block _ (by simp; omega)).trans (blk_alloc (heap_alloc_new _ _) _), (HE.out.2.2.2.block _ (by simp)).trans (by
    have h := heap_alloc_new (w.alloc (.cells #[.slice A l.length c] 31)) (.cells #[.bool false] 4)
    rwa [World.size_alloc] at h)⟩
  have hx3 : w2.drew.cell? ⟨w.heap.size, 0, none⟩ = some (.slice A l.length c) := blk_cell HB3.out.1 0
  have HLn : Aside0 (Calls Tryd.prog 13 #[.pointer (some ⟨g, 0, none⟩)] w2.drew fun e w' => e = .returned (.int .i64 (l.length : Int)) ∧ w2.drew = w') := ⟨len_calls (HS2.out.below (below_drew (Below.refl _ _)))⟩
  have e1 : ((l.length : Int) != (l.length : Int)) = false := by simp
  have hnf := fun (W : World) => run_eql_func_nil (P := Tryd.prog) W 48 (.func 33) #[] #[.pointer (some ⟨b5, 0, none⟩)] Tryd.underlying48 ⟨_, _, _, rfl⟩
  go_upto_region 2 with (fail)
  refine start_ (n := 9) (S := fun w' => w'.cell? ⟨w.heap.size, 0, none⟩ = some (.slice A l.length c)) (ds := []) #[false, false, false, false, false, false, false, false, false] (by kernel_rfl) rfl rfl (hx3) (fun hHeld => ?_)
  refine pure_ (i := 0) (N := some 14) (v := ?_) (a' := ?_) #[true, false, false, false, false, false, false, false, false] rfl rfl (by kernel_rfl) (fun _ _ _ h => h) (Or.inl ⟨by rfl, ?_⟩) ?_ ?_
  rotate_left
  · intro w'
    go_simp
    with_reducible rfl
  rotate_left
  · simp only [Act.put, List.setIfInBounds_toArray, List.set_cons_zero, List.set_cons_succ]
    rfl
  refine pure_ (i := 1) (N := some 15) (v := ?_) (a' := ?_) #[true, true, false, false, false, false, false, false, false] rfl rfl (by kernel_rfl) (fun _ _ _ h => h) (Or.inl ⟨by rfl, ?_⟩) ?_ ?_
  rotate_left
  · intro w'
    go_simp
    with_reducible rfl
  rotate_left
  · simp only [Act.put, List.setIfInBounds_toArray, List.set_cons_zero, List.set_cons_succ]
    rfl
  refine pure_ (i := 2) (N := some 16) (v := ?_) (a' := ?_) #[true, true, true, false, false, false, false, false, false] rfl rfl (by kernel_rfl) (fun _ _ _ h => h) (Or.inl ⟨by rfl, ?_⟩) ?_ ?_
  rotate_left
  · intro w'
    go_simp
    with_reducible rfl
  rotate_left
  · simp only [Act.put, List.setIfInBounds_toArray, List.set_cons_zero, List.set_cons_succ]
    rfl
  refine pure_ (i := 3) (N := some 17) (v := ?_) (a' := ?_) #[true, true, true, true, false, false, false, false, false] rfl rfl (by kernel_rfl) (fun _ _ _ h => h) (Or.inl ⟨by rfl, ?_⟩) ?_ ?_
  rotate_left
  · intro w'
    go_simp
    with_reducible rfl
  rotate_left
  · simp only [Act.put, List.setIfInBounds_toArray, List.set_cons_zero, List.set_cons_succ]
    rfl
  refine take_ (i := 5) (N := some 19) (v := ?_) (a' := ?_) #[true, true, true, true, false, true, false, false, false] rfl rfl (by kernel_rfl) (fun _ _ _ h => h) (Or.inl ⟨by rfl, ?_⟩) hHeld ?_ ?_
  rotate_left
  · intro w' s0
    go_simp
    with_reducible rfl
  rotate_left
  · simp only [Act.put, List.setIfInBounds_toArray, List.set_cons_zero, List.set_cons_succ]
    rfl
  refine pure_ (i := 6) (N := some 20) (v := ?_) (a' := ?_) #[true, true, true, true, false, true, true, false, false] rfl rfl (by kernel_rfl) (fun _ _ _ h => h) (Or.inl ⟨by rfl, ?_⟩) ?_ ?_
  rotate_left
  · intro w'
    go_simp
    with_reducible rfl
  rotate_left
  · simp only [Act.put, List.setIfInBounds_toArray, List.set_cons_zero, List.set_cons_succ]
    rfl
  refine one_ (i := 4) (N := some 18) #[true, true, true, true, true, true, true, false, false] rfl rfl (by kernel_rfl) (by decide) (fun K hK => ?_)
  refine goes_ Tryd.func13 (by kernel_rfl) rfl #[.pointer (some ⟨g, 0, none⟩)] (by rfl) rfl rfl (by simp only [List.map_toArray, List.map_cons, List.map_nil]; rfl) ?_
  with_reducible refine (HLn.out).mono ?_
  rintro e w3 ⟨rfl, rfl⟩
  refine ⟨_, rfl, ?_⟩
  refine hK.out _ _ (hx3) (fun hHeld => ?_)
  clear hK K
  refine norm_ (a' := ?_) ?_ ?_
  rotate_left
  · show Act.put _ (some 18) _ = _
    simp only [Act.put, List.setIfInBounds_toArray, List.set_cons_zero, List.set_cons_succ]
    rfl
  refine pure_ (i := 7) (N := some 21) (v := ?_) (a' := ?_) #[true, true, true, true, true, true, true, true, false] rfl rfl (by kernel_rfl) (fun _ _ _ h => h) (Or.inl ⟨by rfl, ?_⟩) ?_ ?_
  rotate_left
  · intro w'
    go_simp
    with_reducible rfl
  rotate_left
  · simp only [Act.put, List.setIfInBounds_toArray, List.set_cons_zero, List.set_cons_succ]
    rfl
  refine pure_ (i := 8) (N := some 22) (v := ?_) (a' := ?_) #[true, true, true, true, true, true, true, true, true] rfl rfl (by kernel_rfl) (fun _ _ _ h => h) (Or.inl ⟨by rfl, ?_⟩) ?_ ?_
  rotate_left
  · intro w'
    go_simp
    with_reducible rfl
  rotate_left
  · simp only [Act.put, List.setIfInBounds_toArray, List.set_cons_zero, List.set_cons_succ]
    rfl
  refine done_ (by kernel_rfl) ?_
  clear hHeld
  have HBA : Aside0 (Below w.heap.size w w2.drew) := ⟨below_drew HB2.out⟩
  have HSA : Aside0 (StAt w2.drew B g vl vm vb l (markV [] l) (storeB [] l)) := ⟨HS2.out.below (below_drew (Below.refl _ _))⟩
  have HXA : Aside0 (w2.drew.heap[w.heap.size]? = some (.cells #[.slice A l.length c] 31 (0, 0)) ∧ w2.drew.heap[w.heap.size + 1]? = some (.cells #[.bool false] 4 (0, 0))) := ⟨HB3.out⟩
  have HRA : Aside0 (RowsAt b5 A5 c5 l w2.drew) := ⟨HE.out.1, Kd.C_below HE.out.2.2.1 (below_drew (Below.refl _ _))⟩
  have HCA : Aside0 (Kd.C kT w2.drew A l.length l) := ⟨Kd.C_below HC.out (below_drew HB2.out)⟩
  clear hx3 HLn hnf HE HB2 HS2 HB3 HB1 HS HS1 HC e1
  generalize w2.drew = wA at *
  have HI0 : Aside0 (HI wA 0 (wA.alloc (.cells #[.int .i64 0] 3))) := ⟨heap_alloc_new _ _, bel_alloc (Below.refl _ _) _⟩
  go_wp2_with (fail)
  refine (wpIn_wide (n := 5)).1 (range_all (N := l.length) (R := RowsAt b5 A5 c5 l) (G := RowGood l) rfl (by decide) (gf := 33) (lb := #[.pointer (some ⟨b5, 0, none⟩)]) rfl trivial (enters_of Tryd.func33 (by kernel_rfl) rfl)
    (all1_gives Fence.wide 4 trivial trivial (fun A m c xs W hC hm => callsIn_wide.2 (Clone.clone_calls A m c xs W hC (by omega))) rfl (by decide) b5 A5 c5 l HLl.out _)
    (HI wA) (by rw [World.size_alloc]; exact HI_own wA) (fun args => rowGood_own l _ args) (fun k W h => ⟨(h.2.block _ (blk_lt HRA.out.1)).trans HRA.out.1, Kd.C_below HRA.out.2 h.2⟩) HI0.out (fun k args W h => by obtain ⟨_, _, rfl, _⟩ := h; rfl)
    (fun args => frH g A c l w wA b5 (args.getD 0 undef) (args.getD 1 undef)) ?assign ?body ?done)
  case assign =>
    rintro L k args W K ⟨A1, c1, rfl, _, _⟩ hK
    gi_wp2
    exact hK
  case body =>
    rintro L k args W hI ⟨A1, c1, rfl, hc1, hC1⟩ hk
    have HIk := Aside0.mk hI
    have hc6 : W.cell? ⟨wA.heap.size, 0, none⟩ = some (.int .i64 (k : Int)) := blk_cell hI.1 0
    have hf6 : ∀ nd, (W.drewN nd).frozen? ⟨wA.heap.size, 0, none⟩ = false := fun nd => blk_frozen (w := W.drewN nd) hI.1 0
    have hc3 : W.cell? ⟨w.heap.size, 0, none⟩ = some (.slice A l.length c) := blk_cell ((hI.2.block _ (blk_lt HXA.out.1)).trans HXA.out.1) 0
    obtain ⟨ad, A2, c2, hA, hx2, hl2, hr2⟩ := row_at (Kd.C_below HCA.out hI.2) k hk
    subst hA
    have HBy := Law.bytes_n A1 (l.getD k []).length c1 (l.getD k []) A2 (l.getD k []).length c2 (l.getD k []) W hC1 hr2 true (by simp)
    have hHB := (callsIn_wide (n := 5 - 1 - 1 - 1) |>.2 HBy).inRound L
    have e1 : ((k : Int) != (k : Int)) = false := by simp
    have e2 : decide ((l.length : Int) ≤ (k : Int)) = false := by simp; omega
    have e2N : decide (l.length ≤ k) = false := by simp; omega
    have hwk : IntKind.i64.wrap ((k : Int) + 1) = ((k + 1 : Nat) : Int) := by rw [IntKind.wrap_i64]; omega
    have h12 : Fence.wide.fn 12 := trivial
    clear hI hC1 hr2 hl2 hc1 HBy
    generalize l.getD k [] = row at *
    show Code.wpIn _ _ _ _ _ (frH g (some ad) c l w wA b5 (.int .i64 (k : Int)) (.slice A1 row.length c1)) W
    unfold frH
    gi_wp2_with (gi_at_call 12; refine hHB.mono ?_; rintro e w' ⟨rfl, ⟨nd, rfl⟩⟩; have hf6' := hf6 nd)
    obtain ⟨hkeep, hnext⟩ := HI_step nd HIk.out
    exact ⟨hkeep, hnext⟩
  case done =>
    intro D W hD hI hDf
    rw [World.size_alloc] at hD
    have HD := Aside0.mk hD
    have HI1 := Aside0.mk hI
    have HDf := Aside0.mk hDf
    clear hD hI hDf hHeld HI0
    dsimp only
    go_wp2_with (fail)
    go_loopw [9] (fun v9 wr => ∃ i : Int, -1 ≤ i ∧ i ≤ (l.length : Int) + 1 ∧ v9 = .int .i64 i ∧ Aside0 (wr.heap[D]? = some (.deferred (some [])) ∧ HI wA l.length wr)) (fun v9 _ => ((l.length : Int) + 1 - intOf v9).toNat)
    case atStart => exact ⟨-1, by omega, by omega, rfl, ⟨HDf.out, HI1.out⟩⟩
    case round =>
      obtain ⟨i, hi0, hi1, rfl, HR⟩ := hrel
      have hc3 : wr.cell? ⟨w.heap.size, 0, none⟩ = some (.slice A l.length c) := blk_cell ((HR.out.2.2.block _ (blk_lt HXA.out.1)).trans HXA.out.1) 0
      have hc6 : wr.cell? ⟨wA.heap.size, 0, none⟩ = some (.int .i64 (l.length : Int)) := blk_cell HR.out.2.1 0
      have HSr := Aside0.mk (HSA.out.below HR.out.2.2)
      have hwk : IntKind.i64.wrap (i + 1) = i + 1 := by rw [IntKind.wrap_i64]; omega
      by_cases hend : (l.length : Int) < i
      · have d0 : decide (i ≤ (l.length : Int)) = false := by simp; omega
        have hb4 : wr.heap[w.heap.size + 1]? = some (.cells #[.bool false] 4 (0, 0)) := (HR.out.2.2.block _ (blk_lt HXA.out.2)).trans HXA.out.2
        have hc4 : wr.cell? ⟨w.heap.size + 1, 0, none⟩ = some (.bool false) := blk_cell hb4 0
        have hf4 : wr.frozen? ⟨w.heap.size + 1, 0, none⟩ = false := blk_frozen hb4 0
        have e1 : ((l.length : Int) == (l.length : Int)) = true := by simp
        have HB4 := Aside0.mk hb4
        clear hb4 hend hi0 hi1 HSr hwk
        go_wp2_with (fail)
        have hne : D ≠ w.heap.size + 1 := by have := HD.out; have := blk_lt HXA.out.2; omega
        have hK : (wr.setCell ⟨w.heap.size + 1, 0, none⟩ (.bool true)).heap[D]? = some (.deferred (some [])) :=
          ((grownBy_setCell' wr (w.heap.size + 1) (.bool true)).block D (Array.getElem?_eq_some_iff.1 HR.out.1).1 (fun e => hne (by injection e))).trans HR.out.1
        have hB := ((HBA.out.trans (Below.mono HR.out.2.2 HBA.out.size)).setCell (Nat.le_succ _) (.bool true) : Below w.heap.size w (wr.setCell ⟨w.heap.size + 1, 0, none⟩ (.bool true)))
        have hv : ((wr.setCell ⟨w.heap.size + 1, 0, none⟩ (.bool true)).putObj D (.deferred none)).cell? ⟨w.heap.size + 1, 0, none⟩ = some (.bool true) := by
          have h1 : ((wr.setCell ⟨w.heap.size + 1, 0, none⟩ (.bool true)).putObj D (.deferred none)).heap[w.heap.size + 1]? = some (.cells #[.bool true] 4 (0, 0)) := (World.putObj_heap_other (Ne.symm hne)).trans (blk_set HB4.out 0 _)
          exact blk_cell h1 0
        have hlv := run_loadVar_b (P := Tryd.prog) 4 Tryd.underlying4 hv
        show LeavesInM _ _ _ _ _ _ _ _ _
        refine ⟨by simp, .inl ⟨_, _, rfl, run_takeDeferred hK, ?_⟩⟩
        exact ⟨_, results_c1 Tryd.results17 _ _ _ ⟨w.heap.size + 1, 0, none⟩ (.bool true) rfl hlv, rfl, hB.trans (belowK_b (w := w) (Nat.le_refl _) _ D _ _ (by have := HD.out; have := HBA.out.size; omega) hK rfl rfl)⟩
      · have d0 : decide (i ≤ (l.length : Int)) = true := by simp; omega
        by_cases hneg : i < 0
        · have d1 : decide (i < 0) = true := by simp; omega
          have HG := Aside0.mk (get_none i HSr.out (.inl hneg))
          have HH : Aside0 (i + 1 ≤ (l.length : Int) + 1 ∧ -1 ≤ i + 1 ∧ ((l.length : Int) + 1 - (i + 1)).toNat < ((l.length : Int) + 1 - i).toNat) := ⟨by omega, by omega, by omega⟩
          clear hend hneg hi0 hi1
          go_wp2_with (fail)
          refine HG.out.mono ?_
          rintro e w' ⟨rfl, rfl⟩
          go_wp2_with (fail)
          go_roundw
          case rel => exact ⟨i + 1, HH.out.2.1, HH.out.1, rfl, HR⟩
          case measure => exact HH.out.2.2
        · have d1 : decide (i < 0) = false := by simp; omega
          by_cases hge : (l.length : Int) ≤ i
          · have d2 : decide ((l.length : Int) ≤ i) = true := by simp; omega
            have HG := Aside0.mk (get_none i HSr.out (.inr hge))
            have HH : Aside0 (i + 1 ≤ (l.length : Int) + 1 ∧ -1 ≤ i + 1 ∧ ((l.length : Int) + 1 - (i + 1)).toNat < ((l.length : Int) + 1 - i).toNat) := ⟨by omega, by omega, by omega⟩
            clear hend hneg hi0 hi1 hge
            go_wp2_with (fail)
            refine HG.out.mono ?_
            rintro e w' ⟨rfl, rfl⟩
            go_wp2_with (fail)
            go_roundw
            case rel => exact ⟨i + 1, HH.out.2.1, HH.out.1, rfl, HR⟩
            case measure => exact HH.out.2.2
          · have d2 : decide ((l.length : Int) ≤ i) = false := by simp; omega
            have HH : Aside0 (i + 1 ≤ (l.length : Int) + 1 ∧ -1 ≤ i + 1 ∧ ((l.length : Int) + 1 - (i + 1)).toNat < ((l.length : Int) + 1 - i).toNat) := ⟨by omega, by omega, by omega⟩
            obtain ⟨k, rfl⟩ : ∃ k : Nat, i = (k : Int) := ⟨i.toNat, by omega⟩
            have hk : k < l.length := by omega
            have d2N : decide (l.length ≤ k) = false := by simp; omega
            have d0N : decide (k ≤ l.length) = true := by simp; omega
            obtain ⟨ad, A2, c2, hA, hx2, hl2, hr2⟩ := row_at (Kd.C_below HCA.out HR.out.2.2) k hk
            have hlen : (l.getD k []).length ≤ 100000000 := by
              rw [List.getD_eq_getElem?_getD, List.getElem?_eq_getElem hk]
              exact HLl.out _ (List.getElem_mem hk)
            have HG := Aside0.mk (get_some k HSr.out hk hlen)
            have HX2 := Aside0.mk hx2
            have HR2 := Aside0.mk hr2
            subst hA
            clear hend hneg hi0 hi1 hge hl2 hr2 hx2 hlen
            generalize l.getD k [] = row at *
            go_wp2_with (fail)
            refine HG.out.mono ?_
            rintro e w3 ⟨v, rfl, hRv, hb⟩
            obtain ⟨A3, c3, rfl⟩ := Kd.R_slice hRv
            have hx2 : w3.cell? (ad.add k) = some (.slice A2 row.length c2) := cell_keep hb HX2.out
            have hc3' : w3.cell? ⟨w.heap.size, 0, none⟩ = some (.slice (some ad) l.length c) := cell_keep hb hc3
            have HBy := Aside0.mk (Law.bytes_n A3 row.length c3 row A2 row.length c2 row w3 (Kd.R_reads' hRv).2.2 (Kd.C_below HR2.out hb) true (by simp))
            have HR3 : Aside0 (w3.heap[D]? = some (.deferred (some [])) ∧ HI wA l.length w3) := ⟨(hb.block _ (Array.getElem?_eq_some_iff.1 HR.out.1).1).trans HR.out.1, (hb.block _ (blk_lt HR.out.2.1)).trans HR.out.2.1, below_step HR.out.2.2 hb⟩
            clear hRv hb hc3 hc6
            go_wp2_with (fail)
            refine HBy.out.mono ?_
            rintro e w4 ⟨rfl, ⟨nd, rfl⟩⟩
            have HR4 : Aside0 ((w3.drewN nd).heap[D]? = some (.deferred (some [])) ∧ HI wA l.length (w3.drewN nd)) := ⟨HR3.out.1, HR3.out.2.1, pw_below_drewN HR3.out.2.2 nd⟩
            go_wp2_with (fail)
            go_roundw
            case rel => exact ⟨(k : Int) + 1, HH.out.2.1, HH.out.1, by go_num, HR4⟩
            case measure => exact HH.out.2.2
end Go.Proofs.YtpndobhakmjglaaDoor.Store
namespace Go.Proofs.YtpndobhakmjglaaDoor.Law
open Go.RowKit Go.Proofs.YtpndobhakmjglaaDoorW.PrintWords Go.Proofs.YtpndobhakmjglaaDoorW.PrintLast Go.Proofs.YtpndobhakmjglaaDoorW.PrintMore Go.Proofs.YtpndobhakmjglaaDoor.K
set_option linter.unusedVariables false
set_option maxHeartbeats 1000000 in
theorem pieces_calls (A : Option Addr) (c : Nat) (xs : List (List Int)) (A' : Option Addr) (c' : Nat) (ys : List (List Int)) (w : World) (hx : Kd.C (Kd.slice 5 (Kd.int .u8)) w A xs.length xs) (hy : Kd.C (Kd.slice 5 (Kd.int .u8)) w A' ys.length ys) (b : Bool) (hb : decide (xs = ys) = b) :
    Calls Tryd.prog 16 #[.slice A xs.length c, .slice A' ys.length c'] w fun e w' => e = .returned (.bool b) ∧ Drawn0 w w' := by
  have HX := Aside0.mk hx
  have HY := Aside0.mk hy
  have HBb := Aside0.mk hb
  have hm := hx.2.1
  clear hx hy hb
  by_cases hl : xs.length = ys.length
  · have HL := Aside0.mk hl
    have e1 : ((xs.length : Int) == (ys.length : Int)) = true := by rw [beq_iff_eq]; omega
    have e2 : ((xs.length : Int) != (ys.length : Int)) = false := by rw [bne_eq_false_iff_eq]; omega
    have e3 : (xs.length == ys.length) = true := by rw [beq_iff_eq]; omega
    clear hl
    go_enter Tryd.func16, Tryd.ntmps16
    go_wp2
    go_loopw [5] (fun v5 w' => ∃ k : Nat, k ≤ xs.length ∧ v5 = .int .i64 k ∧ Aside0 (xs.take k = ys.take k) ∧ ∃ n, w' = w.drewN n) (fun v5 _ => xs.length - (intOf v5).toNat)
    case atStart => exact ⟨0, Nat.zero_le _, rfl, ⟨rfl⟩, 0, rfl⟩
    case round =>
      obtain ⟨k, hk, rfl, HE, nd, rfl⟩ := hrel
      clear e1 e2 e3
      by_cases hlt : k < xs.length
      · have hlt' : k < ys.length := by have := HL.out; omega
        obtain ⟨ad, A1, c1, rfl, hx, hl1, hr1⟩ := row_at HX.out k hlt
        obtain ⟨ad', A2, c2, rfl, hy, hl2, hr2⟩ := row_at HY.out k hlt'
        have HR1 := Aside0.mk hr1
        have HR2 := Aside0.mk hr2
        clear hr1 hr2 hl1 hl2
        by_cases he : xs.getD k [] = ys.getD k []
        · have HE' := Aside0.mk (take_eq_step [] k HE.out hlt hlt' he)
          have HQ := Aside0.mk (show decide (xs.getD k [] = ys.getD k []) = true by simp only [he, decide_true])
          clear he
          generalize xs.getD k [] = x at *
          generalize ys.getD k [] = y at *
          go_wp2
          go_quiet ((go_at_call 12; refine (bytes_calls A1 _ x A2 _ y _ (drew_C HR1.out _) (drew_C HR2.out _) true HQ.out).mono ?_; rintro e w' ⟨rfl, ⟨nq, rfl⟩⟩; first | exact ⟨rfl, _, World.drewN_drewN _ _ _⟩ | exact ⟨rfl, _, drewN_add _ _ _ _⟩))
          go_wp2
          go_roundw
          case measure => simp [intOf]; omega
          case rel => exact ⟨k + 1, by omega, by go_num, HE', _, rfl⟩
        · have hbf : b = false := by
            rw [← HBb.out, decide_eq_false_iff_not]
            rintro h
            rw [h] at he
            exact he rfl
          subst hbf
          have HQ := Aside0.mk (show decide (xs.getD k [] = ys.getD k []) = false by rw [decide_eq_false_iff_not]; exact he)
          clear he HBb HE
          generalize xs.getD k [] = x at *
          generalize ys.getD k [] = y at *
          go_wp2
          go_quiet ((go_at_call 12; refine (bytes_calls A1 _ x A2 _ y _ (drew_C HR1.out _) (drew_C HR2.out _) false HQ.out).mono ?_; rintro e w' ⟨rfl, ⟨nq, rfl⟩⟩; first | exact ⟨rfl, _, World.drewN_drewN _ _ _⟩ | exact ⟨rfl, _, drewN_add _ _ _ _⟩))
          go_wp2
          go_ret
          exact ⟨rfl, by first | exact ⟨_, rfl⟩ | exact ⟨_, World.drewN_drewN _ _ _⟩⟩
      · obtain rfl : k = xs.length := by omega
        have hbt : b = true := by
          have h1 := HE.out
          rw [List.take_length, HL.out, List.take_length] at h1
          rw [← HBb.out, h1]
          simp
        subst hbt
        go_wp2
        go_ret
        exact ⟨rfl, by first | exact ⟨_, rfl⟩ | exact ⟨_, World.drewN_drewN _ _ _⟩⟩
  · have hbf : b = false := by
      rw [← HBb.out, decide_eq_false_iff_not]
      rintro rfl
      exact hl rfl
    subst hbf
    have e1 : ((xs.length : Int) == (ys.length : Int)) = false := by rw [beq_eq_false_iff_ne]; omega
    have e2 : ((xs.length : Int) != (ys.length : Int)) = true := by rw [bne_iff_ne]; omega
    have e3 : (xs.length == ys.length) = false := by rw [beq_eq_false_iff_ne]; omega
    clear hl HBb
    go_enter Tryd.func16, Tryd.ntmps16
    go_wp2
    go_ret
    exact ⟨rfl, ⟨0, rfl⟩⟩
theorem pieces_n (A : Option Addr) (n c : Nat) (xs : List (List Int)) (A' : Option Addr) (n' c' : Nat) (ys : List (List Int)) (w : World) (hx : Kd.C (Kd.slice 5 (Kd.int .u8)) w A n xs) (hy : Kd.C (Kd.slice 5 (Kd.int .u8)) w A' n' ys) (b : Bool) (hb : decide (xs = ys) = b) :
    Calls Tryd.prog 16 #[.slice A n c, .slice A' n' c'] w fun e w' => e = .returned (.bool b) ∧ Drawn0 w w' := by
  obtain rfl := hx.1
  obtain rfl := hy.1
  exact pieces_calls A c xs A' c' ys w hx hy b hb
end Go.Proofs.YtpndobhakmjglaaDoor.Law
