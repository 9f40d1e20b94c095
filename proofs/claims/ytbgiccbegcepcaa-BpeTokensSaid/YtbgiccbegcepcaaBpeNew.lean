/- bpe: New. -/
import Derived.Test.YtbgiccbegcepcaaBpeNewP
import Derived.Test.YtbgiccbegcepcaaBpeCl
import Derived.Test.YtbgiccbegcepcaaRegInv
import Derived.Carry
namespace Go.Proofs.Ytbgiccbegcepcaa.Bpe
open Go.RowKit Go.Proofs.YtbgiccbegcepcaaW.PrintWords Go.Proofs.YtbgiccbegcepcaaW.PrintLast Go.Proofs.YtbgiccbegcepcaaW.PrintMore Go.Proofs.Ytbgiccbegcepcaa.K Go.Proofs.Ytbgiccbegcepcaa.Cat
set_option linter.unusedVariables false
set_option linter.unusedSimpArgs false
def loopOf (k : Nat) : List Int := List.replicate k (-1) ++ List.replicate (256 - k) 0
theorem build_cd (A : Option Addr) (m c : Nat) (b : Nat) (n : Int) (w : World) : (Instr.build 60 #[(2, .map (some b)), (3, .slice A m c), (4, .int .i64 n)]).run Try.prog w = .ok (.agg (cdCells (.slice none 0 0) (loopOf 0) b (.slice A m c) n).toArray) w := by kernel_rfl
def NewEnd (w : World) (al : List Int) (prs : List Pr) (e : Ending) (w' : World) : Prop :=
  (newE al prs ≠ 0 → e = .returned (.tuple #[.pointer none, .int .i64 (newE al prs)])) ∧ Below w.heap.size w w' ∧
  (newE al prs = 0 → ∃ g vt vo b, e = .returned (.tuple #[.pointer (some ⟨g, 0, none⟩), .int .i64 0]) ∧ CodAt w' w.heap.size g vt vo b (newT al prs) (ofL al) al.length prs prs)
theorem newEnd_bad {w w' : World} {al : List Int} {prs : List Pr} (m : Int) (hm : m ≠ 0) (h : newE al prs = m) (hb : Below w.heap.size w w') : NewEnd w al prs (.returned (.tuple #[.pointer none, .int .i64 m])) w' :=
  ⟨fun _ => by rw [h], hb, fun h0 => absurd (h.symm.trans h0) hm⟩
set_option maxHeartbeats 4000000 in
set_option maxRecDepth 100000 in
theorem new_size (A : Option Addr) (c : Nat) (al : List Int) (A2 : Option Addr) (c2 : Nat) (prs : List Pr) (w : World) (hm : al.length ≤ 1000000) (hm2 : prs.length ≤ 1000000) (h : al.length = 0 ∨ 512 < al.length + prs.length) :
    Calls Try.prog 11 #[.slice A al.length c, .slice A2 prs.length c2] w (NewEnd w al prs) := by
  have HE : Aside0 (newE al prs = 13) := ⟨if_pos h⟩
  by_cases h0 : al.length = 0
  · have hd : ((al.length : Int) == 0) = true := by simp [h0]
    clear h
    go_enter Try.func11, Try.ntmps11
    go_wp2
    go_ret2
    exact newEnd_bad 13 (by decide) HE.out (Below.refl _ _)
  · have hd : ((al.length : Int) == 0) = false := by simp; exact fun e => h0 (by rw [e]; rfl)
    have hd2 : decide (512 < (al.length : Int) + (prs.length : Int)) = true := by simp; omega
    clear h h0
    go_enter Try.func11, Try.ntmps11
    go_wp2
    go_ret2
    exact newEnd_bad 13 (by decide) HE.out (Below.refl _ _)
theorem loopOf_step (k : Nat) (h : k < 256) : (loopOf k).set k (-1) = loopOf (k + 1) := by
  unfold loopOf
  rw [show 256 - k = (256 - (k + 1)) + 1 by omega, List.replicate_succ, List.set_append_right _ _ (by simp), List.length_replicate, Nat.sub_self, List.set_cons_zero, List.replicate_succ', List.append_assoc]
  rfl
def NLoop (w : World) (g : Nat) (Ao : Option Addr) (co b : Nat) (al : List Int) (prs : List Pr) (k : Nat) (wr : World) : Prop :=
  ∃ (vt : Value) (T : List (List Int)), CodAt wr w.heap.size g vt (.slice Ao prs.length co) b T (ofL al) al.length (prs.take k) prs ∧
    runP prs (singles al) [] = runP (prs.drop k) T (prs.take k) ∧ T.length = al.length + (prs.take k).length ∧ (∀ t ∈ T, t.length ≤ 16) ∧ (∀ q ∈ prs.take k, wfP q) ∧ Below w.heap.size w wr
theorem runP_step (prs : List Pr) (k : Nat) (h : k < prs.length) (T : List (List Int)) :
    runP (prs.drop k) T (prs.take k) = if addE T (prs.take k) (prs.getD k (0, 0)) = 0 then runP (prs.drop (k + 1)) (T ++ [catT T (prs.getD k (0, 0))]) (prs.take (k + 1)) else (addE T (prs.take k) (prs.getD k (0, 0)), T) := by
  rw [List.drop_eq_getElem_cons h, runP, List.take_succ_eq_append_getElem h, List.getD_eq_getElem?_getD, List.getElem?_eq_getElem h]
  rfl
set_option maxHeartbeats 8000000 in
set_option maxRecDepth 100000 in
theorem new_rest (A : Option Addr) (c : Nat) (al : List Int) (A2 : Option Addr) (c2 : Nat) (prs : List Pr) (w : World) (hC : Kd.C (Kd.int .u8) w A al.length al) (hC2 : Kd.C kP w A2 prs.length prs) (hby : ∀ x ∈ al, 0 ≤ x ∧ x < 256) (h0 : ¬ al.length = 0) (h1 : ¬ 512 < al.length + prs.length) :
    Calls Try.prog 11 #[.slice A al.length c, .slice A2 prs.length c2] w (NewEnd w al prs) := by
  have HE0 : Aside0 (newE al prs = if ¬ al.Nodup then 15 else (runP prs (singles al) []).1) := ⟨if_neg (by omega)⟩
  have hd : ((al.length : Int) == 0) = false := by simp; exact fun e => h0 (by rw [e]; rfl)
  have hd2 : decide (512 < (al.length : Int) + (prs.length : Int)) = false := by simp; omega
  have HC := Aside0.mk hC
  have HC2 := Aside0.mk hC2
  have HBy := Aside0.mk hby
  have hm1 : al.length ≤ 512 := by omega
  have hm2 : prs.length ≤ 512 := by omega
  have HS : Aside0 (al.length + prs.length ≤ 512) := ⟨by omega⟩
  clear hC hC2 hby h0 h1
  have hmm := @run_makeMap Try.prog
  have HBm : Aside0 (Below w.heap.size w (w.alloc (.map #[] 0))) := ⟨bel_alloc (Below.refl _ _) _⟩
  have HCl := Aside0.mk (clonep_calls A2 prs.length c2 prs (w.alloc (.map #[] 0)) (Kd.C_below HC2.out HBm.out) (by omega))
  go_enter Try.func11, Try.ntmps11
  go_wp2_with (fail)
  refine HCl.out.mono ?_
  rintro e W1 ⟨vo, rfl, hvo, hb1⟩
  obtain ⟨Ao, co, rfl⟩ := Kd.R_slice hvo
  have HVo := Aside0.mk (Kd.R_lower hvo HBm.out.size)
  have HB1 := Aside0.mk (below_step HBm.out hb1)
  have HM1 : Aside0 (PMap W1 w.heap.size al.length []) := ⟨(PMap.made w al.length).move (hb1.block _ (PMap.made w al.length).lt)⟩
  clear hvo hb1 hmm HCl
  have HAt : Aside0 (CodAt (W1.alloc (.cells (cdCells (.slice none 0 0) (loopOf 0) w.heap.size (.slice Ao prs.length co) (al.length : Int)).toArray 60)) w.heap.size W1.heap.size (.slice none 0 0) (.slice Ao prs.length co) w.heap.size [] (loopOf 0) al.length [] prs) :=
    ⟨HB1.out.size, Nat.le_refl _, by simp [loopOf], heap_alloc_new _ _, Kd.R_nil _ _ _ _ _, HM1.out.move (by
      have := (bel_alloc (Below.refl W1.heap.size W1) (.cells (cdCells (.slice none 0 0) (loopOf 0) w.heap.size (.slice Ao prs.length co) (al.length : Int)).toArray 60)).block _ HM1.out.lt
      exact this), Kd.R_alloc HVo.out _⟩
  have HB2 : Aside0 (Below w.heap.size w (W1.alloc (.cells (cdCells (.slice none 0 0) (loopOf 0) w.heap.size (.slice Ao prs.length co) (al.length : Int)).toArray 60))) := ⟨bel_alloc HB1.out _⟩
  go_wp2_with (first | (refine RI.wpList_build rfl 60 #[(2, .tmp 24), (3, .tmp 26), (4, .tmp 28)] rfl #[(2, .map (some w.heap.size)), (3, .slice Ao prs.length co), (4, .int .i64 (al.length : Int))] ?q1 (.agg (cdCells (.slice none 0 0) (loopOf 0) w.heap.size (.slice Ao prs.length co) (al.length : Int)).toArray) (build_cd _ _ _ _ _ _) ?_))
  generalize W1.alloc (.cells (cdCells (.slice none 0 0) (loopOf 0) w.heap.size (.slice Ao prs.length co) (al.length : Int)).toArray 60) = W2 at *
  generalize Value.agg (cdCells (.slice none 0 0) (loopOf 0) w.heap.size (.slice Ao prs.length co) (al.length : Int)).toArray = vBig
  generalize W1.heap.size = g at *
  obtain ⟨b, hb⟩ : ∃ b, b = w.heap.size := ⟨_, rfl⟩
  have HBb : Aside0 (w.heap.size ≤ w.heap.size) := ⟨Nat.le_refl _⟩
  have HAt : Aside0 (CodAt W2 w.heap.size g (.slice none 0 0) (.slice Ao prs.length co) b [] (loopOf 0) al.length [] prs) := ⟨by rw [hb]; exact HAt.out⟩
  rw [← hb]
  clear hb HM1 HVo HB1 HBm
  go_loopw [31] (fun i wr => ∃ k : Nat, k ≤ 256 ∧ i = .int .i64 (k : Int) ∧ Aside0 (CodAt wr w.heap.size g (.slice none 0 0) (.slice Ao prs.length co) b [] (loopOf k) al.length [] prs ∧ Below w.heap.size w wr)) (fun i _ => 256 - (intOf i).toNat)
  case atStart => exact ⟨0, Nat.zero_le _, rfl, ⟨HAt.out, HB2.out⟩⟩
  case round =>
    clear HAt HB2
    obtain ⟨k, hk, rfl, HO⟩ := hrel
    by_cases hlt : k < 256
    · have hcell := cdof HO.out.1 k hlt
      have hfr : wr.frozen? ⟨g, 1 + k, none⟩ = false := blk_frozen HO.out.1.2.2.2.1 _
      have HS1 : Aside0 (CodAt (wr.setCell ⟨g, 1 + k, none⟩ (.int .i64 (-1))) w.heap.size g (.slice none 0 0) (.slice Ao prs.length co) b [] (loopOf (k + 1)) al.length [] prs) := ⟨by
        have := HO.out.1.setOf k hlt (-1)
        rwa [loopOf_step k hlt] at this⟩
      have HB3 : Aside0 (Below w.heap.size w (wr.setCell ⟨g, 1 + k, none⟩ (.int .i64 (-1)))) := ⟨HO.out.2.setCell HO.out.1.1 _⟩
      go_wp2
      go_roundw
      case rel => exact ⟨k + 1, by omega, by go_num, ⟨HS1.out, HB3.out⟩⟩
      case measure => simp [intOf]; omega
    · have hk2 : (k : Int) = 256 := by omega
      rw [hk2]
      clear hk2
      obtain rfl : k = 256 := by omega
      have HO2 : Aside0 (∃ vt, CodAt wr w.heap.size g vt (.slice Ao prs.length co) b (singles (al.take 0)) (ofL (al.take 0)) al.length [] prs ∧ (al.take 0).Nodup ∧ Below w.heap.size w wr) := ⟨_, by
        have h := HO.out.1
        rw [show loopOf 256 = ofL (al.take 0) by rw [List.take_zero, ofL_nil]; simp [loopOf]] at h
        exact h, by simp, HO.out.2⟩
      clear HO hlt hk
      generalize wr = wr0 at *
      go_wp2
      go_loopw [42] (fun i wr => ∃ k : Nat, k ≤ al.length ∧ i = .int .i64 (k : Int) ∧ Aside0 (∃ vt, CodAt wr w.heap.size g vt (.slice Ao prs.length co) b (singles (al.take k)) (ofL (al.take k)) al.length [] prs ∧ (al.take k).Nodup ∧ Below w.heap.size w wr)) (fun i _ => al.length - (intOf i).toNat)
      case atStart => exact ⟨0, Nat.zero_le _, rfl, HO2⟩
      case round =>
        clear HO2
        obtain ⟨k, hk, rfl, HO⟩ := hrel
        obtain ⟨vt, hH, hN, hB⟩ := HO.out
        clear HO
        have HH := Aside0.mk hH
        have HN := Aside0.mk hN
        have HB := Aside0.mk hB
        clear hH hN hB
        by_cases hlt : k < al.length
        · obtain ⟨ad, rfl, hcell⟩ := int_at' HC.out HB.out k hlt
          have HX : Aside0 (al.getD k 0 ∈ al) := ⟨by
            rw [List.getD_eq_getElem?_getD, List.getElem?_eq_getElem hlt]; exact List.getElem_mem hlt⟩
          obtain ⟨m, hm⟩ : ∃ m : Nat, al.getD k 0 = (m : Int) := ⟨(al.getD k 0).toNat, by have := HBy.out _ HX.out; omega⟩
          have hmb : m < 256 := by have := HBy.out _ HX.out; omega
          have HNs := Aside0.mk (nodup_snoc hlt)
          have HSt := Aside0.mk (singles_take al k hlt)
          have HTk : Aside0 (al.take (k + 1) = al.take k ++ [(m : Int)]) := ⟨by
            rw [List.take_succ_eq_append_getElem hlt, ← hm, List.getD_eq_getElem?_getD, List.getElem?_eq_getElem hlt]; rfl⟩
          have HTl : Aside0 ((al.take k).length = k) := ⟨by rw [List.length_take]; omega⟩
          rw [hm] at hcell HNs HSt
          clear hm HX
          have hof := cdof HH.out m hmb
          rw [ofL_get _ _ hmb] at hof
          by_cases hin : (m : Int) ∈ al.take k
          · have HE : Aside0 (newE al prs = 15) := ⟨by rw [HE0.out, if_pos (nodup_of_take (k := k + 1) (fun h => (HNs.out.1 h).2 hin))]⟩
            have hd3 : (tokOf (al.take k) (m : Int) != -1) = true := by
              rw [bne_iff_ne]; exact fun e => tokOf_none.1 e hin
            clear hin
            generalize tokOf (al.take k) (m : Int) = tk at *
            go_wp2
            go_ret2
            exact newEnd_bad 15 (by decide) HE.out HB.out
          · have hd3 : (tokOf (al.take k) (m : Int) != -1) = false := by
              rw [tokOf_none.2 hin]; rfl
            have HNk : Aside0 ((al.take (k + 1)).Nodup) := ⟨HNs.out.2 ⟨HN.out, hin⟩⟩
            have HS1 : Aside0 (CodAt (wr.setCell ⟨g, 1 + m, none⟩ (.int .i64 (k : Int))) w.heap.size g vt (.slice Ao prs.length co) b (singles (al.take k)) (ofL (al.take (k + 1))) al.length [] prs) := ⟨by
              have h := HH.out.setOf m hmb (k : Int)
              rw [HTk.out, ← ofL_snoc _ m hmb hin, HTl.out]
              exact h⟩
            have HB3 : Aside0 (Below w.heap.size w (wr.setCell ⟨g, 1 + m, none⟩ (.int .i64 (k : Int)))) := ⟨HB.out.setCell HH.out.1 _⟩
            have hfr : wr.frozen? ⟨g, 1 + m, none⟩ = false := blk_frozen HH.out.2.2.2.1 _
            clear hin
            generalize tokOf (al.take k) (m : Int) = tk at *
            obtain ⟨Av, cv, rfl⟩ := Kd.R_slice HS1.out.2.2.2.2.1
            have h0 := cd0 HS1.out
            have f0 := cd0f HS1.out
            have HM : Aside0 (kT.M ((wr.setCell ⟨g, 1 + m, none⟩ (.int .i64 (k : Int))).alloc (.cells #[.int .u8 (m : Int)] 5)) w.heap.size (fun k' => True ∧ some k' ≠ (Value.slice Av (singles (al.take k)).length cv).ownBlock) [(m : Int)] [.slice (some ⟨wr.heap.size, 0, none⟩) 1 1]) := ⟨by
              have hl : Kd.R (Kd.int .u8) 5 ((wr.setCell ⟨g, 1 + m, none⟩ (.int .i64 (k : Int))).alloc (.cells (nums .u8 [(m : Int)]).toArray 5)) (wr.setCell ⟨g, 1 + m, none⟩ (.int .i64 (k : Int))).heap.size (fun _ => True) (.slice (some ⟨(wr.setCell ⟨g, 1 + m, none⟩ (.int .i64 (k : Int))).heap.size, 0, none⟩) 1 1) [(m : Int)] := R_int (own_lit (wr.setCell ⟨g, 1 + m, none⟩ (.int .i64 (k : Int))) (wr.setCell ⟨g, 1 + m, none⟩ (.int .i64 (k : Int))).heap.size 5 .u8 [(m : Int)] (Nat.le_refl _) (show 1 ≤ 9223372036854775807 by decide))
              have hr := Kd.M_row (Kd.R_lower (Kd.R_new' hl (Kd.R_lt HS1.out.2.2.2.2.1)) HB3.out.size)
              rw [World.size_setCell] at hr
              exact hr⟩
            have HR : Aside0 (kT.R 22 ((wr.setCell ⟨g, 1 + m, none⟩ (.int .i64 (k : Int))).alloc (.cells #[.int .u8 (m : Int)] 5)) w.heap.size (fun _ => True) (.slice Av (singles (al.take k)).length cv) (singles (al.take k))) := ⟨Kd.R_alloc HS1.out.2.2.2.2.1 _⟩
            have HB4 : Aside0 (Below w.heap.size w ((wr.setCell ⟨g, 1 + m, none⟩ (.int .i64 (k : Int))).alloc (.cells #[.int .u8 (m : Int)] 5))) := ⟨bel_alloc HB3.out _⟩
            have HS2 : Aside0 (CodAt ((wr.setCell ⟨g, 1 + m, none⟩ (.int .i64 (k : Int))).alloc (.cells #[.int .u8 (m : Int)] 5)) w.heap.size g (.slice Av (singles (al.take k)).length cv) (.slice Ao prs.length co) b (singles (al.take k)) (ofL (al.take (k + 1))) al.length [] prs) := ⟨HS1.out.below (bel_alloc (Below.refl _ _) _)⟩
            have HSz : Aside0 (((wr.setCell ⟨g, 1 + m, none⟩ (.int .i64 (k : Int))).alloc (.cells #[.int .u8 (m : Int)] 5)).heap.size = wr.heap.size + 1) := ⟨by simp only [World.alloc, Array.size_push]; rw [World.size_setCell]⟩
            have HLn : Aside0 (((singles (al.take k)).length + 1) * 24 ≤ 140737488355328) := ⟨by have h := HTl.out; simp only [singles, List.length_map]; omega⟩
            go_wp2_with (at_builtin; refine Kd.R_append kT (w0 := w) (W := (wr.setCell ⟨g, 1 + m, none⟩ (.int .i64 (k : Int))).alloc (.cells #[.int .u8 (m : Int)] 5)) w.heap.size rfl (.tmp 64) (.tmp 67) 57 22 (.slice none 0 0) 24 rfl Try.underlying57 info_bs rfl (by decide) (by decide) (.slice Av (singles (al.take k)).length cv) (singles (al.take k)) [(m : Int)] [.slice (some ⟨wr.heap.size, 0, none⟩) 1 1] (fun _ => True) (fun k' => True ∧ some k' ≠ (Value.slice Av (singles (al.take k)).length cv).ownBlock) rfl (by rw [HSz.out]; rfl) HM.out (fun k hk => hk) (fun _ _ => trivial) HR.out HB4.out HB4.out.size HLn.out ?_; intro v1 W7 ho hb hg hat; obtain ⟨A1, c1, rfl⟩ := Kd.R_slice ho; have HLd := Aside0.mk (HS2.out.laid hg ho); have HB9 := Aside0.mk hb; have h07 : W7.cell? ⟨g, 0, none⟩ = some (.slice Av (singles (al.take k)).length cv) := blk_cell HLd.out.1 0; have f07 : W7.frozen? ⟨g, 0, none⟩ = false := blk_frozen HLd.out.1 0; clear ho hb hg hat)
            go_roundw
            case rel => exact ⟨k + 1, by omega, by go_num, ⟨⟨_, by
              have h := HLd.out.2
              rw [List.length_append, List.length_singleton] at h
              rw [HSt.out]
              exact h, HNk.out, HB9.out.setCell HLd.out.2.1 _⟩⟩⟩
            case measure => simp [intOf]; omega
        · obtain rfl : k = al.length := by omega
          have HTa : Aside0 (al.take al.length = al) := ⟨List.take_of_length_le (Nat.le_refl _)⟩
          rw [HTa.out] at HH HN
          have HE : Aside0 (newE al prs = (runP prs (singles al) []).1) := ⟨by rw [HE0.out, if_neg (not_not_intro HN.out)]⟩
          have HO3 : Aside0 (NLoop w g Ao co b al prs 0 wr) := ⟨⟨vt, singles al, HH.out, rfl, by simp [singles], by simp [singles], by simp, HB.out⟩⟩
          clear HH HB HE0 HN HTa hlt hk
          generalize wr = wr0 at *
          go_wp2
          go_loopw [74] (fun i wr => ∃ k : Nat, k ≤ prs.length ∧ i = .int .i64 (k : Int) ∧ Aside0 (NLoop w g Ao co b al prs k wr)) (fun i _ => prs.length - (intOf i).toNat)
          case atStart => exact ⟨0, Nat.zero_le _, rfl, HO3⟩
          case round =>
            clear HO3
            obtain ⟨k, hk, rfl, HO⟩ := hrel
            obtain ⟨vt, T, hH, hr, hl, h16, hwf, hB⟩ := HO.out
            clear HO
            have HH := Aside0.mk hH
            have HR := Aside0.mk hr
            have HL := Aside0.mk hl
            have H16 := Aside0.mk h16
            have HWf := Aside0.mk hwf
            have HB := Aside0.mk hB
            clear hH hr hl h16 hwf hB
            by_cases hlt : k < prs.length
            · obtain ⟨ad2, rfl, hx, hy⟩ := pair_at (Kd.C_below HC2.out HB.out) k hlt
              have HStep := Aside0.mk (runP_step prs k hlt T)
              have HTl : Aside0 ((prs.take k).length = k) := ⟨by rw [List.length_take]; omega⟩
              have HTk : Aside0 (prs.take (k + 1) = prs.take k ++ [prs.getD k (0, 0)]) := ⟨by
                rw [List.take_succ_eq_append_getElem hlt, List.getD_eq_getElem?_getD, List.getElem?_eq_getElem hlt]; rfl⟩
              obtain ⟨p, hp⟩ : ∃ p, p = prs.getD k (0, 0) := ⟨_, rfl⟩
              rw [← hp] at hx hy HStep HTk
              clear hp
              obtain ⟨x, y⟩ := p
              have HB3 : Aside0 (Below w.heap.size w (wr.alloc (.cells #[.int .i64 x, .int .i64 y] 44))) := ⟨bel_alloc HB.out _⟩
              have HH3 := Aside0.mk (HH.out.below (bel_alloc (Below.refl _ _) (.cells #[.int .i64 x, .int .i64 y] 44)))
              go_wp2_with (fail)
              refine (add_calls x y HH3.out HB3.out.size (by have := HL.out; have := HTl.out; have := HS.out; omega) HWf.out (by have := HL.out; omega) (Int.natCast_nonneg _) H16.out).mono ?_
              rintro e W4 ⟨rfl, hb4, hok⟩
              have HB4 : Aside0 (Below w.heap.size w W4) := ⟨HB3.out.trans hb4⟩
              have HOk := Aside0.mk hok
              have HWx : Aside0 (addE T (prs.take k) (x, y) = 0 → wfP (x, y) ∧ (catT T (x, y)).length ≤ 16) := ⟨fun h => ⟨addE_wf h (by have := HL.out; have := HTl.out; have := HS.out; omega), addE_cat h⟩⟩
              clear hb4 hok hx hy
              generalize addE T (prs.take k) (x, y) = z at *
              by_cases hz : z = 0
              · subst hz
                obtain ⟨vt', hH4⟩ := HOk.out rfl
                have HN4 : Aside0 (NLoop w g Ao co b al prs (k + 1) W4) := ⟨⟨vt', T ++ [catT T (x, y)], by rw [HTk.out]; exact hH4, by rw [HR.out, HStep.out, if_pos rfl], by rw [HTk.out, List.length_append, List.length_append, HL.out]; simp [Nat.add_assoc], fun t ht => by
                  rcases List.mem_append.1 ht with h | h
                  · exact H16.out t h
                  · rw [List.mem_singleton.1 h]; exact (HWx.out rfl).2, fun q hq => by
                  rw [HTk.out] at hq
                  rcases List.mem_append.1 hq with h | h
                  · exact HWf.out q h
                  · rw [List.mem_singleton.1 h]; exact (HWx.out rfl).1, HB4.out⟩⟩
                clear hH4
                go_wp2
                go_roundw
                case rel => exact ⟨k + 1, by omega, by go_num, HN4⟩
                case measure => simp [intOf]; omega
              · have hzd : (z != 0) = true := by simpa using hz
                have HE2 : Aside0 (newE al prs = z) := ⟨by rw [HE.out, HR.out, HStep.out, if_neg hz]⟩
                have HZ := Aside0.mk hz
                clear hz
                go_wp2
                go_ret2
                exact newEnd_bad z HZ.out HE2.out HB4.out
            · obtain rfl : k = prs.length := by omega
              have HTa : Aside0 (prs.take prs.length = prs) := ⟨List.take_of_length_le (Nat.le_refl _)⟩
              have HRe : Aside0 (runP prs (singles al) [] = (0, T)) := ⟨by rw [HR.out, List.drop_eq_nil_of_le (Nat.le_refl _)]; rfl⟩
              rw [HTa.out] at HH
              go_wp2
              go_ret2
              refine ⟨fun h => absurd (by rw [HE.out, HRe.out]) h, HB.out, fun _ => ⟨g, vt, .slice Ao prs.length co, b, rfl, ?_⟩⟩
              rw [show newT al prs = T by unfold newT; rw [HRe.out]]
              exact HH.out
theorem new_calls (A : Option Addr) (c : Nat) (al : List Int) (A2 : Option Addr) (c2 : Nat) (prs : List Pr) (w : World) (hC : Kd.C (Kd.int .u8) w A al.length al) (hC2 : Kd.C kP w A2 prs.length prs) (hby : ∀ x ∈ al, 0 ≤ x ∧ x < 256) (hm : al.length ≤ 1000000) (hm2 : prs.length ≤ 1000000) :
    Calls Try.prog 11 #[.slice A al.length c, .slice A2 prs.length c2] w (NewEnd w al prs) := by
  by_cases h : al.length = 0 ∨ 512 < al.length + prs.length
  · exact new_size A c al A2 c2 prs w hm hm2 h
  · exact new_rest A c al A2 c2 prs w hC hC2 hby (fun h0 => h (.inl h0)) (fun h1 => h (.inr h1))
end Go.Proofs.Ytbgiccbegcepcaa.Bpe
