/- cupellaw01.ShaPieces: it does not count in which pieces bytes are taken. -/
import Derived.Test.YtlgljlgbnjjieaaDoorShaHolds
namespace Go.Proofs.YtlgljlgbnjjieaaDoor.Sha
open Go.RowKit Go.Proofs.YtlgljlgbnjjieaaDoorW.PrintWords Go.Proofs.YtlgljlgbnjjieaaDoorW.PrintLast Go.Proofs.YtlgljlgbnjjieaaDoorW.PrintMore Go.Proofs.YtlgljlgbnjjieaaDoor.K
set_option linter.unusedVariables false
def flatL (ls : List (List Int)) (k : Nat) : List Int := (ls.take k).flatten
theorem flatL_succ (ls : List (List Int)) (k : Nat) (h : k < ls.length) : flatL ls (k + 1) = flatL ls k ++ ls.getD k [] := by
  unfold flatL
  rw [List.take_succ_eq_append_getElem h, List.flatten_append]
  simp [List.getElem?_eq_getElem h]
theorem flatL_byte {ls : List (List Int)} (h : ∀ x ∈ ls, ∀ y ∈ x, 0 ≤ y ∧ y < 256) (k : Nat) : ∀ y ∈ flatL ls k, 0 ≤ y ∧ y < 256 := by
  intro y hy
  obtain ⟨x, hx, hy⟩ := List.mem_flatten.1 hy
  exact h x (List.mem_of_mem_take hx) y hy
theorem getD_byte {ls : List (List Int)} (h : ∀ x ∈ ls, ∀ y ∈ x, 0 ≤ y ∧ y < 256) (k : Nat) (hk : k < ls.length) : ∀ y ∈ ls.getD k [], 0 ≤ y ∧ y < 256 := by
  rw [List.getD_eq_getElem?_getD, List.getElem?_eq_getElem hk]
  exact h _ (List.getElem_mem hk)
def PW (w : World) (ls : List (List Int)) (g : Nat) (k : Nat) (v4 : Value) (wr : World) : Prop :=
  ∃ vr, Holds wr w.heap.size g vr (flatL ls k) ∧ Kd.R (Kd.int .u8) 5 wr w.heap.size (fun _ => True) v4 (flatL ls k) ∧ (∀ j, v4.ownBlock = some j → some j ≠ vr.ownBlock) ∧ (flatL ls k).length ≤ 200 * k ∧ Below w.heap.size w wr
set_option maxHeartbeats 4000000 in
set_option maxRecDepth 100000 in
theorem pieces_calls (A : Option Addr) (n c : Nat) (ls : List (List Int)) (w : World) (hl : Kd.C (Kd.slice 5 (Kd.int .u8)) w A n ls) (hby : ∀ x ∈ ls, ∀ y ∈ x, 0 ≤ y ∧ y < 256)
    (hLf : LaidAt w 0 firstA) (hL : LaidAt w 1 constA) :
    Calls Tryd.prog 4 #[.slice A n c] w fun e w' => e = .returned (.bool true) ∧ Below w.heap.size w w' := by
  obtain rfl := hl.1
  have HC := Aside0.mk hl
  have HBy := Aside0.mk hby
  have HLf := Aside0.mk hLf
  have HL := Aside0.mk hL
  have HG : Aside0 (1 < w.heap.size) := ⟨by obtain ⟨_, _, h⟩ := hL; exact blk_lt h⟩
  have hm := hl.2.1
  clear hLf hL hl hby
  by_cases hgt : 20 < ls.length
  · have hgtD : decide (20 < (ls.length : Int)) = true := by simp; omega
    go_enter Tryd.func4, Tryd.ntmps4
    go_wp2_with (fail)
    refine (awake_calls w HLf.out HL.out).mono ?_
    rintro e w1 ⟨rfl, hb⟩
    have HB := Aside0.mk hb
    clear hb
    go_wp2_with (fail)
    go_ret
    exact ⟨rfl, HB.out⟩
  · have hgtD : decide (20 < (ls.length : Int)) = false := by simp; omega
    have h20 : ls.length ≤ 20 := by omega
    clear hgt
    go_enter Tryd.func4, Tryd.ntmps4
    go_wp2_with (fail)
    refine (hnew_calls w w.heap.size (Nat.le_refl _) HLf.out).mono ?_
    rintro e w1 ⟨rfl, hH1, hb1, hs1⟩
    have HI : Aside0 (PW w ls w.heap.size 0 (.slice none 0 0) w1) := ⟨_, hH1, Kd.R_nil _ _ _ _ _, (fun j hj => by simp [Value.ownBlock] at hj), by simp [flatL], hb1⟩
    clear hH1 hb1 hs1
    generalize hg : w.heap.size = g at *
    have HGg := Aside0.mk hg
    clear hg
    go_wp2_with (fail)
    go_loopw [4, 5] (fun v4 v5 wr => ∃ k : Nat, k ≤ ls.length ∧ v5 = .int .i64 k ∧ Aside0 (PW w ls g k v4 wr)) (fun _ v5 _ => ls.length - (intOf v5).toNat)
    case atStart => exact ⟨0, Nat.zero_le _, rfl, HI⟩
    case round =>
      obtain ⟨k, hk, rfl, HP⟩ := hrel
      clear HI
      by_cases hlt : k < ls.length
      · obtain ⟨ad, A1, c1, rfl, hx, hl1, hr1⟩ := row_get HC.out k hlt
        obtain ⟨vr, hH, hR, hne, hlen, hB⟩ := HP.out
        obtain ⟨A4, c4, rfl⟩ := Kd.R_slice hR
        have HX := Aside0.mk hx
        have HH := Aside0.mk hH
        have HR := Aside0.mk hR
        have HNe := Aside0.mk hne
        have HLen := Aside0.mk hlen
        have HB := Aside0.mk hB
        have HC1 := Aside0.mk hr1
        have HFs := Aside0.mk (flatL_succ ls k hlt)
        have HFb := Aside0.mk (flatL_byte HBy.out k)
        have HXb := Aside0.mk (getD_byte HBy.out k hlt)
        have hcell := hx wr hB
        clear hx hH hR hne hlen hB hr1 HP
        generalize ls.getD k [] = x at *
        by_cases hbig : 200 < x.length
        · have hbigD : decide (200 < (x.length : Int)) = true := by simp; omega
          go_wp2_with (fail)
          refine (awake_calls wr (HLf.out.below HB.out) (HL.out.below HB.out)).mono ?_
          rintro e w1 ⟨rfl, hb⟩
          have HBx := Aside0.mk (below_step HB.out hb)
          clear hb
          go_wp2_with (fail)
          go_ret
          exact ⟨rfl, HBx.out⟩
        · have hbigD : decide (200 < (x.length : Int)) = false := by simp; omega
          generalize hF : flatL ls k = F at *
          have HF := Aside0.mk hF
          clear hF
          have hx200 : x.length ≤ 200 := by omega
          clear hbig
          go_wp2_with (fail)
          refine (hwrite_calls w.heap.size g vr F A1 x.length c1 x wr HH.out HB.out.size (Kd.C_below HC1.out HB.out) HFb.out HXb.out (by have := HLen.out; omega) (by rw [HGg.out]; exact HG.out) (HL.out.below HB.out)).mono ?_
          intro e w1 hw1
          obtain ⟨rfl, v1, hH1, hat1, hK1, hb1⟩ := hw1
          have HH1 := Aside0.mk hH1
          have HB1 : Aside0 (Below w.heap.size w w1) := ⟨HB.out.trans hb1⟩
          have HR1 := Aside0.mk (R_beside HH.out HR.out HNe.out hK1)
          have HNe1 := Aside0.mk (apart_write HNe.out (R_lt HR.out) hat1)
          have hcell1 := HX.out w1 HB1.out
          clear hH1 hat1 hK1 hb1 HH HR HNe hcell
          go_wp2_with (at_builtin; refine print_append_row (w0 := w) w.heap.size rfl (.tmp 32) (.tmp 36) 22 5 .u8 1 rfl Tryd.underlying22 info_u8 (by decide) (.slice A4 F.length c4) F x A1 x.length c1 rfl rfl (own_int HR1.out) (reads_int (Kd.C_below HC1.out HB1.out)) HB1.out HB1.out.size (by have := HLen.out; omega) ?_; intro v2 w2 ho2 hb2 hg2 hat2; have HR2 := Aside0.mk (R_int ho2); have HB2 := Aside0.mk hb2; have HH2 := Aside0.mk (HH1.out.beside HR1.out HNe1.out hg2); have HNe2 := Aside0.mk (apart_append HNe1.out HH1.out.lt hat2); clear ho2 hb2 hg2 hat2; obtain ⟨A2, c2, rfl⟩ := Kd.R_slice HR2.out)
          have HFx : Aside0 (∀ y ∈ F ++ x, 0 ≤ y ∧ y < 256) := ⟨fun y hy => (List.mem_append.1 hy).elim (HFb.out y) (HXb.out y)⟩
          have HFl : Aside0 ((F ++ x).length = F.length + x.length) := ⟨List.length_append⟩
          have HFm : Aside0 ((F ++ x).length ≤ 4000) := ⟨by have := HLen.out; have := HFl.out; omega⟩
          have HRd := Aside0.mk (Kd.R_reads' HR2.out).2.2
          have e1 : (((F ++ x).length : Int) != ((F.length : Int) + (x.length : Int))) = false := by rw [bne_eq_false_iff_eq, HFl.out]; omega
          have e2 := neq_same (shaV_length (F ++ x))
          refine (holds_len_calls w.heap.size g v1 (F ++ x) w2 HH2.out).mono ?_
          rintro e w3 ⟨rfl, rfl⟩
          go_wp2_with (fail)
          refine (holds_sum_calls w.heap.size g v1 (F ++ x) w2 HH2.out HB2.out.size HFx.out (by have := HFm.out; omega) (by rw [HGg.out]; exact HG.out) (HL.out.below HB2.out)).mono ?_
          rintro e w3 ⟨rfl, hb3⟩
          have HH3 := Aside0.mk (HashAt.below HH2.out hb3)
          have HB3 := Aside0.mk (below_step HB2.out hb3)
          have HR3 := Aside0.mk (Kd.R_below HR2.out hb3)
          clear hb3
          go_wp2_with (fail)
          refine (sum_calls A2 (F.length + x.length) c2 (F ++ x) w3 (by rw [← HFl.out]; exact (Kd.R_reads' HR3.out).2.2) HFx.out (by have := HFm.out; have := HFl.out; omega) (HLf.out.below HB3.out) (HL.out.below HB3.out)).mono ?_
          rintro e w4 ⟨rfl, hb4⟩
          have HH4 := Aside0.mk (HashAt.below HH3.out hb4)
          have HB4 := Aside0.mk (below_step HB3.out hb4)
          have HR4 := Aside0.mk (Kd.R_below HR3.out hb4)
          clear hb4
          go_wp2_with (fail)
          refine (holds_sum_calls w.heap.size g v1 (F ++ x) w4 HH4.out HB4.out.size HFx.out (by have := HFm.out; omega) (by rw [HGg.out]; exact HG.out) (HL.out.below HB4.out)).mono ?_
          rintro e w5 ⟨rfl, hb5⟩
          have HH5 := Aside0.mk (HashAt.below HH4.out hb5)
          have HB5 := Aside0.mk (below_step HB4.out hb5)
          have HR5 := Aside0.mk (Kd.R_below HR4.out hb5)
          clear hb5
          go_wp2_with (fail)
          refine (holds_sum_calls w.heap.size g v1 (F ++ x) w5 HH5.out HB5.out.size HFx.out (by have := HFm.out; omega) (by rw [HGg.out]; exact HG.out) (HL.out.below HB5.out)).mono ?_
          rintro e w6 ⟨rfl, hb6⟩
          have HP6 : Aside0 (Holds w6 w.heap.size g v1 (F ++ x) ∧ Kd.R (Kd.int .u8) 5 w6 w.heap.size (fun _ => True) (.slice A2 (F ++ x).length c2) (F ++ x) ∧ Below w.heap.size w w6) := ⟨HashAt.below HH5.out hb6, Kd.R_below HR5.out hb6, below_step HB5.out hb6⟩
          clear hb6
          go_wp2_with (fail)
          rw [HFl.out] at HP6
          go_roundw
          case measure => simp [intOf]; omega
          case rel => exact ⟨k + 1, by omega, by go_num, ⟨v1, by rw [HFs.out]; exact HP6.out.1, by rw [HFs.out]; exact HP6.out.2.1, by have h1 := HNe2.out; rw [HFl.out] at h1; exact h1, by rw [HFs.out, HFl.out]; have := HLen.out; omega, HP6.out.2.2⟩⟩
      · obtain rfl : k = ls.length := by omega
        obtain ⟨vr, hH, hR, hne, hlen, hB⟩ := HP.out
        obtain ⟨A4, c4, rfl⟩ := Kd.R_slice hR
        have HH := Aside0.mk hH
        have HR := Aside0.mk hR
        have HLen := Aside0.mk hlen
        have HB := Aside0.mk hB
        have HFb := Aside0.mk (flatL_byte HBy.out ls.length)
        clear hH hR hne hlen hB HP
        generalize flatL ls ls.length = F at *
        have e2 := eql_same (shaV_length F)
        go_wp2_with (fail)
        refine (holds_sum_calls w.heap.size g vr F wr HH.out HB.out.size HFb.out (by have := HLen.out; omega) (by rw [HGg.out]; exact HG.out) (HL.out.below HB.out)).mono ?_
        rintro e w3 ⟨rfl, hb3⟩
        have HB3 := Aside0.mk (below_step HB.out hb3)
        have HR3 := Aside0.mk (Kd.R_below HR.out hb3)
        clear hb3
        go_wp2_with (fail)
        refine (sum_calls A4 F.length c4 F w3 (Kd.R_reads' HR3.out).2.2 HFb.out (by have := HLen.out; omega) (HLf.out.below HB3.out) (HL.out.below HB3.out)).mono ?_
        rintro e w4 ⟨rfl, hb4⟩
        have HB4 := Aside0.mk (below_step HB3.out hb4)
        clear hb4
        go_wp2_with (fail)
        refine (awake_calls w4 (HLf.out.below HB4.out) (HL.out.below HB4.out)).mono ?_
        rintro e w5 ⟨rfl, hb5⟩
        have HB5 := Aside0.mk (below_step HB4.out hb5)
        clear hb5
        go_wp2_with (fail)
        go_ret
        exact ⟨rfl, HB5.out⟩
end Go.Proofs.YtlgljlgbnjjieaaDoor.Sha
