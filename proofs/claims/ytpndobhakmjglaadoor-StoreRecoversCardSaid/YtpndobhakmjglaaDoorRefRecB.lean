/- store: the reference's Recover. -/
import Derived.Test.YtpndobhakmjglaaDoorRefSealB
import Derived.Test.YtpndobhakmjglaaDoorRefBeginsB
namespace Go.Proofs.YtpndobhakmjglaaDoor.Store
open Go.RowKit Go.Proofs.YtpndobhakmjglaaDoorW.PrintWords Go.Proofs.YtpndobhakmjglaaDoorW.PrintLast Go.Proofs.YtpndobhakmjglaaDoorW.PrintMore Go.Proofs.YtpndobhakmjglaaDoor.K Go.Proofs.YtpndobhakmjglaaDoor.Sha
set_option linter.unusedVariables false
set_option linter.unusedSimpArgs false
def RRecEnd (w : World) (b : List Int) (e : Ending) (w' : World) : Prop :=
  ∃ A c, ∃ k : Nat, e = .returned (.tuple #[.slice A (recV [] b).1.length c, .int .i64 (k : Int)]) ∧ Kd.C kT w' A (recV [] b).1.length (recV [] b).1 ∧ (recV [] b).2 = b.drop k ∧ k ≤ b.length ∧ Below w.heap.size w w'
theorem rrecEnd_of {w w' : World} {b : List Int} {v : Value} {rs : List (List Int)} {k : Nat} {e : Ending} (he : e = .returned (.tuple #[v, .int .i64 (k : Int)])) (hR : Kd.R (Kd.fixed kT w) 22 w' w.heap.size (fun _ => True) v rs) (hE : recV [] b = (rs ++ (recV (markV [] rs) (b.drop k)).1, (recV (markV [] rs) (b.drop k)).2)) (hno : recOk (markV [] rs) (b.drop k) = false) (hk : k ≤ b.length) (hb : Below w.heap.size w w') : RRecEnd w b e w' := by
  rw [recV_no hno, List.append_nil] at hE
  obtain ⟨A', c', rfl, hl, hC⟩ := Kd.R_reads hR
  unfold RRecEnd
  rw [hE]
  exact ⟨A', c', k, he, C_unfix hb hC, rfl, hk, hb⟩
set_option maxHeartbeats 100000000 in
set_option maxRecDepth 100000 in
theorem rrec_calls (A : Option Addr) (c : Nat) (b0 : List Int) (w : World) (hr0 : Kd.C (Kd.int .u8) w A b0.length b0) (hc : b0.length ≤ c) (hb : ∀ x ∈ b0, 0 ≤ x ∧ x < 256) (hlim : b0.length ≤ 500) :
    Calls Tryd.prog 19 #[.slice A b0.length c] w (RRecEnd w b0) := by
  have HC := Aside0.mk hr0
  have HBy := Aside0.mk hb
  have HLim := Aside0.mk hlim
  have HCc := Aside0.mk hc
  clear hr0 hb hlim hc
  go_enter Tryd.func19, Tryd.ntmps19
  go_wp2
  go_loopw [4, 5, 6] (fun v4 v5 v6 w' => ∃ (k : Nat) (rs : List (List Int)), k ≤ b0.length ∧ v6 = .int .i64 (k : Int) ∧ Aside0 (recV [] b0 = (rs ++ (recV (markV [] rs) (b0.drop k)).1, (recV (markV [] rs) (b0.drop k)).2)) ∧ Aside0 (rs.length ≤ k) ∧ Aside0 (Kd.R (Kd.fixed kT w) 22 w' w.heap.size (fun _ => True) v4 rs) ∧ Aside0 (∃ A c, v5 = .slice A (markV [] rs).length c ∧ (markV [] rs).length ≤ c ∧ Kd.C (Kd.int .u8) w' A (markV [] rs).length (markV [] rs)) ∧ Aside0 (Below w.heap.size w w')) (fun _ _ v6 _ => b0.length - (intOf v6).toNat)
  case atStart => exact ⟨0, [], Nat.zero_le _, rfl, ⟨by simp [markV]⟩, ⟨by simp⟩, ⟨Kd.R_nil _ _ _ _ _⟩, ⟨none, 0, rfl, Nat.le_refl _, ⟨rfl, Nat.zero_le _, fun h => absurd h (Nat.lt_irrefl 0)⟩⟩, ⟨Below.refl _ _⟩⟩
  case round =>
    obtain ⟨k, rs, hk, rfl, HE, HA, HR, HL, HB⟩ := hrel
    obtain ⟨Am, cm, rfl, hcm, hCm⟩ := HL.out
    obtain ⟨A4, c4, rfl⟩ := Kd.R_slice HR.out
    have HMl : Aside0 ((markV [] rs).length ≤ 16) := ⟨markV_le _ _ (by decide)⟩
    have HMb : Aside0 (∀ x ∈ markV [] rs, 0 ≤ x ∧ x < 256) := ⟨markV_byte _ _ (fun x hx => by cases hx)⟩
    have HCm := Aside0.mk hCm
    have HCmc := Aside0.mk hcm
    have hlim := HLim.out
    obtain ⟨p, hp⟩ : ∃ p : Int, p = (b0.length : Int) - (k : Int) := ⟨_, rfl⟩
    have hs1 : IntKind.i64.wrap ((b0.length : Int) - (k : Int)) = p := by rw [hp]; exact IntWalk.i64_in _ (by omega)
    have HP := Aside0.mk hp
    have HLd : Aside0 ((b0.drop k).length = b0.length - k) := ⟨by simp⟩
    clear HL hcm hCm
    by_cases h4 : b0.length - k < 4
    · have HNo : Aside0 (recOk (markV [] rs) (b0.drop k) = false) := ⟨by simp [recOk]; intro h; omega⟩
      have d4 : decide (4 ≤ p) = false := by simp; omega
      clear hp hlim h4
      go_wp2
      go_ret2
      exact rrecEnd_of rfl HR.out HE.out HNo.out hk HB.out
    · have d4 : decide (4 ≤ p) = true := by simp; omega
      obtain ⟨ad, rfl, hx0⟩ := int_at' HC.out HB.out k (by omega)
      have hx1 := int_cell HC.out HB.out (k + 1) (by omega)
      have hx2 := int_cell HC.out HB.out (k + 2) (by omega)
      have hx3 := int_cell HC.out HB.out (k + 3) (by omega)
      obtain ⟨a0, a0'⟩ := byte_at HBy.out k
      obtain ⟨a1, a1'⟩ := byte_at HBy.out (k + 1)
      obtain ⟨a2, a2'⟩ := byte_at HBy.out (k + 2)
      obtain ⟨a3, a3'⟩ := byte_at HBy.out (k + 3)
      have HM : Aside0 (num4 (b0.drop k) = ((b0.getD k 0 * 256 + b0.getD (k + 1) 0) * 256 + b0.getD (k + 2) 0) * 256 + b0.getD (k + 3) 0) := ⟨by simp [num4, List.getD_eq_getElem?_getD, List.getElem?_drop]⟩
      generalize b0.getD k 0 = x0 at *
      generalize b0.getD (k + 1) 0 = x1 at *
      generalize b0.getD (k + 2) 0 = x2 at *
      generalize b0.getD (k + 3) 0 = x3 at *
      obtain ⟨k1, hk1⟩ : ∃ k1, k1 = k + 1 := ⟨_, rfl⟩
      obtain ⟨k2, hk2⟩ : ∃ k2, k2 = k + 2 := ⟨_, rfl⟩
      obtain ⟨k3, hk3⟩ : ∃ k3, k3 = k + 3 := ⟨_, rfl⟩
      rw [← hk1] at hx1
      rw [← hk2] at hx2
      rw [← hk3] at hx3
      have fi1 : IntKind.i64.wrap ((k : Int) + 1) = (k1 : Int) := by rw [IntWalk.i64_in _ (by omega)]; omega
      have fi2 : IntKind.i64.wrap ((k : Int) + 2) = (k2 : Int) := by rw [IntWalk.i64_in _ (by omega)]; omega
      have fi3 : IntKind.i64.wrap ((k : Int) + 3) = (k3 : Int) := by rw [IntWalk.i64_in _ (by omega)]; omega
      have hi0 : (k : Int) < b0.length := by omega
      have hi1 : (k1 : Int) < b0.length := by omega
      have hi2 : (k2 : Int) < b0.length := by omega
      have hi3 : (k3 : Int) < b0.length := by omega
      have fw0 : IntKind.i64.wrap x0 = x0 := IntWalk.i64_in _ (by omega)
      have fw1 : IntKind.i64.wrap x1 = x1 := IntWalk.i64_in _ (by omega)
      have fw2 : IntKind.i64.wrap x2 = x2 := IntWalk.i64_in _ (by omega)
      have fw3 : IntKind.i64.wrap x3 = x3 := IntWalk.i64_in _ (by omega)
      obtain ⟨y0, hy0⟩ : ∃ y, y = x0 * 16777216 := ⟨_, rfl⟩
      obtain ⟨y1, hy1⟩ : ∃ y, y = x1 * 65536 := ⟨_, rfl⟩
      obtain ⟨y2, hy2⟩ : ∃ y, y = x2 * 256 := ⟨_, rfl⟩
      have fm0 : IntKind.i64.wrap (x0 * 16777216) = y0 := by rw [IntWalk.i64_in _ (by omega), hy0]
      have fm1 : IntKind.i64.wrap (x1 * 65536) = y1 := by rw [IntWalk.i64_in _ (by omega), hy1]
      have fm2 : IntKind.i64.wrap (x2 * 256) = y2 := by rw [IntWalk.i64_in _ (by omega), hy2]
      obtain ⟨z1, hz1⟩ : ∃ y, y = y0 + y1 := ⟨_, rfl⟩
      obtain ⟨z2, hz2⟩ : ∃ y, y = z1 + y2 := ⟨_, rfl⟩
      obtain ⟨m, hz3⟩ : ∃ y : Nat, (y : Int) = z2 + x3 := ⟨(z2 + x3).toNat, by omega⟩
      have fs1 : IntKind.i64.wrap (y0 + y1) = z1 := by rw [IntWalk.i64_in _ (by omega), hz1]
      have fs2 : IntKind.i64.wrap (z1 + y2) = z2 := by rw [IntWalk.i64_in _ (by omega), hz2]
      have fs3 : IntKind.i64.wrap (z2 + x3) = (m : Int) := by rw [IntWalk.i64_in _ (by omega), hz3]
      have HM' : Aside0 (num4 (b0.drop k) = (m : Int)) := ⟨by rw [HM.out]; omega⟩
      have HK3 : Aside0 (k + 4 ≤ b0.length) := ⟨by omega⟩
      clear hz3 hz2 hz1 hy0 hy1 hy2 hk1 hk2 hk3 HM a0 a0' a1 a1' a2 a2' a3 a3' h4
      have HD : Aside0 ((b0.drop k).drop 4 = b0.drop (k + 4)) := ⟨by rw [List.drop_drop]⟩
      have HD2 : Aside0 ((b0.drop (k + 4)).length = b0.length - (k + 4)) := ⟨by rw [List.length_drop]⟩
      obtain ⟨q, hq⟩ : ∃ q : Int, q = p - 4 := ⟨_, rfl⟩
      have hs2 : IntKind.i64.wrap (p - 4) = q := by rw [hq]; exact IntWalk.i64_in _ (by have := HP.out; omega)
      have HQ := Aside0.mk hq
      clear hq hp
      go_wp2
      go_quiet (fail)
      clear fi1 fi2 fi3 fw0 fw1 fw2 fw3 fm0 fm1 fm2 fs1 fs2 fs3 hx0 hx1 hx2 hx3 hi1 hi2 hi3 d4
      have HBd : Aside0 (Below w.heap.size w (wr.drewN nq)) := ⟨pw_below_drewN HB.out nq⟩
      have HRd : Aside0 (Kd.R (Kd.fixed kT w) 22 (wr.drewN nq) w.heap.size (fun _ => True) (.slice A4 rs.length c4) rs) := ⟨Kd.R_drewN HR.out nq⟩
      have HCmd : Aside0 (Kd.C (Kd.int .u8) (wr.drewN nq) Am (markV [] rs).length (markV [] rs)) := ⟨Kd.C_drewN HCm.out nq⟩
      generalize wr.drewN nq = w1 at *
      by_cases hbig : 1048576 < m
      · have d1 : decide (1048576 < (m : Int)) = true := by simp; omega
        have HNo : Aside0 (recOk (markV [] rs) (b0.drop k) = false) := ⟨by simp only [recOk, HM'.out, Bool.and_eq_false_iff, decide_eq_false_iff_not]; exact .inl (.inl (.inr (by omega)))⟩
        clear HM' hbig
        go_wp2
        go_ret2
        exact rrecEnd_of rfl HRd.out HE.out HNo.out hk HBd.out
      · have d1 : decide (1048576 < (m : Int)) = false := by simp; omega
        by_cases hgt : q < (m : Int)
        · have d2 : decide (q < (m : Int)) = true := by simp; omega
          have HNo : Aside0 (recOk (markV [] rs) (b0.drop k) = false) := ⟨by
            have h1 := HD2.out; have h2 := HQ.out; have h3 := HP.out; have h5 := HK3.out
            simp only [recOk, HM'.out, HD.out, Bool.and_eq_false_iff, decide_eq_false_iff_not]; exact .inl (.inr (by omega))⟩
          clear HM' hbig hgt
          go_wp2
          go_ret2
          exact rrecEnd_of rfl HRd.out HE.out HNo.out hk HBd.out
        · have d2 : decide (q < (m : Int)) = false := by simp; omega
          have hle : k + 4 + m ≤ b0.length := by have h2 := HQ.out; have h3 := HP.out; have h5 := HK3.out; omega
          obtain ⟨k4, hk4⟩ : ∃ k4 : Nat, k4 = k + 4 := ⟨_, rfl⟩
          obtain ⟨k5, hk5⟩ : ∃ k5 : Nat, k5 = k4 + m := ⟨_, rfl⟩
          have fk4 : IntKind.i64.wrap ((k : Int) + 4) = (k4 : Int) := by rw [IntWalk.i64_in _ (by omega)]; omega
          have fk5 : IntKind.i64.wrap ((k4 : Int) + (m : Int)) = (k5 : Int) := by rw [IntWalk.i64_in _ (by omega)]; omega
          obtain ⟨A2, hcut, hread, hle2⟩ := mid_int (P := Tryd.prog) (k := .u8) 22 5 Tryd.underlying22 info_u8 (some ad) c b0 (k4 : Int) (k5 : Int) (k + 4) m (by omega) (by omega) hle HCc.out
          have HT := Aside0.mk (hread w HC.out)
          have HR1 : Aside0 (recR (b0.drop k) = (b0.drop (k + 4)).take m) := ⟨by rw [recR, HD.out, HM'.out, Int.toNat_natCast]⟩
          have HTl : Aside0 (((b0.drop (k + 4)).take m).length = m) := ⟨by rw [List.length_take, HD2.out]; omega⟩
          have HT2 := Aside0.mk hle2
          have HTb : Aside0 (∀ x ∈ (b0.drop (k + 4)).take m, 0 ≤ x ∧ x < 256) := ⟨fun x hx => HBy.out x (List.mem_of_mem_drop (List.mem_of_mem_take hx))⟩
          have HOk0 : Aside0 (recOk (markV [] rs) (b0.drop k) = hasB (b0.drop k) (joinL [(b0.drop (k + 4)).take m, sealV (markV [] rs) ((b0.drop (k + 4)).take m)])) := ⟨by
            have h1 := HD2.out; have h2 := HQ.out; have h3 := HP.out; have h5 := HK3.out; have h6 := HLd.out
            rw [recOk, HM'.out, HD.out, show decide (4 ≤ (b0.drop k).length) = true from by simp; omega, show decide ((m : Int) ≤ 1048576) = true from by simp; omega, show decide ((m : Int) ≤ ((b0.drop (k + 4)).length : Int)) = true from by simp; omega, recW, HR1.out]
            simp only [Bool.true_and]⟩
          have HWe : Aside0 (recW (markV [] rs) (b0.drop k) = joinL [(b0.drop (k + 4)).take m, sealV (markV [] rs) ((b0.drop (k + 4)).take m)]) := ⟨by rw [recW, HR1.out]⟩
          have HML : Aside0 (m ≤ 500) := ⟨by omega⟩
          clear hread HM' hgt hle2 hbig hk4 hk5
          generalize (b0.drop (k + 4)).take m = t1 at *
          obtain ⟨s, hs⟩ : ∃ s, s = sealV (markV [] rs) t1 := ⟨_, rfl⟩
          have HSl := Aside0.mk (rseal_calls Am (markV [] rs).length cm (markV [] rs) A2 t1.length (c - (k + 4)) t1 w1 HCmd.out HCmc.out (Kd.C_below HT.out HBd.out) HT2.out (by have := HMl.out; have := HTl.out; have := HML.out; omega) HMb.out HTb.out)
          have HSn : Aside0 ((sealV (markV [] rs) t1).length = 16) := ⟨sealV_len _ _⟩
          rw [← hs] at HSl HSn HOk0 HWe
          have HSe := Aside0.mk hs
          clear hs
          go_wp2_with (fail)
          refine HSl.out.mono ?_
          rintro e w2 ⟨gs, cs, rfl, hcs, hgs, hSA, hb⟩
          have HB2 := Aside0.mk (below_step HBd.out hb)
          have HR2 := Aside0.mk (Kd.R_below HRd.out hb)
          have HSA := Aside0.mk hSA
          have HNe : Aside0 (some gs ≠ (Value.slice A4 rs.length c4).ownBlock) := ⟨fun e => by have h1 := ((Kd.R_bound HRd.out).1 gs e.symm).2.2.1; omega⟩
          have HJ := Aside0.mk (rjoin2 A2 t1.length (c - (k + 4)) t1 (some ⟨gs, 0, none⟩) 16 cs s w2 (Kd.C_below HT.out HB2.out) HT2.out hSA.reads hcs (by have := HTl.out; have := HML.out; have := HSn.out; omega))
          have HCs := Aside0.mk hcs
          clear hb hSA hgs hcs HSl
          go_wp2_with (fail)
          refine HJ.out.mono ?_
          rintro e w3 ⟨Aj, cj, rfl, hcj, hCj, hb⟩
          have HB3 := Aside0.mk (below_step HB2.out hb)
          have HR3 := Aside0.mk (Kd.R_below HR2.out hb)
          have HSA3 := Aside0.mk (HSA.out.below hb)
          have HWl : Aside0 ((joinL [t1, s]).length = m + 24) := ⟨by rw [joinTwo_len, HSn.out, HTl.out]⟩
          obtain ⟨A9, hcut9, hread9⟩ := cut_int (P := Tryd.prog) (k := .u8) 22 5 Tryd.underlying22 info_u8 (some ad) c b0 k hk HCc.out
          have HBg := Aside0.mk (rbegins_calls A9 (c - k) (b0.drop k) Aj cj (joinL [t1, s]) w3 (Kd.C_below (hread9 w HC.out) HB3.out) hCj)
          clear hcj hCj hb HJ hread9 HLd
          generalize joinL [t1, s] = W at *
          have HDl : Aside0 ((b0.drop k).length = b0.length - k) := ⟨by simp⟩
          have HDd : Aside0 (∀ j, (b0.drop k).drop j = b0.drop (k + j)) := ⟨fun j => by rw [List.drop_drop]⟩
          generalize hb9 : b0.drop k = b9 at *
          have HB9 := Aside0.mk hb9
          clear hb9
          cases hh : hasB b9 W with
          | false =>
            have HNo : Aside0 (recOk (markV [] rs) b9 = false) := ⟨HOk0.out.trans hh⟩
            have HBf := Aside0.mk (HBg.out false hh)
            clear hh
            go_wp2_with (fail)
            refine HBf.out.mono ?_
            rintro e w4 ⟨rfl, ⟨nd, rfl⟩⟩
            have HR4 : Aside0 (Kd.R (Kd.fixed kT w) 22 (w3.drewN nd) w.heap.size (fun _ => True) (.slice A4 rs.length c4) rs) := ⟨Kd.R_drewN HR3.out nd⟩
            have HB4 : Aside0 (Below w.heap.size w (w3.drewN nd)) := ⟨pw_below_drewN HB3.out nd⟩
            go_wp2_with (fail)
            go_ret2
            exact rrecEnd_of rfl HR4.out (by rw [HB9.out]; exact HE.out) (by rw [HB9.out]; exact HNo.out) hk HB4.out
          | true =>
            have HYes : Aside0 (recOk (markV [] rs) b9 = true) := ⟨HOk0.out.trans hh⟩
            have HBt := Aside0.mk (HBg.out true hh)
            have HWle : Aside0 (k + (m + 24) ≤ b0.length) := ⟨by
              have h1 := congrArg List.length (recOk_has HYes.out)
              rw [HWe.out, List.length_append, HWl.out, HDl.out] at h1
              omega⟩
            obtain ⟨k6, hk6⟩ : ∃ k6 : Nat, k6 = k + (m + 24) := ⟨_, rfl⟩
            have fk6 : IntKind.i64.wrap ((k : Int) + (W.length : Int)) = (k6 : Int) := by rw [IntWalk.i64_in _ (by have := HWl.out; have := HWle.out; omega)]; have := HWl.out; omega
            have HK6 := Aside0.mk hk6
            clear hh hk6
            go_wp2_with (fail)
            refine HBt.out.mono ?_
            rintro e w4 ⟨rfl, ⟨nd, rfl⟩⟩
            have HR4 : Aside0 (Kd.R (Kd.fixed kT w) 22 (w3.drewN nd) w.heap.size (fun _ => True) (.slice A4 rs.length c4) rs) := ⟨Kd.R_drewN HR3.out nd⟩
            have HB4 : Aside0 (Below w.heap.size w (w3.drewN nd)) := ⟨pw_below_drewN HB3.out nd⟩
            have HSA4 : Aside0 (SealAt (w3.drewN nd) gs s) := ⟨HSA3.out⟩
            generalize w3.drewN nd = w4 at *
            go_wp2_with (at_builtin; refine Kd.R_append (Kd.fixed kT w) (w0 := w) (W := w4) w.heap.size rfl (.tmp 81) (.tmp 83) 31 22 (.slice none 0 0) 24 rfl Tryd.underlying31 info_bs rfl Nat.zero_lt_one (by decide) (.slice A4 rs.length c4) rs t1 [.slice A2 t1.length (c - (k + 4))] (fun _ => True) (fun k => True ∧ some k ≠ (Value.slice A4 rs.length c4).ownBlock) rfl rfl ⟨A2, c - (k + 4), rfl, HT2.out, by have h := HT.out; exact h⟩ (fun k hk => ⟨trivial, hk.2⟩) (fun _ _ => trivial) HR4.out HB4.out HB4.out.size (by have := HLim.out; have := HA.out; omega) ?_; intro v5 w5 ho hb hg hat; have HO5 := Aside0.mk ho; have HB5 := Aside0.mk hb; have HSA5 := Aside0.mk (HSA4.out.grown hg HNe.out); clear ho hb hg hat)
            have HMs : Aside0 (markV [] (rs ++ [t1]) = s) := ⟨by rw [markV_snoc, HSe.out]⟩
            go_roundw
            case measure => have := HK6.out; have := HWle.out; simp [intOf]; omega
            case rel =>
              refine ⟨k6, rs ++ [t1], by have := HK6.out; have := HWle.out; omega, rfl, ⟨?_⟩, ⟨?_⟩, HO5, ⟨_, _, by rw [HMs.out, HSn.out], by rw [HMs.out, HSn.out]; exact HCs.out, by rw [HMs.out, HSn.out]; exact HSA5.out.reads⟩, HB5⟩
              · rw [HE.out, recV_yes HYes.out, HR1.out, HWe.out, HWl.out, HDd.out, ← HK6.out, HMs.out, HSe.out]
                simp
              · have := HA.out; have := HK6.out; simp only [List.length_append, List.length_singleton]; omega
theorem rrec_n (A : Option Addr) (n c : Nat) (b0 : List Int) (w : World) (hr0 : Kd.C (Kd.int .u8) w A n b0) (hc : n ≤ c) (hb : ∀ x ∈ b0, 0 ≤ x ∧ x < 256) (hlim : n ≤ 500) :
    Calls Tryd.prog 19 #[.slice A n c] w (RRecEnd w b0) := by
  obtain rfl := hr0.1
  exact rrec_calls A c b0 w hr0 hc hb hlim
end Go.Proofs.YtpndobhakmjglaaDoor.Store
