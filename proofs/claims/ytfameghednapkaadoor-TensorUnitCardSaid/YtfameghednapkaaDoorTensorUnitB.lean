/- TensorUnit: the law's walk. -/
import Derived.Test.YtfameghednapkaaDoorUnitPB
import Derived.Test.YtfameghednapkaaDoorBunT3
namespace Go.Proofs.YtfameghednapkaaDoor.Ten
open Go.RowKit Go.Proofs.YtfameghednapkaaDoorW.PrintWords Go.Proofs.YtfameghednapkaaDoorW.PrintLast Go.Proofs.YtfameghednapkaaDoorW.PrintMore Go.Proofs.YtfameghednapkaaDoor.K Go.Proofs.YtfameghednapkaaDoor.RI Go.Proofs.YtfameghednapkaaDoor.Fixed
set_option linter.unusedVariables false
set_option linter.unusedSimpArgs false
set_option maxHeartbeats 16000000 in
set_option maxRecDepth 100000 in
theorem unit_calls (Av : Option Addr) (cv : Nat) (v : List Int) (Ap : Option Addr) (cp : Nat) (places : List Int) (Au : Option Addr) (cu : Nat) (u : List Int) (w : World)
    (hV : Kd.C (Kd.int .i64) w Av v.length v) (hcv : v.length ≤ cv) (hP : Kd.C (Kd.int .i64) w Ap places.length places) (hcp : places.length ≤ cp) (hU : Kd.C (Kd.int .i64) w Au u.length u) (hcu : u.length ≤ cu) (hL : LaidAt w 0 stepsA) :
    Calls Tryd.prog 11 #[.slice Av v.length cv, .slice Ap places.length cp, .slice Au u.length cu] w fun e w' => e = .returned (.bool true) ∧ Below w.heap.size w w' := by
  have HL := Aside0.mk hL
  have HV := Aside0.mk hV
  have HP := Aside0.mk hP
  have HU := Aside0.mk hU
  have HB0 : Aside0 (Below w.heap.size w w) := ⟨Below.refl _ _⟩
  have HCc := Aside0.mk (And.intro hcv (And.intro hcp hcu))
  have hm1 := hV.2.1
  have hm2 := hP.2.1
  have hm3 := hU.2.1
  clear hV hP hU hL hcv hcp hcu
  by_cases h1 : v.length < 1
  · have dh1 : decide ((v.length : Int) < 1) = true := by simp; omega
    clear h1
    go_enter Tryd.func11, Tryd.ntmps11
    go_wp2_with (fail)
    refine (awake07_calls w (HL.out.below HB0.out)).mono ?_
    rintro e wz ⟨rfl, hb⟩
    have HBz := Aside0.mk (below_step HB0.out hb)
    clear hb
    go_wp2_with (fail)
    go_ret
    exact ⟨rfl, HBz.out⟩
  · have dh1 : decide ((v.length : Int) < 1) = false := by simp; omega
    by_cases h2 : 64 < v.length
    · have dh2 : decide (64 < (v.length : Int)) = true := by simp; omega
      clear h2
      go_enter Tryd.func11, Tryd.ntmps11
      go_wp2_with (fail)
      refine (awake07_calls w (HL.out.below HB0.out)).mono ?_
      rintro e wz ⟨rfl, hb⟩
      have HBz := Aside0.mk (below_step HB0.out hb)
      clear hb
      go_wp2_with (fail)
      go_ret
      exact ⟨rfl, HBz.out⟩
    · have dh2 : decide (64 < (v.length : Int)) = false := by simp; omega
      by_cases h3 : places.length < 1
      · have dh3 : decide ((places.length : Int) < 1) = true := by simp; omega
        clear h3
        go_enter Tryd.func11, Tryd.ntmps11
        go_wp2_with (fail)
        refine (awake07_calls w (HL.out.below HB0.out)).mono ?_
        rintro e wz ⟨rfl, hb⟩
        have HBz := Aside0.mk (below_step HB0.out hb)
        clear hb
        go_wp2_with (fail)
        go_ret
        exact ⟨rfl, HBz.out⟩
      · have dh3 : decide ((places.length : Int) < 1) = false := by simp; omega
        by_cases h4 : 20 < places.length
        · have dh4 : decide (20 < (places.length : Int)) = true := by simp; omega
          clear h4
          go_enter Tryd.func11, Tryd.ntmps11
          go_wp2_with (fail)
          refine (awake07_calls w (HL.out.below HB0.out)).mono ?_
          rintro e wz ⟨rfl, hb⟩
          have HBz := Aside0.mk (below_step HB0.out hb)
          clear hb
          go_wp2_with (fail)
          go_ret
          exact ⟨rfl, HBz.out⟩
        · have dh4 : decide (20 < (places.length : Int)) = false := by simp; omega
          by_cases h5 : 64 < u.length
          · have dh5 : decide (64 < (u.length : Int)) = true := by simp; omega
            clear h5
            go_enter Tryd.func11, Tryd.ntmps11
            go_wp2_with (fail)
            refine (awake07_calls w (HL.out.below HB0.out)).mono ?_
            rintro e wz ⟨rfl, hb⟩
            have HBz := Aside0.mk (below_step HB0.out hb)
            clear hb
            go_wp2_with (fail)
            go_ret
            exact ⟨rfl, HBz.out⟩
          · have dh5 : decide (64 < (u.length : Int)) = false := by simp; omega
            have HLn : Aside0 (1 ≤ v.length ∧ v.length ≤ 64 ∧ 1 ≤ places.length ∧ places.length ≤ 20 ∧ u.length ≤ 64) := ⟨by omega⟩
            clear h1 h2 h3 h4 h5
            obtain ⟨z, hz⟩ : ∃ z, checkV v = z := ⟨_, rfl⟩
            have HZ := Aside0.mk hz
            clear hz
            by_cases h6 : z = 0
            · subst h6
              obtain ⟨n, hn⟩ : ∃ n, n = v.length := ⟨_, rfl⟩
              obtain ⟨m, hm⟩ : ∃ m, m = places.length := ⟨_, rfl⟩
              obtain ⟨mn, hmn⟩ : ∃ mn, mn = m * n := ⟨_, rfl⟩
              have hmn1 : m * n ≤ 20 * 64 := Nat.mul_le_mul (by have := HLn.out; omega) (by have := HLn.out; omega)
              have hwmn : IntKind.i64.wrap ((places.length : Int) * (v.length : Int)) = (mn : Int) := by
                rw [← hm, ← hn, hmn, Int.natCast_mul, ← Int.natCast_mul, IntKind.wrap_i64]
                omega
              have hmk : ∀ W : World, (Instr.makeSlice 22 (.int .i64 (mn : Int)) (.int .i64 (mn : Int))).run Tryd.prog W = .ok (.slice (some ⟨W.heap.size, 0, none⟩) mn mn) (W.alloc (.cells (madeCells #[.int .i64 0] mn) 3)) := print_make 22 3 .i64 8 Tryd.underlying22 info_int (by decide) mn (by omega)
              have HMn := Aside0.mk (And.intro hmn (And.intro hm (And.intro hn (show mn ≤ 1280 by omega))))
              clear hmn hmn1 hm hn
              go_enter Tryd.func11, Tryd.ntmps11
              go_wp2_with (fail)
              refine (tcheck_calls Av cv v w HV.out).mono ?_
              rw [HZ.out]
              rintro e w1 ⟨rfl, hb⟩
              have HB1 := Aside0.mk hb
              clear hb
              go_wp2_with (fail)
              obtain ⟨ks, hks⟩ : ∃ ks : Nat → Nat, ks = fun i => kOf v.length (places.getD i 0) := ⟨_, rfl⟩
              have HKs : Aside0 (∀ i, ks i < v.length) := ⟨fun i => by rw [hks]; exact (kOf_spec v.length _ HLn.out.1).2.2.2⟩
              have HKe := Aside0.mk hks
              clear hks hwmn hmk
              obtain ⟨W3, hW3⟩ : ∃ W3, W3 = (w1.alloc (.cells (madeCells #[.int .i64 0] mn) 3)).alloc (.cells #[.int .i64 (places.length : Int), .int .i64 (v.length : Int), .slice (some ⟨w1.heap.size, 0, none⟩) mn mn] 36) := ⟨_, rfl⟩
              have HG3 : Aside0 (W3.heap[w1.heap.size]? = some (.cells (nums .i64 (unitA v.length ks 0 (List.replicate mn 0))).toArray 3 (0, 0))) := ⟨by rw [hW3]; exact blk_alloc (blk_made w1 mn) _⟩
              have HM3 : Aside0 (W3.heap[w1.heap.size + 1]? = some (.cells #[.int .i64 (places.length : Int), .int .i64 (v.length : Int), .slice (some ⟨w1.heap.size, 0, none⟩) mn mn] 36 (0, 0))) := ⟨by
                have h := heap_alloc_new (w1.alloc (.cells (madeCells #[.int .i64 0] mn) 3)) (.cells #[.int .i64 (places.length : Int), .int .i64 (v.length : Int), .slice (some ⟨w1.heap.size, 0, none⟩) mn mn] 36)
                rw [World.size_alloc] at h
                rw [hW3]
                exact h⟩
              have HS3 : Aside0 (W3.heap.size = w1.heap.size + 2) := ⟨by rw [hW3, World.size_alloc, World.size_alloc]⟩
              have HB3 : Aside0 (Below w.heap.size w W3) := ⟨by rw [hW3]; exact bel_alloc (bel_alloc HB1.out _) _⟩
              rw [← hW3]
              clear hW3
              have HLL : Aside0 (∀ k, (unitA v.length ks k (List.replicate mn 0)).length = mn) := ⟨fun k => by rw [unitA_length, List.length_replicate]⟩
              go_loopw [8, 9] (fun o i wr => ∃ k : Nat, k ≤ places.length ∧ i = .int .i64 (k : Int) ∧ Aside0 (wr.ownsRow (w1.heap.size + 2) 3 1 o (pickL v ks k).length (nums .i64 (pickL v ks k)) ∧ wr.heap[w1.heap.size]? = some (.cells (nums .i64 (unitA v.length ks k (List.replicate mn 0))).toArray 3 (0, 0)) ∧ wr.heap[w1.heap.size + 1]? = some (.cells #[.int .i64 (places.length : Int), .int .i64 (v.length : Int), .slice (some ⟨w1.heap.size, 0, none⟩) mn mn] 36 (0, 0)) ∧ Below w.heap.size w wr ∧ w1.heap.size + 2 ≤ wr.heap.size)) (fun _ i _ => places.length - (intOf i).toNat)
              case atStart => exact ⟨0, Nat.zero_le _, rfl, ⟨own_nil _ _ _ _, HG3.out, HM3.out, HB3.out, by rw [HS3.out]; exact Nat.le_refl _⟩⟩
              case round =>
                obtain ⟨k, hk, rfl, HO⟩ := hrel
                by_cases hlt : k < places.length
                · obtain ⟨adp, rfl, hxp⟩ := int_at (Kd.C_below HP.out HO.out.2.2.2.1) k hlt
                  obtain ⟨x, hx⟩ : ∃ x, x = places.getD k 0 := ⟨_, rfl⟩
                  rw [← hx] at hxp
                  have hsp := kOf_spec v.length x HLn.out.1
                  have hkk : ks k = kOf v.length x := by rw [HKe.out, hx]
                  obtain ⟨kk, hkke⟩ : ∃ kk, kk = kOf v.length x := ⟨_, rfl⟩
                  rw [← hkke] at hsp hkk
                  obtain ⟨adv, rfl, hxv⟩ := int_at HV.out kk hsp.2.2.2
                  obtain ⟨ip, hip⟩ : ∃ ip, ip = k * v.length := ⟨_, rfl⟩
                  obtain ⟨p, hp⟩ : ∃ p, p = ip + kk := ⟨_, rfl⟩
                  have hpl : p < mn := by
                    have h9 := Nat.mul_le_mul_right v.length hlt
                    have := HMn.out
                    rw [Nat.succ_mul] at h9
                    rw [hp, hip, this.1, this.2.1, this.2.2.1]
                    have := hsp.2.2.2
                    omega
                  have hmn2 := HMn.out.2.2.2
                  have hvl := HLn.out
                  have hwi : IntKind.i64.wrap ((k : Int) * (v.length : Int)) = (ip : Int) := by rw [← Int.natCast_mul, ← hip, IntKind.wrap_i64]; omega
                  have hwp : IntKind.i64.wrap ((ip : Int) + (kk : Int)) = (p : Int) := by rw [hp, IntKind.wrap_i64]; omega
                  obtain ⟨q, hq⟩ : ∃ q, x.tmod (v.length : Int) = q := ⟨_, rfl⟩
                  rw [hq] at hsp
                  obtain ⟨s, hs⟩ : ∃ s, s = q + (v.length : Int) := ⟨_, rfl⟩
                  have hwq : IntKind.i64.wrap q = q := by rw [IntKind.wrap_i64]; omega
                  have hws : IntKind.i64.wrap (q + (v.length : Int)) = s := by rw [hs, IntKind.wrap_i64]; omega
                  have hks2 : s.tmod (v.length : Int) = (kk : Int) := by rw [hs]; exact hsp.2.2.1
                  have hwkk : IntKind.i64.wrap (kk : Int) = (kk : Int) := by have := hsp.2.2.2; rw [IntKind.wrap_i64]; omega
                  have hwk : IntKind.i64.wrap ((k : Int) + 1) = (k : Int) + 1 := by rw [IntKind.wrap_i64]; omega
                  have hn0 : (v.length : Int) ≠ 0 := by omega
                  have hn00 : ((v.length : Int) == 0) = false := by simpa using hn0
                  have hkl : kk < v.length := hsp.2.2.2
                  have HKk := Aside0.mk (And.intro hkk (And.intro hp hip))
                  have HXv := Aside0.mk hxv
                  clear hsp hs hkk hp hip hvl hxv hx hkke
                  obtain ⟨hd0, hd1, hd2⟩ := mat_cells HO.out.2.2.1
                  have hfz := blk_frozen HO.out.2.1 p
                  have hcz : ∃ y, wr.cell? ⟨w1.heap.size, p, none⟩ = some (.int .i64 y) := ⟨(unitA v.length ks k (List.replicate mn 0)).getD p 0, by
                    have h1 := (Kd.reads_of_C (d := (0 : Int)) (blk_C HO.out.2.1 (by rw [HLL.out]; omega))).2.2 (by rw [HLL.out]; omega)
                    obtain ⟨ad, hade, hh⟩ := h1
                    cases hade
                    have := hh p (by rw [HLL.out]; exact hpl)
                    rwa [add_plain] at this⟩
                  obtain ⟨y, hcz⟩ := hcz
                  go_upto_region 10 with (fail)
                  clear hd0 hd1 hd2 hfz hcz hwi hwp hwq hws hks2 hwkk hn0 hn00 hxp
                  obtain ⟨A5, c5, rfl⟩ := own_slice HO.out.1
                  have HSz : Aside0 (w1.heap.size < w1.heap.size + 2 ∧ w1.heap.size + 1 < w1.heap.size + 2 ∧ w1.heap.size + 1 ≠ w1.heap.size ∧ w.heap.size ≤ w1.heap.size) := ⟨by have := HB1.out.size; omega⟩
                  have HO2 : Aside0 ((wr.setCell ⟨w1.heap.size, p, none⟩ (.int .i64 65536)).ownsRow (w1.heap.size + 2) 3 1 (.slice A5 (pickL v ks k).length c5) (pickL v ks k).length (nums .i64 (pickL v ks k))) := ⟨ownsRow_setCell_below HO.out.1 HSz.out.1 _⟩
                  have HG2 : Aside0 ((wr.setCell ⟨w1.heap.size, p, none⟩ (.int .i64 65536)).heap[w1.heap.size]? = some (.cells (nums .i64 (unitA v.length ks (k + 1) (List.replicate mn 0))).toArray 3 (0, 0))) := ⟨by
                    have h := blk_num_set HO.out.2.1 p 65536
                    rw [HKk.out.2.1, HKk.out.2.2, ← HKk.out.1] at h
                    rw [HKk.out.2.1, HKk.out.2.2, ← HKk.out.1]
                    exact h⟩
                  have HM2 : Aside0 ((wr.setCell ⟨w1.heap.size, p, none⟩ (.int .i64 65536)).heap[w1.heap.size + 1]? = some (.cells #[.int .i64 (places.length : Int), .int .i64 (v.length : Int), .slice (some ⟨w1.heap.size, 0, none⟩) mn mn] 36 (0, 0))) := ⟨blk_far HO.out.2.2.1 HSz.out.2.2.1 _⟩
                  have HB2 : Aside0 (Below w.heap.size w (wr.setCell ⟨w1.heap.size, p, none⟩ (.int .i64 65536))) := ⟨HO.out.2.2.2.1.setCell HSz.out.2.2.2 _⟩
                  have HS2 : Aside0 (w1.heap.size + 2 ≤ (wr.setCell ⟨w1.heap.size, p, none⟩ (.int .i64 65536)).heap.size) := ⟨by have h := HO.out.2.2.2.2; simpa [World.setCell] using h⟩
                  clear HO
                  generalize (wr.setCell ⟨w1.heap.size, p, none⟩ (.int .i64 65536)) = wr2 at *
                  have hxv := cell_keep HB2.out HXv.out
                  have HX := Aside0.mk (pickL_succ v ks k)
                  have HXl := Aside0.mk (pickL_length v ks k)
                  rw [HKk.out.1] at HX
                  have HKs2 := HKk.out.1
                  obtain ⟨es, hes⟩ : ∃ es, es = pickL v ks k := ⟨_, rfl⟩
                  rw [← hes] at HO2 HX HXl ⊢
                  clear hes HKs2
                  generalize v.getD kk 0 = y2 at *
                  go_wp2_with (at_builtin; refine print_append_num (w0 := wr2) (w1.heap.size + 2) rfl (.tmp 87) (.tmp 92) 22 3 .i64 8 rfl Tryd.underlying22 info_int (by decide) _ es _ rfl rfl HO2.out (Below.refl _ _) HS2.out ?_ ?_; rotate_left; intro v1 w4 hown hbw hgr hat; have HA := Aside0.mk (And.intro hown hbw); clear hown hbw hgr hat)
                  · refine ⟨⟨k + 1, by omega, by go_num, ⟨by rw [HX.out]; exact HA.out.1, (HA.out.2.block _ HSz.out.1).trans HG2.out, (HA.out.2.block _ HSz.out.2.1).trans HM2.out, HB2.out.trans (HA.out.2.mono (by have := HSz.out; omega)), Nat.le_trans HS2.out HA.out.2.size⟩⟩, by simp [intOf]; omega⟩
                  · have := HXl.out
                    have := HLn.out
                    omega
                · obtain rfl : k = places.length := by omega
                  obtain ⟨A5, c5, rfl⟩ := own_slice HO.out.1
                  have HW5 : Aside0 (Kd.C (Kd.int .i64) wr A5 (pickL v ks places.length).length (pickL v ks places.length)) := ⟨own_C HO.out.1⟩
                  have HBr := Aside0.mk HO.out.2.2.2.1
                  obtain ⟨hd0, hd1, hd2⟩ := mat_cells HO.out.2.2.1
                  have hvr : v.all inR = true := (check_ok_in HZ.out).1
                  have hmnE := HMn.out
                  have hE : mulE (places.length : Int) (v.length : Int) (unitA v.length ks places.length (List.replicate mn 0)) v = 0 := by
                    rw [hmnE.1, hmnE.2.1, hmnE.2.2.1]
                    exact unit_mulE HLn.out.1 HLn.out.2.1 HLn.out.2.2.1 (by have := HLn.out; omega) rfl HKs.out hvr
                  have hLl : mulL (places.length : Int) (v.length : Int) (unitA v.length ks places.length (List.replicate mn 0)) v = pickL v ks places.length := by
                    rw [hmnE.1, hmnE.2.1, hmnE.2.2.1]
                    exact unit_mulL HLn.out.1 HLn.out.2.1 rfl HKs.out hvr
                  have HMu := mul_calls (places.length : Int) (v.length : Int) (some ⟨w1.heap.size, 0, none⟩) mn (unitA v.length ks places.length (List.replicate mn 0)) Av cv v wr (blk_C HO.out.2.1 (by rw [HLL.out]; omega)) (by rw [HLL.out]; exact Nat.le_refl _) (Kd.C_below HV.out HBr.out)
                  rw [HLL.out, hE, hLl] at HMu
                  have HMU := Aside0.mk HMu
                  clear HMu hE hLl hmnE hvr HO
                  generalize pickL v ks places.length = pk at *
                  go_wp2_with (fail)
                  refine HMU.out.mono ?_
                  rintro e w5 ⟨_, h2, hb⟩
                  obtain ⟨A6, c6, rfl, hC6, _⟩ := h2 rfl
                  have HB5 := Aside0.mk (below_step HBr.out hb)
                  have HC6 := Aside0.mk hC6
                  have HW6 := Aside0.mk (Kd.C_below HW5.out hb)
                  clear h2 hb hC6 hd0 hd1 hd2
                  go_wp2_with (fail)
                  refine (Law.ints_n A6 pk.length c6 pk A5 pk.length c5 pk w5 HC6.out HW6.out true (by simp)).mono ?_
                  rintro e w6 ⟨rfl, hd⟩
                  have HB6 := Aside0.mk (below_step HB5.out hd.below)
                  clear hd
                  go_wp2_with (fail)
                  have hcm := add_comm_or (b := u) HZ.out
                  have hcE := add_comm_E (b := u) HZ.out
                  refine (tadd_calls Av cv v Au cu u w6 (Kd.C_below HV.out HB6.out) HCc.out.1 (Kd.C_below HU.out HB6.out) HCc.out.2.2).mono ?_
                  rintro e w7 hend
                  obtain ⟨A7, n7, c7, rfl, hC7⟩ := list_any hend
                  have HC7 := Aside0.mk hC7
                  have HB7 := Aside0.mk (below_step HB6.out hend.2.2)
                  have HAdd := Aside0.mk (tadd_calls Au cu u Av cv v w7 (Kd.C_below HU.out HB7.out) HCc.out.2.2 (Kd.C_below HV.out HB7.out) HCc.out.1)
                  have HCm := Aside0.mk hcm
                  have HCE := Aside0.mk hcE
                  clear hend hC7 hcm hcE
                  obtain ⟨Ea, hEa⟩ : ∃ E, E = addE v u := ⟨_, rfl⟩
                  obtain ⟨Lo, hLo⟩ : ∃ E, E = listOr (addE v u) (addL v u) := ⟨_, rfl⟩
                  rw [← hLo] at HC7 HCm
                  rw [← hEa] at HCE ⊢
                  clear hLo hEa
                  go_wp2_with (fail)
                  refine HAdd.out.mono ?_
                  rintro e w8 hend
                  obtain ⟨A8, n8, c8, rfl, hC8⟩ := list_any hend
                  rw [← HCm.out] at hC8
                  have HC8 := Aside0.mk hC8
                  have HC78 := Aside0.mk (Kd.C_below HC7.out hend.2.2)
                  have HB8 := Aside0.mk (below_step HB7.out hend.2.2)
                  clear hend hC8
                  rw [← HCE.out]
                  go_wp2_with (fail)
                  obtain ⟨W8, hW8⟩ : ∃ W, W = w8.alloc (.cells #[.int .i64 65536] 3) := ⟨_, rfl⟩
                  have HD8 : Aside0 (Below w8.heap.size w8 W8) := ⟨by rw [hW8]; exact bel_alloc (Below.refl _ _) _⟩
                  have HS8 : Aside0 (W8.heap.size = w8.heap.size + 1) := ⟨by rw [hW8, World.size_alloc]⟩
                  have HC65 : Aside0 (Kd.C (Kd.int .i64) W8 (some ⟨w8.heap.size, 0, none⟩) 1 [65536]) := ⟨by rw [hW8]; exact C_int (reads_lit w8 .i64 3 [65536] (by decide))⟩
                  rw [← hW8]
                  clear hW8
                  rw [← HS8.out]
                  have HOne : Aside0 (Kd.C (Kd.slice 3 (Kd.int .i64)) (W8.alloc (.cells #[.slice Av v.length cv] 22)) (some ⟨W8.heap.size, 0, none⟩) 1 [v]) := ⟨one_row (Kd.C_below HV.out (below_step HB8.out HD8.out)) HCc.out.1⟩
                  have HC65b : Aside0 (Kd.C (Kd.int .i64) (W8.alloc (.cells #[.slice Av v.length cv] 22)) (some ⟨w8.heap.size, 0, none⟩) 1 [65536]) := ⟨Kd.C_below HC65.out (bel_alloc (Below.refl _ _) _)⟩
                  have HD9 : Aside0 (Below w8.heap.size w8 (W8.alloc (.cells #[.slice Av v.length cv] 22))) := ⟨bel_alloc HD8.out _⟩
                  generalize W8.alloc (.cells #[.slice Av v.length cv] 22) = w9 at *
                  have HMx := mix_calls (some ⟨w8.heap.size, 0, none⟩) 1 [65536] (some ⟨W8.heap.size, 0, none⟩) 1 [v] w9 HC65b.out HOne.out
                  rw [one_mixE HZ.out, one_mixL HZ.out] at HMx
                  refine HMx.mono ?_
                  rintro e w10 ⟨_, h2, hb⟩
                  obtain ⟨A10, c10, rfl, hC10, _⟩ := h2 rfl
                  have HB9 := Aside0.mk (below_step HB8.out HD9.out)
                  have HB10 := Aside0.mk (below_step HB9.out hb)
                  have HC10 := Aside0.mk hC10
                  have HX10 := Aside0.mk (Kd.C_below HC78.out (below_step HD9.out hb))
                  have HY10 := Aside0.mk (Kd.C_below HC8.out (below_step HD9.out hb))
                  clear HMx h2 hb hC10
                  go_wp2_with (fail)
                  refine (Law.ints_n A7 n7 c7 Lo A8 n8 c8 Lo w10 HX10.out HY10.out true (by simp)).mono ?_
                  rintro e w11 ⟨rfl, hd⟩
                  have HB11 := Aside0.mk (below_step HB10.out hd.below)
                  have HC11 := Aside0.mk (C_drawn HC10.out hd)
                  clear hd
                  go_wp2_with (fail)
                  refine (Law.ints_n A10 v.length c10 v Av v.length cv v w11 HC11.out (Kd.C_below HV.out HB11.out) true (by simp)).mono ?_
                  rintro e w20 ⟨rfl, hd⟩
                  have HB20 := Aside0.mk (below_step HB11.out hd.below)
                  clear hd
                  go_wp2_with (fail)
                  refine (awake07_calls w20 (HL.out.below HB20.out)).mono ?_
                  rintro e wz ⟨rfl, hb⟩
                  have HBz := Aside0.mk (below_step HB20.out hb)
                  clear hb
                  go_wp2_with (fail)
                  go_ret
                  exact ⟨rfl, HBz.out⟩
            · have dz : (z != 0) = true := by simpa using h6
              clear h6
              go_enter Tryd.func11, Tryd.ntmps11
              go_wp2_with (fail)
              refine (tcheck_calls Av cv v w HV.out).mono ?_
              rw [HZ.out]
              rintro e w1 ⟨rfl, hb⟩
              have HB1 := Aside0.mk hb
              clear hb
              go_wp2_with (fail)
              refine (awake07_calls w1 (HL.out.below HB1.out)).mono ?_
              rintro e wz ⟨rfl, hb⟩
              have HBz := Aside0.mk (below_step HB1.out hb)
              clear hb
              go_wp2_with (fail)
              go_ret
              exact ⟨rfl, HBz.out⟩
theorem unit_n (Av : Option Addr) (nv cv : Nat) (v : List Int) (Ap : Option Addr) (np cp : Nat) (places : List Int) (Au : Option Addr) (nu cu : Nat) (u : List Int) (w : World)
    (hV : Kd.C (Kd.int .i64) w Av nv v) (hcv : nv ≤ cv) (hP : Kd.C (Kd.int .i64) w Ap np places) (hcp : np ≤ cp) (hU : Kd.C (Kd.int .i64) w Au nu u) (hcu : nu ≤ cu) (hL : LaidAt w 0 stepsA) :
    Calls Tryd.prog 11 #[.slice Av nv cv, .slice Ap np cp, .slice Au nu cu] w fun e w' => e = .returned (.bool true) ∧ Below w.heap.size w w' := by
  obtain rfl := hV.1
  obtain rfl := hP.1
  obtain rfl := hU.1
  exact unit_calls Av cv v Ap cp places Au cu u w hV hcv hP hcp hU hcu hL
end Go.Proofs.YtfameghednapkaaDoor.Ten
