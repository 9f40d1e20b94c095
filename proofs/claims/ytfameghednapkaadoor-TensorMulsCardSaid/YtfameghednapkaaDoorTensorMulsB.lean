/- TensorMuls: the law's walk. -/
import Derived.Test.YtfameghednapkaaDoorTenMul2B
import Derived.Test.YtfameghednapkaaDoorTensorDotsB
namespace Go.Proofs.YtfameghednapkaaDoor.Ten
open Go.RowKit Go.Proofs.YtfameghednapkaaDoorW.PrintWords Go.Proofs.YtfameghednapkaaDoorW.PrintLast Go.Proofs.YtfameghednapkaaDoorW.PrintMore Go.Proofs.YtfameghednapkaaDoor.K Go.Proofs.YtfameghednapkaaDoor.RI Go.Proofs.YtfameghednapkaaDoor.Fixed Go.Proofs.YtfameghednapkaaDoor.PTensorDots
set_option linter.unusedVariables false
set_option linter.unusedSimpArgs false
set_option maxHeartbeats 8000000 in
set_option maxRecDepth 100000 in
theorem muls_calls (rows cols : Int) (A : Option Addr) (c : Nat) (l : List Int) (A' : Option Addr) (c' : Nat) (v : List Int) (w : World) (hC : Kd.C (Kd.int .i64) w A l.length l) (hc : l.length ≤ c) (hV : Kd.C (Kd.int .i64) w A' v.length v) (hc' : v.length ≤ c') (hL : LaidAt w 0 stepsA) :
    Calls Tryd.prog 7 #[.agg #[.int .i64 rows, .int .i64 cols, .slice A l.length c], .slice A' v.length c'] w fun e w' => e = .returned (.bool true) ∧ Below w.heap.size w w' := by
  have HL := Aside0.mk hL
  have HC := Aside0.mk hC
  have HV := Aside0.mk hV
  have HCc := Aside0.mk (And.intro hc hc')
  have HB0 : Aside0 (Below w.heap.size w (w.alloc (.cells #[.int .i64 rows, .int .i64 cols, .slice A l.length c] 36))) := ⟨bel_alloc (Below.refl _ _) _⟩
  have HR0 : Aside0 ((w.alloc (.cells #[.int .i64 rows, .int .i64 cols, .slice A l.length c] 36)).heap[w.heap.size]? = some (.cells #[.int .i64 rows, .int .i64 cols, .slice A l.length c] 36 (0, 0))) := ⟨heap_alloc_new _ _⟩
  clear hC hV hL hc hc'
  by_cases h1 : 600 < l.length
  · have d1 : decide (600 < (l.length : Int)) = true := by simp; omega
    clear h1
    go_enter Tryd.func7, Tryd.ntmps7
    go_wp2_with (fail)
    generalize (w.alloc (.cells #[.int .i64 rows, .int .i64 cols, .slice A l.length c] 36)) = w0 at *
    refine (awake07_calls w0 (HL.out.below HB0.out)).mono ?_
    rintro e wz ⟨rfl, hb⟩
    have HBz := Aside0.mk (below_step HB0.out hb)
    clear hb
    go_wp2_with (fail)
    go_ret
    exact ⟨rfl, HBz.out⟩
  · have d1 : decide (600 < (l.length : Int)) = false := by simp; omega
    clear h1
    by_cases h2 : 100 < v.length
    · have d2 : decide (100 < (v.length : Int)) = true := by simp; omega
      clear h2
      go_enter Tryd.func7, Tryd.ntmps7
      go_wp2_with (fail)
      generalize (w.alloc (.cells #[.int .i64 rows, .int .i64 cols, .slice A l.length c] 36)) = w0 at *
      refine (awake07_calls w0 (HL.out.below HB0.out)).mono ?_
      rintro e wz ⟨rfl, hb⟩
      have HBz := Aside0.mk (below_step HB0.out hb)
      clear hb
      go_wp2_with (fail)
      go_ret
      exact ⟨rfl, HBz.out⟩
    · have d2 : decide (100 < (v.length : Int)) = false := by simp; omega
      clear h2
      by_cases hz : mV rows cols l = 0
      · have HZ := Aside0.mk hz
        by_cases hv : (v.length : Int) = cols
        · obtain ⟨n, rfl⟩ : ∃ n : Nat, rows = (n : Int) := ⟨rows.toNat, by have := (m_ok hz).1; omega⟩
          have hvd : ((v.length : Int) != cols) = false := by simpa using hv
          have HVn := Aside0.mk hv
          clear hv hz
          by_cases he0 : errF (fun k => dotV (rowL cols l (k : Int)) v) n 0 = 0
          · have HE := Aside0.mk he0
            clear he0
            go_enter Tryd.func7, Tryd.ntmps7
            go_wp2_with (fail)
            generalize (w.alloc (.cells #[.int .i64 (n : Int), .int .i64 cols, .slice A l.length c] 36)) = w0 at *
            refine (mul_ok_calls (n : Int) cols A c l A' c' v w0 (Kd.C_below HC.out HB0.out) HCc.out.1 (Kd.C_below HV.out HB0.out) HZ.out HVn.out).mono ?_
            rw [show ((n : Int)).toNat = n from Int.toNat_natCast n]
            rintro e w1 ⟨h1, h2, hb⟩
            have HB1 := Aside0.mk (below_step HB0.out hb)
            have HD1 := Aside0.mk hb
            have HR1 : Aside0 (w1.heap[w.heap.size]? = some (.cells #[.int .i64 (n : Int), .int .i64 cols, .slice A l.length c] 36 (0, 0))) := ⟨(hb.block _ (blk_lt HR0.out)).trans HR0.out⟩
            obtain ⟨hc0, hc1, hc2⟩ := mat_cells HR1.out
            obtain ⟨vg, rfl, hr⟩ := h2 HE.out
            obtain ⟨A2, c2, rfl⟩ := own_slice (own_int hr)
            have HG1 : Aside0 (Kd.C (Kd.int .i64) w1 A2 (outL (fun k => dotV (rowL cols l (k : Int)) v) n).length (outL (fun k => dotV (rowL cols l (k : Int)) v) n)) := ⟨(Kd.R_reads' hr).2.2⟩
            clear hr
            clear h1 h2 hb
            go_wp2_with (fail)
            clear hc0 hc1 hc2
            refine (rmatrix_calls (n : Int) cols A c l w1 (Kd.C_below HC.out HB1.out)).mono ?_
            rw [HZ.out]
            rintro e w2 ⟨rfl, hb⟩
            have HD12 := Aside0.mk hb
            have HB2 := Aside0.mk (below_step HB1.out hb)
            have HR2 : Aside0 (w2.heap[w.heap.size]? = some (.cells #[.int .i64 (n : Int), .int .i64 cols, .slice A l.length c] 36 (0, 0))) := ⟨(hb.block _ (blk_lt HR1.out)).trans HR1.out⟩
            obtain ⟨hc0, hc1, hc2⟩ := mat_cells HR2.out
            clear hb
            go_wp2_with (fail)
            clear hc0 hc1 hc2
            have HSm : Aside0 (∀ k, k < n → errF (fun k => dotV (rowL cols l (k : Int)) v) (n - k) k = if (dotV (rowL cols l (k : Int)) v).2 = 0 then errF (fun k => dotV (rowL cols l (k : Int)) v) (n - (k + 1)) (k + 1) else (dotV (rowL cols l (k : Int)) v).2) := ⟨fun k hk => by
              rw [show n - k = (n - (k + 1)) + 1 by omega]
              rfl⟩
            have HN5 : Aside0 (n ≤ 512) := ⟨by have := (m_ok HZ.out).2.1; omega⟩
            go_loopw [7, 8, 9] (fun z o i wr => ∃ (k : Nat) (y : Int), k ≤ n ∧ i = .int .i64 (k : Int) ∧ z = .int .i64 y ∧ Aside0 (wr.ownsRow w2.heap.size 3 1 o (outL (fun k => dotV (rowL cols l (k : Int)) v) k).length (nums .i64 (outL (fun k => dotV (rowL cols l (k : Int)) v) k)) ∧ Below w2.heap.size w2 wr ∧ ((y = 0 ∧ errF (fun k => dotV (rowL cols l (k : Int)) v) n 0 = errF (fun k => dotV (rowL cols l (k : Int)) v) (n - k) k) ∨ (y ≠ 0 ∧ errF (fun k => dotV (rowL cols l (k : Int)) v) n 0 = y)))) (fun _ _ i _ => n - (intOf i).toNat)
            case atStart => exact ⟨0, 0, Nat.zero_le _, rfl, rfl, ⟨own_nil _ _ _ _, Below.refl _ _, .inl ⟨rfl, rfl⟩⟩⟩
            case round =>
              obtain ⟨k, y, hk, rfl, rfl, HO⟩ := hrel
              have HRw : Aside0 (wr.heap[w.heap.size]? = some (.cells #[.int .i64 (n : Int), .int .i64 cols, .slice A l.length c] 36 (0, 0))) := ⟨(HO.out.2.1.block _ (blk_lt HR2.out)).trans HR2.out⟩
              have HBw := Aside0.mk (below_step HB2.out HO.out.2.1)
              obtain ⟨hc0, hc1, hc2⟩ := mat_cells HRw.out
              by_cases hlt : k < n
              · have dk : decide ((k : Int) < (n : Int)) = true := by simp; omega
                by_cases hy : y = 0
                · subst hy
                  have HEk : Aside0 (errF (fun k => dotV (rowL cols l (k : Int)) v) n 0 = errF (fun k => dotV (rowL cols l (k : Int)) v) (n - k) k) := ⟨by rcases HO.out.2.2 with h | h; exact h.2; exact absurd rfl h.1⟩
                  obtain ⟨m1, m2, m3, m4, m5, _⟩ := m_ok HZ.out
                  obtain ⟨e1, e2, e3⟩ := row_in m1 m2 m3 m4 (show 0 ≤ (k : Int) by omega) (show (k : Int) < (n : Int) by omega)
                  obtain ⟨p, hp⟩ : ∃ p, p = (k : Int) * cols := ⟨_, rfl⟩
                  obtain ⟨q, hq⟩ : ∃ q, q = (k : Int) * cols + cols := ⟨_, rfl⟩
                  have hwp : IntKind.i64.wrap ((k : Int) * cols) = p := by rw [hp, IntKind.wrap_i64]; omega
                  have hwq : IntKind.i64.wrap (p + cols) = q := by rw [hp, hq, IntKind.wrap_i64]; omega
                  have hwk : IntKind.i64.wrap ((k : Int) + 1) = (k : Int) + 1 := by rw [IntKind.wrap_i64]; omega
                  obtain ⟨A6, hsl, hC6, hle6⟩ := mid_int (k := .i64) (P := Tryd.prog) 22 3 Tryd.underlying22 info_ten A c l p q p.toNat cols.toNat (by omega) (by omega) (by omega) HCc.out.1
                  have hR : (l.drop p.toNat).take cols.toNat = rowL cols l (k : Int) := by rw [hp]; rfl
                  rw [hR] at hC6 hle6 hsl
                  have HCr : Aside0 (Kd.C (Kd.int .i64) wr A6 (rowL cols l (k : Int)).length (rowL cols l (k : Int))) := ⟨hC6 wr (Kd.C_below HC.out HBw.out)⟩
                  have HLe := Aside0.mk hle6
                  have HS := Aside0.mk (HSm.out k hlt)
                  have HX := Aside0.mk (outL_succ (fun k => dotV (rowL cols l (k : Int)) v) k)
                  have HLen := Aside0.mk (outL_length (fun k => dotV (rowL cols l (k : Int)) v) k)
                  clear hC6 hle6 hR m1 m2 m3 m4 m5 e1 e2 e3 hp hq
                  go_wp2_with (fail)
                  refine (rdot_calls A6 _ (rowL cols l (k : Int)) A' c' v wr HCr.out HLe.out (Kd.C_below HV.out HBw.out) HCc.out.2).mono ?_
                  rintro e w3 ⟨rfl, hd⟩
                  have HB3 := Aside0.mk (below_step HO.out.2.1 hd.below)
                  have HO3 : Aside0 (Kd.R (Kd.int .i64) 3 w3 w2.heap.size (fun _ => True) _ (outL (fun k => dotV (rowL cols l (k : Int)) v) k)) := ⟨Kd.R_below (R_int HO.out.1) hd.below⟩
                  clear hd hc0 hc1 hc2
                  obtain ⟨pr, hpr⟩ : ∃ pr, pr = dotV (rowL cols l (k : Int)) v := ⟨_, rfl⟩
                  rw [← hpr] at HS ⊢
                  replace HX : Aside0 (outL (fun k => dotV (rowL cols l (k : Int)) v) (k + 1) = outL (fun k => dotV (rowL cols l (k : Int)) v) k ++ [pr.1]) := ⟨by rw [hpr]; exact HX.out⟩
                  clear hpr
                  obtain ⟨x, y⟩ := pr
                  have HN3 : Aside0 ((y = 0 ∧ errF (fun k => dotV (rowL cols l (k : Int)) v) n 0 = errF (fun k => dotV (rowL cols l (k : Int)) v) (n - (k + 1)) (k + 1)) ∨ (y ≠ 0 ∧ errF (fun k => dotV (rowL cols l (k : Int)) v) n 0 = y)) := ⟨by
                    have h := HS.out
                    by_cases h0 : y = 0
                    · exact .inl ⟨h0, by rw [HEk.out, h, if_pos h0]⟩
                    · exact .inr ⟨h0, by rw [HEk.out, h, if_neg h0]⟩⟩
                  have HO4 := Aside0.mk (own_int HO3.out)
                  obtain ⟨es, hes⟩ : ∃ es, es = outL (fun k => dotV (rowL cols l (k : Int)) v) k := ⟨_, rfl⟩
                  rw [← hes] at HO4 HX HLen
                  clear hes HO3 HO
                  obtain ⟨A7, c7, rfl⟩ := own_slice HO4.out
                  go_wp2_with (at_builtin; refine print_append_num (w0 := w2) w2.heap.size rfl (.tmp 74) (.tmp 76) 22 3 .i64 8 rfl Tryd.underlying22 info_int (by decide) _ es _ rfl rfl HO4.out HB3.out HB3.out.size ?_ ?_; rotate_left; intro v1 w4 hown hbw hgr hat; have HA := Aside0.mk (And.intro hown (And.intro hbw hgr)); clear hown hbw hgr hat)
                  · refine ⟨⟨k + 1, y, by omega, by go_num, rfl, ⟨by rw [HX.out]; exact HA.out.1, HA.out.2.1, HN3.out⟩⟩, by simp [intOf]; omega⟩
                  · have := HLen.out
                    have := HN5.out
                    omega
                · have hyd : (y == 0) = false := by simpa using hy
                  have hyn : (y != 0) = true := by simpa using hy
                  have HEy : Aside0 (errF (fun k => dotV (rowL cols l (k : Int)) v) n 0 = y) := ⟨by rcases HO.out.2.2 with h | h; exact absurd h.1 hy; exact h.2⟩
                  exact absurd (HEy.out.symm.trans HE.out) hy
              · have dk : decide ((k : Int) < (n : Int)) = false := by simp; omega
                obtain rfl : k = n := by omega
                by_cases hy : y = 0
                · subst hy
                  obtain ⟨A7, c7, rfl⟩ := own_slice HO.out.1
                  have HG7 : Aside0 (Kd.C (Kd.int .i64) wr A7 (outL (fun k => dotV (rowL cols l (k : Int)) v) k).length (outL (fun k => dotV (rowL cols l (k : Int)) v) k)) := ⟨own_C HO.out.1⟩
                  have HG1w : Aside0 (Kd.C (Kd.int .i64) wr A2 (outL (fun k => dotV (rowL cols l (k : Int)) v) k).length (outL (fun k => dotV (rowL cols l (k : Int)) v) k)) := ⟨Kd.C_below (Kd.C_below HG1.out HD12.out) HO.out.2.1⟩
                  clear HO
                  go_wp2_with (fail)
                  clear hc0 hc1 hc2
                  refine (Law.ints_n A2 _ c2 (outL (fun k => dotV (rowL cols l (k : Int)) v) k) A7 _ c7 (outL (fun k => dotV (rowL cols l (k : Int)) v) k) wr HG1w.out HG7.out true (by simp)).mono ?_
                  rintro e w5 ⟨rfl, hd⟩
                  have HB5 := Aside0.mk (below_step HBw.out hd.below)
                  clear hd
                  go_wp2_with (fail)
                  refine (awake07_calls w5 (HL.out.below HB5.out)).mono ?_
                  rintro e wz ⟨rfl, hb⟩
                  have HBz := Aside0.mk (below_step HB5.out hb)
                  clear hb
                  go_wp2_with (fail)
                  go_ret
                  exact ⟨rfl, HBz.out⟩
                · have hyd : (y == 0) = false := by simpa using hy
                  have hyn : (y != 0) = true := by simpa using hy
                  have HEy : Aside0 (errF (fun k => dotV (rowL cols l (k : Int)) v) k 0 = y) := ⟨by rcases HO.out.2.2 with h | h; exact absurd h.1 hy; exact h.2⟩
                  exact absurd (HEy.out.symm.trans HE.out) hy
          · have HE := Aside0.mk he0
            clear he0
            go_enter Tryd.func7, Tryd.ntmps7
            go_wp2_with (fail)
            generalize (w.alloc (.cells #[.int .i64 (n : Int), .int .i64 cols, .slice A l.length c] 36)) = w0 at *
            refine (mul_ok_calls (n : Int) cols A c l A' c' v w0 (Kd.C_below HC.out HB0.out) HCc.out.1 (Kd.C_below HV.out HB0.out) HZ.out HVn.out).mono ?_
            rw [show ((n : Int)).toNat = n from Int.toNat_natCast n]
            rintro e w1 ⟨h1, h2, hb⟩
            have HB1 := Aside0.mk (below_step HB0.out hb)
            have HD1 := Aside0.mk hb
            have HR1 : Aside0 (w1.heap[w.heap.size]? = some (.cells #[.int .i64 (n : Int), .int .i64 cols, .slice A l.length c] 36 (0, 0))) := ⟨(hb.block _ (blk_lt HR0.out)).trans HR0.out⟩
            obtain ⟨hc0, hc1, hc2⟩ := mat_cells HR1.out
            obtain ⟨er, her⟩ : ∃ er, er = errF (fun k => dotV (rowL cols l (k : Int)) v) n 0 := ⟨_, rfl⟩
            rw [← her] at h1
            have he := h1 (by rw [her]; exact HE.out)
            have HEr := Aside0.mk her
            have hern : (er == 0) = false := by rw [her]; simpa using HE.out
            have hern2 : (er != 0) = true := by rw [her]; simpa using HE.out
            subst he
            clear her
            clear h1 h2 hb
            go_wp2_with (fail)
            clear hc0 hc1 hc2
            refine (rmatrix_calls (n : Int) cols A c l w1 (Kd.C_below HC.out HB1.out)).mono ?_
            rw [HZ.out]
            rintro e w2 ⟨rfl, hb⟩
            have HD12 := Aside0.mk hb
            have HB2 := Aside0.mk (below_step HB1.out hb)
            have HR2 : Aside0 (w2.heap[w.heap.size]? = some (.cells #[.int .i64 (n : Int), .int .i64 cols, .slice A l.length c] 36 (0, 0))) := ⟨(hb.block _ (blk_lt HR1.out)).trans HR1.out⟩
            obtain ⟨hc0, hc1, hc2⟩ := mat_cells HR2.out
            clear hb
            go_wp2_with (fail)
            clear hc0 hc1 hc2
            have HSm : Aside0 (∀ k, k < n → errF (fun k => dotV (rowL cols l (k : Int)) v) (n - k) k = if (dotV (rowL cols l (k : Int)) v).2 = 0 then errF (fun k => dotV (rowL cols l (k : Int)) v) (n - (k + 1)) (k + 1) else (dotV (rowL cols l (k : Int)) v).2) := ⟨fun k hk => by
              rw [show n - k = (n - (k + 1)) + 1 by omega]
              rfl⟩
            have HN5 : Aside0 (n ≤ 512) := ⟨by have := (m_ok HZ.out).2.1; omega⟩
            go_loopw [7, 8, 9] (fun z o i wr => ∃ (k : Nat) (y : Int), k ≤ n ∧ i = .int .i64 (k : Int) ∧ z = .int .i64 y ∧ Aside0 (wr.ownsRow w2.heap.size 3 1 o (outL (fun k => dotV (rowL cols l (k : Int)) v) k).length (nums .i64 (outL (fun k => dotV (rowL cols l (k : Int)) v) k)) ∧ Below w2.heap.size w2 wr ∧ ((y = 0 ∧ errF (fun k => dotV (rowL cols l (k : Int)) v) n 0 = errF (fun k => dotV (rowL cols l (k : Int)) v) (n - k) k) ∨ (y ≠ 0 ∧ errF (fun k => dotV (rowL cols l (k : Int)) v) n 0 = y)))) (fun _ _ i _ => n - (intOf i).toNat)
            case atStart => exact ⟨0, 0, Nat.zero_le _, rfl, rfl, ⟨own_nil _ _ _ _, Below.refl _ _, .inl ⟨rfl, rfl⟩⟩⟩
            case round =>
              obtain ⟨k, y, hk, rfl, rfl, HO⟩ := hrel
              have HRw : Aside0 (wr.heap[w.heap.size]? = some (.cells #[.int .i64 (n : Int), .int .i64 cols, .slice A l.length c] 36 (0, 0))) := ⟨(HO.out.2.1.block _ (blk_lt HR2.out)).trans HR2.out⟩
              have HBw := Aside0.mk (below_step HB2.out HO.out.2.1)
              obtain ⟨hc0, hc1, hc2⟩ := mat_cells HRw.out
              by_cases hlt : k < n
              · have dk : decide ((k : Int) < (n : Int)) = true := by simp; omega
                by_cases hy : y = 0
                · subst hy
                  have HEk : Aside0 (errF (fun k => dotV (rowL cols l (k : Int)) v) n 0 = errF (fun k => dotV (rowL cols l (k : Int)) v) (n - k) k) := ⟨by rcases HO.out.2.2 with h | h; exact h.2; exact absurd rfl h.1⟩
                  obtain ⟨m1, m2, m3, m4, m5, _⟩ := m_ok HZ.out
                  obtain ⟨e1, e2, e3⟩ := row_in m1 m2 m3 m4 (show 0 ≤ (k : Int) by omega) (show (k : Int) < (n : Int) by omega)
                  obtain ⟨p, hp⟩ : ∃ p, p = (k : Int) * cols := ⟨_, rfl⟩
                  obtain ⟨q, hq⟩ : ∃ q, q = (k : Int) * cols + cols := ⟨_, rfl⟩
                  have hwp : IntKind.i64.wrap ((k : Int) * cols) = p := by rw [hp, IntKind.wrap_i64]; omega
                  have hwq : IntKind.i64.wrap (p + cols) = q := by rw [hp, hq, IntKind.wrap_i64]; omega
                  have hwk : IntKind.i64.wrap ((k : Int) + 1) = (k : Int) + 1 := by rw [IntKind.wrap_i64]; omega
                  obtain ⟨A6, hsl, hC6, hle6⟩ := mid_int (k := .i64) (P := Tryd.prog) 22 3 Tryd.underlying22 info_ten A c l p q p.toNat cols.toNat (by omega) (by omega) (by omega) HCc.out.1
                  have hR : (l.drop p.toNat).take cols.toNat = rowL cols l (k : Int) := by rw [hp]; rfl
                  rw [hR] at hC6 hle6 hsl
                  have HCr : Aside0 (Kd.C (Kd.int .i64) wr A6 (rowL cols l (k : Int)).length (rowL cols l (k : Int))) := ⟨hC6 wr (Kd.C_below HC.out HBw.out)⟩
                  have HLe := Aside0.mk hle6
                  have HS := Aside0.mk (HSm.out k hlt)
                  have HX := Aside0.mk (outL_succ (fun k => dotV (rowL cols l (k : Int)) v) k)
                  have HLen := Aside0.mk (outL_length (fun k => dotV (rowL cols l (k : Int)) v) k)
                  clear hC6 hle6 hR m1 m2 m3 m4 m5 e1 e2 e3 hp hq
                  go_wp2_with (fail)
                  refine (rdot_calls A6 _ (rowL cols l (k : Int)) A' c' v wr HCr.out HLe.out (Kd.C_below HV.out HBw.out) HCc.out.2).mono ?_
                  rintro e w3 ⟨rfl, hd⟩
                  have HB3 := Aside0.mk (below_step HO.out.2.1 hd.below)
                  have HO3 : Aside0 (Kd.R (Kd.int .i64) 3 w3 w2.heap.size (fun _ => True) _ (outL (fun k => dotV (rowL cols l (k : Int)) v) k)) := ⟨Kd.R_below (R_int HO.out.1) hd.below⟩
                  clear hd hc0 hc1 hc2
                  obtain ⟨pr, hpr⟩ : ∃ pr, pr = dotV (rowL cols l (k : Int)) v := ⟨_, rfl⟩
                  rw [← hpr] at HS ⊢
                  replace HX : Aside0 (outL (fun k => dotV (rowL cols l (k : Int)) v) (k + 1) = outL (fun k => dotV (rowL cols l (k : Int)) v) k ++ [pr.1]) := ⟨by rw [hpr]; exact HX.out⟩
                  clear hpr
                  obtain ⟨x, y⟩ := pr
                  have HN3 : Aside0 ((y = 0 ∧ errF (fun k => dotV (rowL cols l (k : Int)) v) n 0 = errF (fun k => dotV (rowL cols l (k : Int)) v) (n - (k + 1)) (k + 1)) ∨ (y ≠ 0 ∧ errF (fun k => dotV (rowL cols l (k : Int)) v) n 0 = y)) := ⟨by
                    have h := HS.out
                    by_cases h0 : y = 0
                    · exact .inl ⟨h0, by rw [HEk.out, h, if_pos h0]⟩
                    · exact .inr ⟨h0, by rw [HEk.out, h, if_neg h0]⟩⟩
                  have HO4 := Aside0.mk (own_int HO3.out)
                  obtain ⟨es, hes⟩ : ∃ es, es = outL (fun k => dotV (rowL cols l (k : Int)) v) k := ⟨_, rfl⟩
                  rw [← hes] at HO4 HX HLen
                  clear hes HO3 HO
                  obtain ⟨A7, c7, rfl⟩ := own_slice HO4.out
                  go_wp2_with (at_builtin; refine print_append_num (w0 := w2) w2.heap.size rfl (.tmp 74) (.tmp 76) 22 3 .i64 8 rfl Tryd.underlying22 info_int (by decide) _ es _ rfl rfl HO4.out HB3.out HB3.out.size ?_ ?_; rotate_left; intro v1 w4 hown hbw hgr hat; have HA := Aside0.mk (And.intro hown (And.intro hbw hgr)); clear hown hbw hgr hat)
                  · refine ⟨⟨k + 1, y, by omega, by go_num, rfl, ⟨by rw [HX.out]; exact HA.out.1, HA.out.2.1, HN3.out⟩⟩, by simp [intOf]; omega⟩
                  · have := HLen.out
                    have := HN5.out
                    omega
                · have hyd : (y == 0) = false := by simpa using hy
                  have hyn : (y != 0) = true := by simpa using hy
                  have HEy : Aside0 (errF (fun k => dotV (rowL cols l (k : Int)) v) n 0 = y) := ⟨by rcases HO.out.2.2 with h | h; exact absurd h.1 hy; exact h.2⟩
                  obtain rfl : y = er := HEy.out.symm.trans HEr.out.symm
                  clear HO HEy
                  go_wp2_with (fail)
                  clear hc0 hc1 hc2
                  refine (awake07_calls wr (HL.out.below HBw.out)).mono ?_
                  rintro e wz ⟨rfl, hb⟩
                  have HBz := Aside0.mk (below_step HBw.out hb)
                  clear hb
                  go_wp2_with (fail)
                  go_ret
                  exact ⟨rfl, HBz.out⟩
              · have dk : decide ((k : Int) < (n : Int)) = false := by simp; omega
                obtain rfl : k = n := by omega
                by_cases hy : y = 0
                · subst hy
                  exact absurd (by rcases HO.out.2.2 with h | h; rw [h.2, Nat.sub_self]; rfl; exact absurd rfl h.1) HE.out
                · have hyd : (y == 0) = false := by simpa using hy
                  have hyn : (y != 0) = true := by simpa using hy
                  have HEy : Aside0 (errF (fun k => dotV (rowL cols l (k : Int)) v) k 0 = y) := ⟨by rcases HO.out.2.2 with h | h; exact absurd h.1 hy; exact h.2⟩
                  obtain rfl : y = er := HEy.out.symm.trans HEr.out.symm
                  clear HO HEy
                  go_wp2_with (fail)
                  clear hc0 hc1 hc2
                  refine (awake07_calls wr (HL.out.below HBw.out)).mono ?_
                  rintro e wz ⟨rfl, hb⟩
                  have HBz := Aside0.mk (below_step HBw.out hb)
                  clear hb
                  go_wp2_with (fail)
                  go_ret
                  exact ⟨rfl, HBz.out⟩
        · have hvd : ((v.length : Int) != cols) = true := by simpa using hv
          have HVn := Aside0.mk hv
          clear hv hz
          go_enter Tryd.func7, Tryd.ntmps7
          go_wp2_with (fail)
          generalize (w.alloc (.cells #[.int .i64 rows, .int .i64 cols, .slice A l.length c] 36)) = w0 at *
          refine (mul_size_calls rows cols A c l A' c' v w0 (Kd.C_below HC.out HB0.out) HZ.out HVn.out).mono ?_
          rintro e w1 ⟨rfl, hb⟩
          have HB1 := Aside0.mk (below_step HB0.out hb)
          have HR1 : Aside0 (w1.heap[w.heap.size]? = some (.cells #[.int .i64 rows, .int .i64 cols, .slice A l.length c] 36 (0, 0))) := ⟨(hb.block _ (blk_lt HR0.out)).trans HR0.out⟩
          obtain ⟨hc0, hc1, hc2⟩ := mat_cells HR1.out
          clear hb
          go_wp2_with (fail)
          clear hc0 hc1 hc2
          refine (rmatrix_calls rows cols A c l w1 (Kd.C_below HC.out HB1.out)).mono ?_
          rw [HZ.out]
          rintro e w2 ⟨rfl, hb⟩
          have HB2 := Aside0.mk (below_step HB1.out hb)
          have HR2 : Aside0 (w2.heap[w.heap.size]? = some (.cells #[.int .i64 rows, .int .i64 cols, .slice A l.length c] 36 (0, 0))) := ⟨(hb.block _ (blk_lt HR1.out)).trans HR1.out⟩
          obtain ⟨hc0, hc1, hc2⟩ := mat_cells HR2.out
          clear hb
          go_wp2_with (fail)
          go_loopw [7, 9] (fun x i wr => x = .int .i64 13 ∧ i = .int .i64 0 ∧ wr = w2) (fun _ _ _ => 0)
          case atStart => exact ⟨rfl, rfl, rfl⟩
          case round =>
            obtain ⟨rfl, rfl, rfl⟩ := hrel
            by_cases hr : 0 < rows
            · have dr : decide (0 < rows) = true := by simpa using hr
              clear hr
              go_wp2_with (fail)
              refine (awake07_calls _ (HL.out.below HB2.out)).mono ?_
              rintro e wz ⟨rfl, hb⟩
              have HBz := Aside0.mk (below_step HB2.out hb)
              clear hb
              go_wp2_with (fail)
              go_ret
              exact ⟨rfl, HBz.out⟩
            · have dr : decide (0 < rows) = false := by simpa using hr
              clear hr
              go_wp2_with (fail)
              refine (awake07_calls _ (HL.out.below HB2.out)).mono ?_
              rintro e wz ⟨rfl, hb⟩
              have HBz := Aside0.mk (below_step HB2.out hb)
              clear hb
              go_wp2_with (fail)
              go_ret
              exact ⟨rfl, HBz.out⟩
      · have HNz := Aside0.mk hz
        obtain ⟨z, hzz⟩ : ∃ z, mV rows cols l = z := ⟨_, rfl⟩
        have HZ := Aside0.mk hzz
        have hzd : (z != 0) = true := by rw [← hzz]; simpa using hz
        have hze : (z == 0) = false := by rw [← hzz]; simpa using hz
        clear hz hzz
        go_enter Tryd.func7, Tryd.ntmps7
        go_wp2_with (fail)
        generalize (w.alloc (.cells #[.int .i64 rows, .int .i64 cols, .slice A l.length c] 36)) = w0 at *
        refine (mul_bad_calls rows cols A c l A' c' v w0 (Kd.C_below HC.out HB0.out) HNz.out).mono ?_
        rw [HZ.out]
        rintro e w1 ⟨rfl, hb⟩
        have HB1 := Aside0.mk (below_step HB0.out hb)
        have HR1 : Aside0 (w1.heap[w.heap.size]? = some (.cells #[.int .i64 rows, .int .i64 cols, .slice A l.length c] 36 (0, 0))) := ⟨(hb.block _ (blk_lt HR0.out)).trans HR0.out⟩
        obtain ⟨hc0, hc1, hc2⟩ := mat_cells HR1.out
        clear hb
        go_wp2_with (fail)
        clear hc0 hc1 hc2
        refine (rmatrix_calls rows cols A c l w1 (Kd.C_below HC.out HB1.out)).mono ?_
        rw [HZ.out]
        rintro e w2 ⟨rfl, hb⟩
        have HB2 := Aside0.mk (below_step HB1.out hb)
        have HR2 : Aside0 (w2.heap[w.heap.size]? = some (.cells #[.int .i64 rows, .int .i64 cols, .slice A l.length c] 36 (0, 0))) := ⟨(hb.block _ (blk_lt HR1.out)).trans HR1.out⟩
        obtain ⟨hc0, hc1, hc2⟩ := mat_cells HR2.out
        clear hb
        go_wp2_with (fail)
        go_loopw [7, 9] (fun x i wr => x = .int .i64 z ∧ i = .int .i64 0 ∧ wr = w2) (fun _ _ _ => 0)
        case atStart => exact ⟨rfl, rfl, rfl⟩
        case round =>
          obtain ⟨rfl, rfl, rfl⟩ := hrel
          by_cases hr : 0 < rows
          · have dr : decide (0 < rows) = true := by simpa using hr
            clear hr
            go_wp2_with (fail)
            refine (awake07_calls _ (HL.out.below HB2.out)).mono ?_
            rintro e wz ⟨rfl, hb⟩
            have HBz := Aside0.mk (below_step HB2.out hb)
            clear hb
            go_wp2_with (fail)
            go_ret
            exact ⟨rfl, HBz.out⟩
          · have dr : decide (0 < rows) = false := by simpa using hr
            clear hr
            go_wp2_with (fail)
            refine (awake07_calls _ (HL.out.below HB2.out)).mono ?_
            rintro e wz ⟨rfl, hb⟩
            have HBz := Aside0.mk (below_step HB2.out hb)
            clear hb
            go_wp2_with (fail)
            go_ret
            exact ⟨rfl, HBz.out⟩
theorem muls_n (rows cols : Int) (A : Option Addr) (n c : Nat) (l : List Int) (A' : Option Addr) (n' c' : Nat) (v : List Int) (w : World) (hC : Kd.C (Kd.int .i64) w A n l) (hc : n ≤ c) (hV : Kd.C (Kd.int .i64) w A' n' v) (hc' : n' ≤ c') (hL : LaidAt w 0 stepsA) :
    Calls Tryd.prog 7 #[.agg #[.int .i64 rows, .int .i64 cols, .slice A n c], .slice A' n' c'] w fun e w' => e = .returned (.bool true) ∧ Below w.heap.size w w' := by
  obtain rfl := hC.1
  obtain rfl := hV.1
  exact muls_calls rows cols A c l A' c' v w hC hc hV hc' hL
end Go.Proofs.YtfameghednapkaaDoor.Ten
