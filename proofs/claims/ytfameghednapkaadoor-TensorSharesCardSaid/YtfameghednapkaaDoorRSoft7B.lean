/- cupelref07.Softmax: the shares of numbers. -/
import Derived.Test.YtfameghednapkaaDoorBunT3
import Derived.Test.YtfameghednapkaaDoorFixedRB
namespace Go.Proofs.YtfameghednapkaaDoor.Ten
open Go.RowKit Go.Proofs.YtfameghednapkaaDoorW.PrintWords Go.Proofs.YtfameghednapkaaDoorW.PrintLast Go.Proofs.YtfameghednapkaaDoorW.PrintMore Go.Proofs.YtfameghednapkaaDoor.K Go.Proofs.YtfameghednapkaaDoor.RI Go.Proofs.YtfameghednapkaaDoor.Fixed
set_option linter.unusedVariables false
set_option linter.unusedSimpArgs false
set_option maxHeartbeats 4000000 in
set_option maxRecDepth 100000 in
theorem rsoft_calls (A : Option Addr) (c : Nat) (l : List Int) (w : World) (hC : Kd.C (Kd.int .i64) w A l.length l) (h : checkV l = 0) :
    Calls Tryd.prog 27 #[.slice A l.length c] w fun e w' => ∃ A' c', e = .returned (.slice A' l.length c') ∧ Kd.R (Kd.int .i64) 3 w' w.heap.size (fun _ => True) (.slice A' l.length c') (softV l) ∧ Below w.heap.size w w' := by
  have HC := Aside0.mk hC
  have HIn := Aside0.mk (check_ok_in h)
  have HX : Aside0 (∀ k, k < l.length → ∀ W, Below w.heap.size w W → IntKind.i64.wrap (l.getD k 0 - maxV l) = l.getD k 0 - maxV l ∧ Calls Tryd.prog 50 #[.int .i64 (l.getD k 0 - maxV l)] W fun e w' => e = .returned (.int .i64 (expV (l.getD k 0 - maxV l))) ∧ Below W.heap.size W w') := ⟨fun k hk W hb => by
    have h1 := maxF_ge l (l.length - 1) k (by omega)
    have h2 := getD_r HIn.out.1 k
    obtain ⟨j, hj, e⟩ := maxF_at l (l.length - 1)
    have h3 := getD_r HIn.out.1 j
    have h4 : maxV l = l.getD j 0 := e
    have h5 : l.getD k 0 ≤ maxV l := h1
    exact ⟨by rw [IntKind.wrap_i64]; omega, rExp_calls _ W (by omega) (by omega)⟩⟩
  have hm := HC.out.2.1
  have HSB : Aside0 (∀ k : Nat, k ≤ l.length → 0 ≤ sumV ((expsV l).take k) ∧ sumV ((expsV l).take k) ≤ 65536 * (k : Int)) := ⟨fun k hk => by
    have h1 := sumV_bd (l := (expsV l).take k) fun x hx => expsV_bd l x (List.mem_of_mem_take hx)
    rw [List.length_take, Nat.min_eq_left (by simpa [expsV] using hk)] at h1
    exact h1⟩
  obtain ⟨ad, rfl, hc0⟩ := int_at HC.out 0 HIn.out.2.1
  have hc00 : w.cell? ad = some (.int .i64 (maxF l 0)) := by have h := hc0; cases ad; exact h
  have hd0 : decide ((0 : Int) < (l.length : Int)) = true := by have := HIn.out.2.1; simp; omega
  clear hc0
  obtain ⟨x0, hx0⟩ : ∃ x, x = maxF l 0 := ⟨_, rfl⟩
  have HX0 := Aside0.mk hx0
  rw [← hx0] at hc00
  clear hx0 hC h
  go_enter Tryd.func27, Tryd.ntmps27
  go_wp2_with (fail)
  rotate_left
  · exfalso
    have := HIn.out.2.1
    omega
  go_loop [3, 4] (fun s i => ∃ p : Nat, p ≤ l.length ∧ i = .int .i64 (p : Int) ∧ s = .int .i64 (maxF l (p - 1))) (fun _ i => l.length - (intOf i).toNat)
  case atStart => exact ⟨0, Nat.zero_le _, rfl, by rw [HX0.out]⟩
  case round =>
   obtain ⟨p, hk, rfl, rfl⟩ := hrel
   by_cases hlt : p < l.length
   · have hcr := int_cell HC.out (Below.refl _ _) p hlt
     clear hc00
     have HY : Aside0 (maxF l (p + 1 - 1) = if maxF l (p - 1) < l.getD p 0 then l.getD p 0 else maxF l (p - 1)) := ⟨by
       rcases Nat.eq_zero_or_pos p with h0 | h0
       · subst h0
         show maxF l 0 = if maxF l 0 < maxF l 0 then maxF l 0 else maxF l 0
         simp
       · obtain ⟨q, rfl⟩ : ∃ q, p = q + 1 := ⟨p - 1, by omega⟩
         rfl⟩
     generalize l.getD p 0 = x at *
     generalize maxF l (p - 1) = m at *
     go_wp2
     refine ⟨⟨p + 1, by omega, by go_num, by rw [HY.out]⟩, by simp [intOf]; omega⟩
   · obtain rfl : p = l.length := by omega
     have HMx : Aside0 (maxF l (l.length - 1) = maxV l) := ⟨rfl⟩
     clear hc00
     rw [HMx.out]
     have HB : Aside0 (Below w.heap.size w w) := ⟨Below.refl _ _⟩
     go_wp2_with (fail)
     clear hd0
     go_loopw [5, 6, 7] (fun o s i wr => ∃ k : Nat, k ≤ l.length ∧ i = .int .i64 (k : Int) ∧ s = .int .i64 (sumV ((expsV l).take k)) ∧ Aside0 (wr.ownsRow w.heap.size 3 1 o ((expsV l).take k).length (nums .i64 ((expsV l).take k)) ∧ Below w.heap.size w wr)) (fun _ _ i _ => l.length - (intOf i).toNat)
     case atStart => exact ⟨0, Nat.zero_le _, rfl, rfl, ⟨own_nil _ _ _ _, HB.out⟩⟩
     case round =>
       obtain ⟨k, hk, rfl, rfl, HO⟩ := hrel
       have hl512 := HIn.out.2.2
       by_cases hlt : k < l.length
       · have hc := int_cell HC.out HO.out.2 k hlt
         obtain ⟨hw1, hcall⟩ := HX.out k hlt wr HO.out.2
         obtain ⟨df, hdf⟩ : ∃ df, df = l.getD k 0 - maxV l := ⟨_, rfl⟩
         rw [← hdf] at hcall
         have HE := Aside0.mk hcall
         have HS := Aside0.mk (exps_snoc l k hlt)
         have HSn : Aside0 (sumV ((expsV l).take (k + 1)) = sumV ((expsV l).take k) + expV (l.getD k 0 - maxV l)) := ⟨by rw [HS.out, sumV_append]; simp [sumV]⟩
         have hw2 : IntKind.i64.wrap (sumV ((expsV l).take k) + expV (l.getD k 0 - maxV l)) = sumV ((expsV l).take (k + 1)) := by
           have := HSB.out (k + 1) (by omega)
           rw [HSn.out] at this ⊢
           rw [IntKind.wrap_i64]
           omega
         rw [← hdf] at hw1 hw2 HSn
         have HLen : Aside0 (((expsV l).take k).length = k) := ⟨by rw [List.length_take, Nat.min_eq_left (by simpa [expsV] using hk)]⟩
         clear hcall
         rw [← hdf] at HS
         have hw1 : IntKind.i64.wrap (l.getD k 0 - maxV l) = df := by rw [← hdf]; exact hw1
         clear hdf
         generalize expV df = ex at *
         obtain ⟨s1, hs1⟩ : ∃ s1, s1 = sumV ((expsV l).take (k + 1)) := ⟨_, rfl⟩
         rw [← hs1] at hw2 HSn
         have HS1 := Aside0.mk hs1
         clear hs1
         generalize sumV ((expsV l).take k) = s0 at *
         generalize l.getD k 0 = x at *
         generalize (expsV l).take k = es at *
         obtain ⟨A3, c3, rfl⟩ := own_slice HO.out.1
         generalize maxV l = mx at *
         go_wp2_with (fail)
         refine HE.out.mono ?_
         rintro e w4 ⟨rfl, hb4⟩
         have HO4 : Aside0 (w4.ownsRow w.heap.size 3 1 (.slice A3 es.length c3) es.length (nums .i64 es) ∧ Below w.heap.size w w4) := ⟨own_int (Kd.R_below (R_int HO.out.1) hb4), below_step HO.out.2 hb4⟩
         clear hb4
         go_wp2_with (at_builtin; refine print_append_num (w0 := w) w.heap.size rfl (.tmp 38) (.tmp 40) 22 3 .i64 8 rfl Tryd.underlying22 info_int (by decide) _ es _ rfl rfl HO4.out.1 HO4.out.2 HO4.out.2.size ?_ ?_; rotate_left; intro v1 w1 hown hbw hgr hat; have HA := Aside0.mk (And.intro hown hbw); clear hown hbw hgr hat)
         · skip
           go_roundw
           case rel => exact ⟨k + 1, by omega, by go_num, by rw [HS1.out], ⟨by rw [HS.out]; exact HA.out.1, HA.out.2⟩⟩
           case measure => simp [intOf]; omega
         · have := HLen.out
           omega
       · obtain rfl : k = l.length := by omega
         have HEl : Aside0 ((expsV l).length = l.length) := ⟨by simp [expsV]⟩
         have h1 := HO.out.1
         rw [← HEl.out, List.take_length] at h1
         obtain ⟨g, c9, rfl, hg, hglt, hle, hmx9, hdat⟩ := Top.R_dat (R_int h1) (by rw [HEl.out]; exact HIn.out.2.1)
         have HG := Aside0.mk (And.intro hg (And.intro hle hmx9))
         have HD := Aside0.mk hdat
         have HSu : Aside0 (sumV ((expsV l).take l.length) = sumV (expsV l)) := ⟨by rw [← HEl.out, List.take_length]⟩
         have HS0 := Aside0.mk (sumV_pos HIn.out.2.1)
         have HS9 := HSB.out l.length (Nat.le_refl _)
         have HEb := Aside0.mk (expsV_bd l)
         have HV9 : Aside0 (softV l = (expsV l).map fun x => x * 65536 / sumV (expsV l)) := ⟨rfl⟩
         have HVl : Aside0 ((softV l).length = (expsV l).length) := ⟨by simp [softV]⟩
         clear h1 hg hle hmx9 hdat
         rw [HSu.out] at HS9 ⊢
         rw [HEl.out]
         have HB9 := Aside0.mk HO.out.2
         obtain ⟨so, hso⟩ : ∃ so, so = softV l := ⟨_, rfl⟩
         rw [← hso] at HV9 HVl
         have HSo := Aside0.mk hso
         clear hso
         clear HSu HSB HX HO
         generalize sumV (expsV l) = sm at *
         generalize expsV l = es at *
         have hs0 : 0 < sm := by have := HS0.out; omega
         go_wp2_with (fail)
         go_loopw [9] (fun i wq => ∃ k : Nat, k ≤ l.length ∧ i = .int .i64 (k : Int) ∧ Aside0 (Sort.Dat wq g c9 (mixed so es k) ∧ Below w.heap.size w wq)) (fun i _ => l.length - (intOf i).toNat)
         case atStart => exact ⟨0, Nat.zero_le _, rfl, ⟨HD.out, HB9.out⟩⟩
         case round =>
           obtain ⟨k, hk, rfl, HR⟩ := hrel
           by_cases hlt : k < l.length
           · have HL1 : Aside0 ((mixed so es k).length = l.length) := ⟨by rw [mixed_length HVl.out (by rw [HEl.out]; omega), HEl.out]⟩
             obtain ⟨hc, hf⟩ := HR.out.1.at_ k (by rw [HL1.out]; exact hlt)
             rw [mixed_get HVl.out (by rw [HEl.out]; exact hlt)] at hc
             have HMem : es.getD k 0 ∈ es := by
               rw [List.getD_eq_getElem?_getD, List.getElem?_eq_getElem (by rw [HEl.out]; exact hlt)]
               exact List.getElem_mem _
             have hxb := HEb.out _ HMem
             have HY : Aside0 (so.getD k 0 = es.getD k 0 * 65536 / sm) := ⟨by
               rw [HV9.out, List.getD_eq_getElem?_getD, List.getD_eq_getElem?_getD, List.getElem?_map, List.getElem?_eq_getElem (by rw [HEl.out]; exact hlt)]
               rfl⟩
             have HSet := Aside0.mk (mixed_set (a := so) (b := es) (k := k) HVl.out (by rw [HEl.out]; exact hlt))
             clear HMem
             generalize es.getD k 0 = x at *
             go_wp2
             refine ⟨⟨k + 1, by omega, by go_num, ⟨?_, HR.out.2.setCell HG.out.1 _⟩⟩, by simp [intOf]; omega⟩
             rw [← HSet.out, HY.out]
             exact HR.out.1.set k _ (by rw [HL1.out]; exact hlt)
           · obtain rfl : k = l.length := by omega
             go_wp2
             go_ret
             have HF : mixed so es l.length = so := by rw [← HEl.out, mixed, List.drop_length, List.append_nil, ← HVl.out, List.take_length]
             have h1 := HR.out.1
             rw [HF] at h1
             have h2 := R_int (own_low (h1.own (by rw [HVl.out]; exact HG.out.2.1) HG.out.2.2) HG.out.1)
             rw [show so.length = l.length by rw [HVl.out, HEl.out]] at h2
             rw [← HSo.out]
             exact ⟨some ⟨g, 0, none⟩, c9, rfl, h2, HR.out.2⟩
end Go.Proofs.YtfameghednapkaaDoor.Ten
