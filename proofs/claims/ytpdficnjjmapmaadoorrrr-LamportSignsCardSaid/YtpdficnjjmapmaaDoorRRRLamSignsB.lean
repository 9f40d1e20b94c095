/- LamportSigns: whatever the seed, the digest and the place, it answers true. -/
import Derived.Test.YtpdficnjjmapmaaDoorRRRBunL6
import Derived.Test.YtpdficnjjmapmaaDoorRRRLamBitRB
namespace Go.Proofs.YtpdficnjjmapmaaDoorRRR.Lam
open Go.RowKit Go.Proofs.YtpdficnjjmapmaaDoorRRRW.PrintWords Go.Proofs.YtpdficnjjmapmaaDoorRRRW.PrintLast Go.Proofs.YtpdficnjjmapmaaDoorRRRW.PrintMore Go.Proofs.YtpdficnjjmapmaaDoorRRR.K Go.Proofs.YtpdficnjjmapmaaDoorRRR.Sha Go.Proofs.YtpdficnjjmapmaaDoorRRR.RI
set_option linter.unusedVariables false
set_option linter.unusedSimpArgs false
def SnF (s X E : List Int) (pn bn g7 g9 : Nat) (iv : Nat) (xv : Value) (W : World) : Prop := match iv with
  | 0 => xv = .int .i64 (pn : Int)
  | 1 => xv = .pointer (some ⟨g7, 0, none⟩)
  | 2 => xv = .pointer (some ⟨g7, pn * 32, none⟩)
  | 3 => xv = .agg (dA X)
  | 4 => xv = .agg (dA s)
  | 5 => xv = .int .i64 (pn : Int)
  | 6 => xv = .int .i64 (bn : Int)
  | 7 => xv = .agg (dA X)
  | 8 => xv = .bool true
  | 9 => xv = .bool true
  | 10 => xv = .int .i64 (pn : Int)
  | 11 => xv = .pointer (some ⟨g7, 8192, none⟩)
  | 12 => xv = .pointer (some ⟨g7, 8192 + pn * 32, none⟩)
  | 13 => xv = .agg (dA E)
  | 14 => xv = .slice (some ⟨g9, 0, none⟩) 32 32
  | 15 => xv = .agg (dA E)
  | 16 => xv = .bool true
  | 17 => xv = .bool true
  | 18 => xv = .bool true
  | 19 => xv = .bool true
  | 20 => xv = .bool true
  | _ => True
theorem SnF.step (s X E : List Int) (pn bn g7 g9 : Nat) (i : Nat) (x : Value) (W W' : World) (hb : Below W.heap.size W W') (h : SnF s X E pn bn g7 g9 i x W) : SnF s X E pn bn g7 g9 i x W' := by
  unfold SnF at *
  split <;> simp only at h ⊢
  · exact h
  · exact h
  · exact h
  · exact h
  · exact h
  · exact h
  · exact h
  · exact h
  · exact h
  · exact h
  · exact h
  · exact h
  · exact h
  · exact h
  · exact h
  · exact h
  · exact h
  · exact h
  · exact h
  · exact h
  · exact h
set_option maxHeartbeats 8000000 in
set_option maxRecDepth 100000 in
theorem signslaw_calls (s m : List Int) (p : Int) (w : World) (hs : s.length = 32) (hsy : ∀ x ∈ s, 0 ≤ x ∧ x < 256) (hm : m.length = 32) (hmy : ∀ x ∈ m, 0 ≤ x ∧ x < 256) (hLf : LaidAt w 0 firstA) (hL : LaidAt w 1 constA) :
    Calls Tryd.prog 5 #[.agg (dA s), .agg (dA m), .int .i64 p] w fun e w' => e = .returned (.bool true) ∧ Below w.heap.size w w' := by
  have HLf := Aside0.mk hLf
  have HL := Aside0.mk hL
  have HSl := Aside0.mk hs
  have HSy := Aside0.mk hsy
  have HMl := Aside0.mk hm
  have HMy := Aside0.mk hmy
  have HSi := Aside0.mk (dig_info hs)
  have HMi := Aside0.mk (dig_info hm)
  have HB1 : Aside0 (Below w.heap.size w ((w.alloc (.cells (dA s) 23)).alloc (.cells (dA m) 23))) := ⟨bel_alloc (bel_alloc (Below.refl _ _) _) _⟩
  have HS1 : Aside0 (((w.alloc (.cells (dA s) 23)).alloc (.cells (dA m) 23)).heap[w.heap.size]? = some (.cells (dA s) 23 (0, 0))) := ⟨((bel_alloc (Below.refl _ _) _).block _ (blk_lt (heap_alloc_new w (.cells (dA s) 23)))).trans (heap_alloc_new _ _)⟩
  have HM1 : Aside0 (((w.alloc (.cells (dA s) 23)).alloc (.cells (dA m) 23)).heap[w.heap.size + 1]? = some (.cells (dA m) 23 (0, 0))) := ⟨by have := heap_alloc_new (w.alloc (.cells (dA s) 23)) (.cells (dA m) 23); rwa [World.size_alloc] at this⟩
  clear hLf hL hs hsy hm hmy
  by_cases hlo : p < 0 ∨ 255 < p
  · by_cases h1 : p < 0
    · have g1 : decide (p < 0) = true := by simpa using h1
      clear hlo
      go_enter Tryd.func5, Tryd.ntmps5
      go_wp2_with (fail)
      refine (awake_calls _ (HLf.out.below HB1.out) (HL.out.below HB1.out)).mono ?_
      rintro e w4 ⟨rfl, hb⟩
      have HB4 := Aside0.mk (below_step HB1.out hb)
      clear hb
      go_wp2_with (fail)
      go_ret
      exact ⟨rfl, HB4.out⟩
    · have g1 : decide (p < 0) = false := by simpa using h1
      have g2 : decide (255 < p) = true := by simp; omega
      clear hlo
      go_enter Tryd.func5, Tryd.ntmps5
      go_wp2_with (fail)
      refine (awake_calls _ (HLf.out.below HB1.out) (HL.out.below HB1.out)).mono ?_
      rintro e w4 ⟨rfl, hb⟩
      have HB4 := Aside0.mk (below_step HB1.out hb)
      clear hb
      go_wp2_with (fail)
      go_ret
      exact ⟨rfl, HB4.out⟩
  · obtain ⟨pn, rfl⟩ : ∃ pn : Nat, p = (pn : Int) := ⟨p.toNat, by omega⟩
    have hi : pn < 256 := by omega
    have HPn := Aside0.mk hi
    have g2 : decide ((255 : Int) < (pn : Int)) = false := by simp; omega
    have HBt := Aside0.mk (fun W => rbit_calls m pn W HMl.out HMy.out hi)
    have HSg := Aside0.mk (sign_calls s m ((w.alloc (.cells (dA s) 23)).alloc (.cells (dA m) 23)) HSl.out HSy.out HMl.out HMy.out (HLf.out.below HB1.out) (HL.out.below HB1.out))
    have HO := Aside0.mk (openA_sig s m pn hi)
    have HR := Aside0.mk (restA_sig s m pn hi)
    have HXe0 : Aside0 (openF s m pn = secV s pn (bitV m pn)) := ⟨rfl⟩
    have HEe0 : Aside0 (restF s m pn = shaV (secV s pn (1 - bitV m pn))) := ⟨rfl⟩
    have HXl := Aside0.mk (openF_len s m pn)
    have HEl := Aside0.mk (restF_len s m pn)
    have HVl := Aside0.mk (sigV_len s m)
    have hbl := bitV_lt m pn
    clear hlo hi
    generalize bitV m pn = bn at *
    generalize openF s m pn = X at *
    generalize restF s m pn = E at *
    obtain ⟨S, hS⟩ : ∃ S, S = sigV s m := ⟨_, rfl⟩
    rw [← hS] at HSg HO HR HVl
    clear hS
    have HXe := HXe0
    have HXi := Aside0.mk (dig_info HXl.out)
    have HEi := Aside0.mk (dig_info HEl.out)
    have HXr : Aside0 ((Tryd.prog.info? 23).map (·.size) = some (nums .u8 X).length) := ⟨by rw [HXi.out, dA_size]; simp [nums]⟩
    have HEr : Aside0 ((Tryd.prog.info? 23).map (·.size) = some (nums .u8 E).length) := ⟨by rw [HEi.out, dA_size]; simp [nums]⟩
    have HVi : Aside0 ((Tryd.prog.info? 34).map (·.size) = some (dA S).size) := ⟨by rw [sig_size, dA_size, HVl.out]⟩
    have HVz : Aside0 ((dA (zeros 16384)).size = (dA S).size) := ⟨by rw [dA_size, dA_size, HVl.out]; simp [zeros]⟩
    have HVo := Aside0.mk (dA_one S)
    have HIb : Aside0 (pn < 1000000 ∧ bn < 1000000 ∧ 1 - bn < 1000000) := ⟨by have := HPn.out; omega, by omega, by omega⟩
    have hws : IntKind.i64.wrap (1 - (bn : Int)) = ((1 - bn : Nat) : Int) := by rw [IntKind.wrap_i64]; omega
    have hwt : 1 - (bn : Int) = ((1 - bn : Nat) : Int) := by omega
    go_enter Tryd.func5, Tryd.ntmps5
    go_wp2_with (first
      | (with_reducible refine wpList_load_row rfl 23 (.tmp 3) rfl w.heap.size rfl 23 (dA s) (0, 0) _ HS1.out Tryd.underlying23 rfl HSi.out ?_)
      | (with_reducible refine wpList_load_row rfl 23 (.tmp 4) rfl (w.heap.size + 1) rfl 23 (dA m) (0, 0) _ HM1.out Tryd.underlying23 rfl HMi.out ?_))
    generalize (w.alloc (.cells (dA s) 23)).alloc (.cells (dA m) 23) = w1 at *
    refine HSg.out.mono ?_
    rintro e w2 ⟨rfl, hb⟩
    have HB2 := Aside0.mk (below_step HB1.out hb)
    have HS2 : Aside0 (w2.heap[w.heap.size]? = some (.cells (dA s) 23 (0, 0))) := ⟨(hb.block _ (blk_lt HS1.out)).trans HS1.out⟩
    have HM2 : Aside0 (w2.heap[w.heap.size + 1]? = some (.cells (dA m) 23 (0, 0))) := ⟨(hb.block _ (blk_lt HM1.out)).trans HM1.out⟩
    clear hb HSg HB1 HS1 HM1
    have HK : Aside0 (∀ (g : Nat) (o : Obj), w2.heap[g]? = some o → (w2.alloc (.cells (dA S) 34)).heap[g]? = some o) := ⟨fun g o h => ((bel_alloc (Below.refl _ _) _).block _ (Array.getElem?_eq_some_iff.1 h).1).trans h⟩
    have HS3 := Aside0.mk (HK.out _ _ HS2.out)
    have HM3 := Aside0.mk (HK.out _ _ HM2.out)
    have HG3 : Aside0 ((w2.alloc (.cells (dA S) 34)).heap[w2.heap.size]? = some (.cells (dA S) 34 (0, 0))) := ⟨heap_alloc_new _ _⟩
    have HB3 : Aside0 (Below w.heap.size w (w2.alloc (.cells (dA S) 34))) := ⟨bel_alloc HB2.out _⟩
    go_wp2_with (first
      | (with_reducible refine wpList_alloc_big rfl 34 rfl (some 7) rfl _ _ sig_zero ?_)
      | ((with_reducible refine wpList_store_row rfl 34 (.tmp 7) (.tmp 19) rfl w2.heap.size (dA S) rfl rfl 34 (dA (zeros 16384)) (heap_alloc_new _ _) HVi.out HVz.out HVo.out ?_); rw [World.setRow_alloc_new])
      | (with_reducible refine wpList_load_row rfl 23 (.tmp 4) rfl (w.heap.size + 1) rfl 23 (dA m) (0, 0) _ HM3.out Tryd.underlying23 rfl HMi.out ?_))
    generalize w2.heap.size = g7 at *
    generalize w2.alloc (.cells (dA S) 34) = w3 at *
    clear HB2 HS2 HM2 HK
    refine (HBt.out w3).mono ?_
    rintro e w4 ⟨rfl, hb⟩
    have HB4 := Aside0.mk (below_step HB3.out hb)
    have HS4 : Aside0 (w4.heap[w.heap.size]? = some (.cells (dA s) 23 (0, 0))) := ⟨(hb.block _ (blk_lt HS3.out)).trans HS3.out⟩
    have HG4 : Aside0 (w4.heap[g7]? = some (.cells (dA S) 34 (0, 0))) := ⟨(hb.block _ (blk_lt HG3.out)).trans HG3.out⟩
    clear hb HB3 HS3 HM3 HG3 HBt
    go_wp2_with (with_reducible refine wpList_load_row rfl 23 (.tmp 3) rfl w.heap.size rfl 23 (dA s) (0, 0) _ HS4.out Tryd.underlying23 rfl HSi.out ?_)
    refine (rsecret_calls s pn (1 - bn) w4 HSl.out HSy.out HIb.out.1 HIb.out.2.2).mono ?_
    rintro e w5 ⟨rfl, hb⟩
    have HB5 := Aside0.mk (below_step HB4.out hb)
    have HS5 : Aside0 (w5.heap[w.heap.size]? = some (.cells (dA s) 23 (0, 0))) := ⟨(hb.block _ (blk_lt HS4.out)).trans HS4.out⟩
    have HG5 : Aside0 (w5.heap[g7]? = some (.cells (dA S) 34 (0, 0))) := ⟨(hb.block _ (blk_lt HG4.out)).trans HG4.out⟩
    have HYl := Aside0.mk (secV_len s pn (1 - bn))
    have HYb := Aside0.mk (secV_byte s pn (1 - bn))
    clear hb HB4 HS4 HG4 hws hwt
    generalize secV s pn (1 - bn) = Y at *
    have HEe := HEe0
    have HYi := Aside0.mk (dig_info HYl.out)
    have HYz := Aside0.mk (zz_size HYl.out)
    have HYo := Aside0.mk (dA_one Y)
    have HK : Aside0 (∀ (g : Nat) (o : Obj), w5.heap[g]? = some o → (w5.alloc (.cells (dA Y) 23)).heap[g]? = some o) := ⟨fun g o h => ((bel_alloc (Below.refl _ _) _).block _ (Array.getElem?_eq_some_iff.1 h).1).trans h⟩
    have HS6 := Aside0.mk (HK.out _ _ HS5.out)
    have HG6 := Aside0.mk (HK.out _ _ HG5.out)
    have HC6 : Aside0 (Kd.C (Kd.int .u8) (w5.alloc (.cells (dA Y) 23)) (some ⟨w5.heap.size, 0, none⟩) 32 Y) := ⟨dig_reads (heap_alloc_new _ _) HYl.out (by decide)⟩
    have HB6 : Aside0 (Below w.heap.size w (w5.alloc (.cells (dA Y) 23))) := ⟨bel_alloc HB5.out _⟩
    go_upto_region 6 with (rw [z32_lit]; (with_reducible refine wpList_store_row rfl 23 (.tmp 9) (.tmp 27) rfl w5.heap.size (dA Y) rfl rfl 23 (dA (List.replicate 32 0)) (heap_alloc_new _ _) HYi.out HYz.out HYo.out ?_); rw [World.setRow_alloc_new])
    generalize w5.heap.size = g9 at *
    generalize w5.alloc (.cells (dA Y) 23) = w6 at *
    clear HB5 HS5 HG5 HK
    have HRo : Aside0 (∀ W, Below w6.heap.size w6 W → W.rangeAt g7 (pn * 32) (nums .u8 X)) := ⟨fun W hW => by
      have h1 := dA_range ((hW.block _ (blk_lt HG6.out)).trans HG6.out) (32 * pn) 32
      rw [← HO.out, Nat.mul_comm pn 32]
      exact h1⟩
    have HRr : Aside0 (∀ W, Below w6.heap.size w6 W → W.rangeAt g7 (8192 + pn * 32) (nums .u8 E)) := ⟨fun W hW => by
      have h1 := dA_range ((hW.block _ (blk_lt HG6.out)).trans HG6.out) (8192 + 32 * pn) 32
      rw [← HR.out, Nat.mul_comm pn 32]
      exact h1⟩
    refine wp_region_mono 21 [false, false, false, false, false, false, true, false, false, false, false, false, false, false, false, false, false, false, false, false, false, false, false, false, false, false, false, false, true, true, true, true, true, true, true, true, true, true, true, true, true, true, true, true, true, true, true, true, true] (by kernel_rfl) (by kernel_rfl) (fun W => Below w6.heap.size w6 W) (fun W W' => Below W.heap.size W W') (SnF s X E pn bn g7 g9) (fun iv xv W W' _ hb h => SnF.step s X E pn bn g7 g9 iv xv W W' hb h) (below_drew (Below.refl _ _)) ?_
    refine ⟨?_, ?_, ?_, ?_, ?_, ?_, ?_, ?_, ?_, ?_, ?_, ?_, ?_, ?_, ?_, ?_, ?_, ?_, ?_, ?_, ?_, ?_, trivial⟩
    · intro v W hb hd
      have hpn := HPn.out
      refine step_list fun K hK => ?_
      simp only [fill_lit, fillL, Act.put, List.setIfInBounds_toArray, List.set_cons_zero, List.set_cons_succ, Nat.reduceAdd] at hK ⊢
      clear hd
      go_wp2
      exact ⟨hb, Below.refl _ _, rfl⟩
    · intro v W hb hd
      refine step_list fun K hK => ?_
      simp only [fill_lit, fillL, Act.put, List.setIfInBounds_toArray, List.set_cons_zero, List.set_cons_succ, Nat.reduceAdd] at hK ⊢
      clear hd
      go_wp2
      exact ⟨hb, Below.refl _ _, rfl⟩
    · intro v W hb hd
      have hpn := HPn.out
      have h1 : v 29 = .pointer (some ⟨g7, 0, none⟩) := hd 1 (reach2 (by kernel_rfl) (by kernel_rfl))
      have h0 : v 28 = .int .i64 (pn : Int) := hd 0 (reach2 (by kernel_rfl) (by kernel_rfl))
      refine step_list fun K hK => ?_
      simp only [fill_lit, fillL, Act.put, List.setIfInBounds_toArray, List.set_cons_zero, List.set_cons_succ, Nat.reduceAdd] at hK ⊢
      rw [h1, h0] at hK ⊢
      clear hd h1 h0
      go_wp2
      exact ⟨hb, Below.refl _ _, rfl⟩
    · intro v W hb hd
      have HRow := Aside0.mk (HRo.out W hb)
      have h2 : v 30 = .pointer (some ⟨g7, pn * 32, none⟩) := hd 2 (reach2 (by kernel_rfl) (by kernel_rfl))
      refine step_list fun K hK => ?_
      simp only [fill_lit, fillL, Act.put, List.setIfInBounds_toArray, List.set_cons_zero, List.set_cons_succ, Nat.reduceAdd] at hK ⊢
      rw [h2] at hK ⊢
      clear hd h2
      go_wp2_with (refine wpList_load_midon (by rfl) 23 (.tmp 30) rfl _ _ rfl (nums .u8 X) _ HRow.out Tryd.underlying23 rfl HXr.out ?_)
      exact ⟨hb, Below.refl _ _, rfl⟩
    · intro v W hb hd
      have HS6w : Aside0 (W.heap[w.heap.size]? = some (.cells (dA s) 23 (0, 0))) := ⟨(hb.block _ (blk_lt HS6.out)).trans HS6.out⟩
      refine step_list fun K hK => ?_
      simp only [fill_lit, fillL, Act.put, List.setIfInBounds_toArray, List.set_cons_zero, List.set_cons_succ, Nat.reduceAdd] at hK ⊢
      clear hd
      go_wp2_with (refine wpList_load_on (by rfl) 23 (.tmp 3) rfl w.heap.size rfl 23 (dA s) (0, 0) _ HS6w.out Tryd.underlying23 rfl HSi.out ?_)
      exact ⟨hb, Below.refl _ _, rfl⟩
    · intro v W hb hd
      refine step_list fun K hK => ?_
      simp only [fill_lit, fillL, Act.put, List.setIfInBounds_toArray, List.set_cons_zero, List.set_cons_succ, Nat.reduceAdd] at hK ⊢
      clear hd
      go_wp2
      exact ⟨hb, Below.refl _ _, rfl⟩
    · intro v W hb hd
      refine step_list fun K hK => ?_
      simp only [fill_lit, fillL, Act.put, List.setIfInBounds_toArray, List.set_cons_zero, List.set_cons_succ, Nat.reduceAdd] at hK ⊢
      clear hd
      go_wp2
      exact ⟨hb, Below.refl _ _, rfl⟩
    · intro v W hb hd
      have h4 : v 32 = .agg (dA s) := hd 4 (reach2 (by kernel_rfl) (by kernel_rfl))
      have h5 : v 33 = .int .i64 (pn : Int) := hd 5 (reach2 (by kernel_rfl) (by kernel_rfl))
      have h6 : v 34 = .int .i64 (bn : Int) := hd 6 (reach2 (by kernel_rfl) (by kernel_rfl))
      refine step_list fun K hK => ?_
      simp only [fill_lit, fillL, Act.put, List.setIfInBounds_toArray, List.set_cons_zero, List.set_cons_succ, Nat.reduceAdd] at hK ⊢
      rw [h4, h5, h6] at hK ⊢
      clear hd h4 h5 h6
      go_wp2_with (fail)
      refine (rsecret_calls s pn bn W HSl.out HSy.out HIb.out.1 HIb.out.2.1).mono ?_
      rintro e W' ⟨rfl, hb'⟩
      have HB' := Aside0.mk hb'
      clear hb'
      go_wp2_with (fail)
      exact ⟨below_step hb HB'.out, HB'.out, by rw [← HXe.out]; rfl⟩
    · intro v W hb hd
      have heq : ∀ W0 : World, (binOp .eql 23 (.agg (dA X)) (.agg (dA X))).run Tryd.prog W0 = .ok (.bool true) W0 := fun W0 => eql_same HXl.out W0
      have h3 : v 31 = .agg (dA X) := hd 3 (reach2 (by kernel_rfl) (by kernel_rfl))
      have h7 : v 35 = .agg (dA X) := hd 7 (reach2 (by kernel_rfl) (by kernel_rfl))
      refine step_list fun K hK => ?_
      simp only [fill_lit, fillL, Act.put, List.setIfInBounds_toArray, List.set_cons_zero, List.set_cons_succ, Nat.reduceAdd] at hK ⊢
      rw [h3, h7] at hK ⊢
      clear hd h3 h7
      go_wp2
      exact ⟨hb, Below.refl _ _, rfl⟩
    · intro v W hb hd
      have h8 : v 36 = .bool true := hd 8 (reach2 (by kernel_rfl) (by kernel_rfl))
      refine step_list fun K hK => ?_
      simp only [fill_lit, fillL, Act.put, List.setIfInBounds_toArray, List.set_cons_zero, List.set_cons_succ, Nat.reduceAdd] at hK ⊢
      rw [h8] at hK ⊢
      clear hd h8
      go_wp2
      exact ⟨hb, Below.refl _ _, rfl⟩
    · intro v W hb hd
      have h9 : v 37 = .bool true := hd 9 (reach2 (by kernel_rfl) (by kernel_rfl))
      refine step_list fun K hK => ?_
      simp only [fill_lit, fillL, Act.put, List.setIfInBounds_toArray, List.set_cons_zero, List.set_cons_succ, Nat.reduceAdd] at hK ⊢
      rw [h9] at hK ⊢
      clear hd h9
      go_wp2
      exact ⟨hb, Below.refl _ _, rfl⟩
    · intro v W hb hd
      have h9 : v 37 = .bool true := hd 9 (reach2 (by kernel_rfl) (by kernel_rfl))
      refine step_list fun K hK => ?_
      simp only [fill_lit, fillL, Act.put, List.setIfInBounds_toArray, List.set_cons_zero, List.set_cons_succ, Nat.reduceAdd] at hK ⊢
      rw [h9] at hK ⊢
      clear hd h9
      go_wp2
      exact ⟨hb, Below.refl _ _, rfl⟩
    · intro v W hb hd
      have hpn := HPn.out
      have h11 : v 39 = .pointer (some ⟨g7, 8192, none⟩) := hd 11 (reach2 (by kernel_rfl) (by kernel_rfl))
      have h10 : v 38 = .int .i64 (pn : Int) := hd 10 (reach2 (by kernel_rfl) (by kernel_rfl))
      have h9 : v 37 = .bool true := hd 9 (reach2 (by kernel_rfl) (by kernel_rfl))
      refine step_list fun K hK => ?_
      simp only [fill_lit, fillL, Act.put, List.setIfInBounds_toArray, List.set_cons_zero, List.set_cons_succ, Nat.reduceAdd] at hK ⊢
      rw [h11, h10, h9] at hK ⊢
      clear hd h11 h10 h9
      go_wp2
      exact ⟨hb, Below.refl _ _, rfl⟩
    · intro v W hb hd
      have HRrw := Aside0.mk (HRr.out W hb)
      have h12 : v 40 = .pointer (some ⟨g7, 8192 + pn * 32, none⟩) := hd 12 (reach2 (by kernel_rfl) (by kernel_rfl))
      have h9 : v 37 = .bool true := hd 9 (reach2 (by kernel_rfl) (by kernel_rfl))
      refine step_list fun K hK => ?_
      simp only [fill_lit, fillL, Act.put, List.setIfInBounds_toArray, List.set_cons_zero, List.set_cons_succ, Nat.reduceAdd] at hK ⊢
      rw [h12, h9] at hK ⊢
      clear hd h12 h9
      go_wp2_with (refine wpList_load_midon (by rfl) 23 (.tmp 40) rfl _ _ rfl (nums .u8 E) _ HRrw.out Tryd.underlying23 rfl HEr.out ?_)
      exact ⟨hb, Below.refl _ _, rfl⟩
    · intro v W hb hd
      have h9 : v 37 = .bool true := hd 9 (reach2 (by kernel_rfl) (by kernel_rfl))
      refine step_list fun K hK => ?_
      simp only [fill_lit, fillL, Act.put, List.setIfInBounds_toArray, List.set_cons_zero, List.set_cons_succ, Nat.reduceAdd] at hK ⊢
      rw [h9] at hK ⊢
      clear hd h9
      go_wp2
      exact ⟨hb, Below.refl _ _, rfl⟩
    · intro v W hb hd
      have HLw := Aside0.mk (And.intro (HLf.out.below (below_step HB6.out hb)) (HL.out.below (below_step HB6.out hb)))
      have h14 : v 42 = .slice (some ⟨g9, 0, none⟩) 32 32 := hd 14 (reach2 (by kernel_rfl) (by kernel_rfl))
      have h9 : v 37 = .bool true := hd 9 (reach2 (by kernel_rfl) (by kernel_rfl))
      refine step_list fun K hK => ?_
      simp only [fill_lit, fillL, Act.put, List.setIfInBounds_toArray, List.set_cons_zero, List.set_cons_succ, Nat.reduceAdd] at hK ⊢
      rw [h14, h9] at hK ⊢
      clear hd h14 h9
      go_wp2_with (fail)
      refine (sum_calls (some ⟨g9, 0, none⟩) 32 32 Y W (Kd.C_below HC6.out hb) HYb.out (by decide) HLw.out.1 HLw.out.2).mono ?_
      rintro e W' ⟨rfl, hb'⟩
      have HB' := Aside0.mk hb'
      clear hb'
      go_wp2_with (fail)
      exact ⟨below_step hb HB'.out, HB'.out, by rw [← HEe.out]; rfl⟩
    · intro v W hb hd
      have h13 : v 41 = .agg (dA E) := hd 13 (reach2 (by kernel_rfl) (by kernel_rfl))
      have h15 : v 43 = .agg (dA E) := hd 15 (reach2 (by kernel_rfl) (by kernel_rfl))
      have h9 : v 37 = .bool true := hd 9 (reach2 (by kernel_rfl) (by kernel_rfl))
      refine step_eql (t := 23) (u := 23) (x := .tmp 41) (y := .tmp 43) ?_ rfl h13 h15 (guard_dig _ _ _ _ W) (eql_same HEl.out W) ⟨hb, Below.refl _ _, rfl⟩
      exact wanted_of 9 37 true rfl rfl (congrArg some h9)
    · intro v W hb hd
      have h9 : v 37 = .bool true := hd 9 (reach2 (by kernel_rfl) (by kernel_rfl))
      have h16 : v 44 = .bool true := hd 16 (reach2 (by kernel_rfl) (by kernel_rfl))
      refine step_list fun K hK => ?_
      simp only [fill_lit, fillL, Act.put, List.setIfInBounds_toArray, List.set_cons_zero, List.set_cons_succ, Nat.reduceAdd] at hK ⊢
      rw [h9, h16] at hK ⊢
      clear hd h9 h16
      go_wp2
      exact ⟨hb, Below.refl _ _, rfl⟩
    · intro v W hb hd
      have h17 : v 45 = .bool true := hd 17 (reach2 (by kernel_rfl) (by kernel_rfl))
      refine step_list fun K hK => ?_
      simp only [fill_lit, fillL, Act.put, List.setIfInBounds_toArray, List.set_cons_zero, List.set_cons_succ, Nat.reduceAdd] at hK ⊢
      rw [h17] at hK ⊢
      clear hd h17
      go_wp2
      exact ⟨hb, Below.refl _ _, rfl⟩
    · intro v W hb hd
      have HLw := Aside0.mk (And.intro (HLf.out.below (below_step HB6.out hb)) (HL.out.below (below_step HB6.out hb)))
      have h18 : v 46 = .bool true := hd 18 (reach2 (by kernel_rfl) (by kernel_rfl))
      refine step_list fun K hK => ?_
      simp only [fill_lit, fillL, Act.put, List.setIfInBounds_toArray, List.set_cons_zero, List.set_cons_succ, Nat.reduceAdd] at hK ⊢
      rw [h18] at hK ⊢
      clear hd h18
      go_wp2_with (fail)
      refine (awake_calls W HLw.out.1 HLw.out.2).mono ?_
      rintro e W' ⟨rfl, hb'⟩
      have HB' := Aside0.mk hb'
      clear hb'
      go_wp2_with (fail)
      exact ⟨below_step hb HB'.out, HB'.out, rfl⟩
    · intro v W hb hd
      have h18 : v 46 = .bool true := hd 18 (reach2 (by kernel_rfl) (by kernel_rfl))
      have h19 : v 47 = .bool true := hd 19 (reach2 (by kernel_rfl) (by kernel_rfl))
      refine step_list fun K hK => ?_
      simp only [fill_lit, fillL, Act.put, List.setIfInBounds_toArray, List.set_cons_zero, List.set_cons_succ, Nat.reduceAdd] at hK ⊢
      rw [h18, h19] at hK ⊢
      clear hd h18 h19
      go_wp2
      exact ⟨hb, Below.refl _ _, rfl⟩
    · intro v W hb hd
      have h20 : v 48 = .bool true := hd 20 (reach2 (by kernel_rfl) (by kernel_rfl))
      refine step_list fun K hK => ?_
      simp only [fill_lit, fillL, Act.put, List.setIfInBounds_toArray, List.set_cons_zero, List.set_cons_succ, Nat.reduceAdd] at hK ⊢
      rw [h20] at hK ⊢
      clear hd h20
      go_wp2
      go_ret
      exact ⟨rfl, below_step HB6.out hb⟩
end Go.Proofs.YtpdficnjjmapmaaDoorRRR.Lam

