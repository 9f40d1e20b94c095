/- The reference's Unhex: the digest of digits, or that they are none's. -/
import Derived.Test.YtlgljlgbnjjieaaDoorRefUnhexPure
import Derived.Test.YtlgljlgbnjjieaaDoorUnhexWalk
namespace Go.Proofs.YtlgljlgbnjjieaaDoor.Hex
open Go.RowKit Go.Proofs.YtlgljlgbnjjieaaDoorW.PrintWords Go.Proofs.YtlgljlgbnjjieaaDoorW.PrintLast Go.Proofs.YtlgljlgbnjjieaaDoorW.PrintMore Go.Proofs.YtlgljlgbnjjieaaDoor.K Go.Proofs.YtlgljlgbnjjieaaDoor.Sha Go.Proofs.YtlgljlgbnjjieaaDoor.PShaHex
set_option linter.unusedVariables false
theorem digit_calls (c : UInt8) (w : World) : Calls Tryd.prog 27 #[.int .u8 (c.toNat : Int)] w fun e w' => e = .returned (.int .i64 (nib c)) ∧ Drawn0 w w' := cupelref01_digit.calls 20 (c.toNat : Int) (nib c) w (digit_f c)
/-- What the reference's Unhex answers. -/
def RUnhexEnd (s : List UInt8) : Ending := match unhexV s with
  | some d => .returned (.tuple #[.agg (dA d), .bool true])
  | none => .returned (.tuple #[.agg (dA (List.replicate 32 0)), .bool false])
set_option maxHeartbeats 4000000 in
set_option maxRecDepth 100000 in
theorem runhex_calls (s : ByteArray) (w : World) (hs : s.size ≤ 1000000) :
    Calls Tryd.prog 18 #[.string s] w fun e w' => e = RUnhexEnd s.data.toList ∧ Below w.heap.size w w' := by
  obtain ⟨Z, hZ⟩ : ∃ Z : Array Value, Z = dA (List.replicate 32 0) := ⟨_, rfl⟩
  have HZL : Aside0 ((#[.int .u8 0, .int .u8 0, .int .u8 0, .int .u8 0, .int .u8 0, .int .u8 0, .int .u8 0, .int .u8 0, .int .u8 0, .int .u8 0, .int .u8 0, .int .u8 0, .int .u8 0, .int .u8 0, .int .u8 0, .int .u8 0, .int .u8 0, .int .u8 0, .int .u8 0, .int .u8 0, .int .u8 0, .int .u8 0, .int .u8 0, .int .u8 0, .int .u8 0, .int .u8 0, .int .u8 0, .int .u8 0, .int .u8 0, .int .u8 0, .int .u8 0, .int .u8 0] : Array Value) = Z) := ⟨by rw [hZ]; exact z32_lit⟩
  have HZ1 : Aside0 ((Tryd.prog.info? 25).map (·.size) = some Z.size) := ⟨by rw [hZ]; exact dig_info rfl⟩
  have HZ2 : Aside0 (Z.size = Z.size) := ⟨rfl⟩
  have HZ3 : Aside0 (Z.all (·.oneCell') = true) := ⟨by rw [hZ]; exact dA_one _⟩
  have HZ := Aside0.mk hZ
  clear hZ
  have HR0 : Aside0 (((w.alloc (.cells Z 25)).alloc (.cells Z 25)).heap[w.heap.size]? = some (.cells Z 25 (0, 0))) := ⟨((bel_alloc (Below.refl _ _) _).block _ (blk_lt (heap_alloc_new w _))).trans (heap_alloc_new w _)⟩
  have HR1 : Aside0 (((w.alloc (.cells Z 25)).alloc (.cells Z 25)).heap[w.heap.size + 1]? = some (.cells Z 25 (0, 0))) := ⟨by
    have h := heap_alloc_new (w.alloc (.cells Z 25)) (.cells Z 25)
    rw [World.size_alloc] at h
    exact h⟩
  have HB0 : Aside0 (Below w.heap.size w ((w.alloc (.cells Z 25)).alloc (.cells Z 25))) := ⟨bel_alloc (bel_alloc (Below.refl _ _) _) _⟩
  by_cases h64 : s.size = 64
  · have hl64 : s.data.toList.length = 64 := by rw [Array.length_toList]; exact h64
    have h6D : ((s.size : Int) != 64) = false := by simp only [bne_eq_false_iff_eq]; omega
    have h6E : (s.size == 64) = true := by rw [beq_iff_eq]; exact h64
    have h6I : (s.size : Int) = 64 := by omega
    have HW0 : Aside0 (UW w Z (part s.data.toList 0) ((w.alloc (.cells Z 25)).alloc (.cells Z 25))) := ⟨HR0.out, by
      rw [part_zero, ← HZ.out]
      have h := heap_alloc_new (w.alloc (.cells Z 25)) (.cells Z 25)
      rw [World.size_alloc] at h
      exact h, HB0.out⟩
    have HF : Aside0 (Tryd.prog.built 25 [] = some Z) := ⟨by rw [HZ.out]; kernel_rfl⟩
    go_enter Tryd.func18, Tryd.ntmps18
    go_wp2_with (fail)
    rw [HZL.out]
    generalize (w.alloc (.cells Z 25)).alloc (.cells Z 25) = w1 at *
    clear HR0 HR1 HB0
    go_loopw [5] (fun v5 wr => ∃ i : Nat, i ≤ 32 ∧ v5 = .int .i64 (i : Int) ∧ Aside0 (∀ j, j < 2 * i → 0 ≤ nib (s.data.toList.getD j 0)) ∧ Aside0 (UW w Z (part s.data.toList (2 * i)) wr)) (fun v5 _ => 32 - (intOf v5).toNat)
    case atStart => exact ⟨0, Nat.zero_le _, rfl, ⟨fun j h => absurd h (Nat.not_lt_zero _)⟩, HW0⟩
    case round =>
      clear HW0
      obtain ⟨i, hi, rfl, HN, HW⟩ := hrel
      by_cases hlt : i < 32
      · have hltI : (i : Int) < 32 := by omega
        obtain ⟨p, hp⟩ : ∃ p, p = 2 * i := ⟨_, rfl⟩
        obtain ⟨q, hq⟩ : ∃ q, q = p + 1 := ⟨_, rfl⟩
        have hsp : p < s.size := by omega
        have hsq : q < s.size := by omega
        have M1 : IntKind.i64.wrap (2 * (i : Int)) = (p : Int) := by rw [IntWalk.i64_in _ (by omega)]; omega
        have M2 : IntKind.i64.wrap ((p : Int) + 1) = (q : Int) := by rw [IntWalk.i64_in _ (by omega)]; omega
        have p1 : (p : Int) < 64 := by omega
        have q1 : (q : Int) < 64 := by omega
        have HG : Aside0 (s.data.toList.getD p 0 = s[p]) := ⟨by
          rw [List.getD_eq_getElem?_getD, List.getElem?_eq_getElem (by omega)]
          rfl⟩
        have HG2 : Aside0 (s.data.toList.getD q 0 = s[q]) := ⟨by
          rw [List.getD_eq_getElem?_getD, List.getElem?_eq_getElem (by omega)]
          rfl⟩
        have HSt := Aside0.mk (part_two s.data.toList i hlt)
        rw [← hp, ← hq, HG.out, HG2.out] at HSt
        have HP := Aside0.mk hp
        have HQ := Aside0.mk hq
        clear hp hq
        go_wp2_with (fail)
        obtain ⟨c, hcd⟩ : ∃ c : UInt8, s[p] = c := ⟨_, rfl⟩
        rw [hcd] at HG HSt ⊢
        clear hcd
        refine (digit_calls c wr).mono ?_
        rintro e w2 ⟨rfl, hd⟩
        have HW2 : Aside0 (UW w Z (part s.data.toList (2 * i)) w2) := ⟨(hd.below.block _ (blk_lt HW.out.1)).trans HW.out.1, (hd.below.block _ (blk_lt HW.out.2.1)).trans HW.out.2.1, below_step HW.out.2.2 hd.below⟩
        clear hd HW
        obtain ⟨n, hn⟩ : ∃ n, n = nib c := ⟨_, rfl⟩
        have hr := nib_range c
        rw [← hn] at hr HSt ⊢
        have HNc : Aside0 (nib (s.data.toList.getD p 0) = n) := ⟨by rw [HG.out, hn]⟩
        clear hn HG
        go_wp2_with (fail)
        obtain ⟨c2, hcd⟩ : ∃ c : UInt8, s[q] = c := ⟨_, rfl⟩
        rw [hcd] at HG2 HSt ⊢
        clear hcd
        refine (digit_calls c2 w2).mono ?_
        rintro e w3 ⟨rfl, hd⟩
        have HW3 : Aside0 (UW w Z (part s.data.toList (2 * i)) w3) := ⟨(hd.below.block _ (blk_lt HW2.out.1)).trans HW2.out.1, (hd.below.block _ (blk_lt HW2.out.2.1)).trans HW2.out.2.1, below_step HW2.out.2.2 hd.below⟩
        clear hd HW2
        obtain ⟨m, hm⟩ : ∃ m, m = nib c2 := ⟨_, rfl⟩
        have hr2 := nib_range c2
        rw [← hm] at hr2 HSt ⊢
        have HNd : Aside0 (nib (s.data.toList.getD q 0) = m) := ⟨by rw [HG2.out, hm]⟩
        clear hm HG2
        by_cases hneg : n < 0 ∨ m < 0
        · have HE : Aside0 (RUnhexEnd s.data.toList = .returned (.tuple #[.agg Z, .bool false])) := ⟨by
            unfold RUnhexEnd
            rcases hneg with hneg | hneg
            · rw [not_dig _ p (by omega) (by rw [HNc.out]; exact hneg), HZ.out]
            · rw [not_dig _ q (by omega) (by rw [HNd.out]; exact hneg), HZ.out]⟩
          have HWa : Aside0 (w3.heap[w.heap.size]? = some (.cells Z 25 (0, 0))) := ⟨HW3.out.1⟩
          by_cases h1 : n < 0
          · have hnD : decide (n < 0) = true := by simpa using h1
            go_wp2_with (first
              | (refine wpList_buildTo rfl 25 _ rfl (some 33) rfl Z HF.out ?_; simp only [Act.put, List.setIfInBounds_toArray, List.set_cons_zero, List.set_cons_succ])
              | (rw [HZL.out]; with_reducible refine wpList_store_row rfl 25 (.tmp 2) (.tmp 33) rfl w.heap.size Z rfl rfl 25 _ HWa.out HZ1.out rfl HZ3.out ?_))
            exact bodyPost_ret (results_cell_tmp Tryd.results18 _ _ w.heap.size 25 Z (0, 0) _ rfl (setRow_heap _ _ _ _ _ _ HWa.out) Tryd.underlying25 rfl HZ1.out) rfl ⟨by rw [HE.out]; rfl, below_setRow HW3.out.2.2 (Nat.le_refl _) _⟩
          · have hnD : decide (n < 0) = false := by simpa using h1
            have h2 : m < 0 := by omega
            have hmD : decide (m < 0) = true := by simpa using h2
            go_wp2_with (first
              | (refine wpList_buildTo rfl 25 _ rfl (some 33) rfl Z HF.out ?_; simp only [Act.put, List.setIfInBounds_toArray, List.set_cons_zero, List.set_cons_succ])
              | (rw [HZL.out]; with_reducible refine wpList_store_row rfl 25 (.tmp 2) (.tmp 33) rfl w.heap.size Z rfl rfl 25 _ HWa.out HZ1.out rfl HZ3.out ?_))
            exact bodyPost_ret (results_cell_tmp Tryd.results18 _ _ w.heap.size 25 Z (0, 0) _ rfl (setRow_heap _ _ _ _ _ _ HWa.out) Tryd.underlying25 rfl HZ1.out) rfl ⟨by rw [HE.out]; rfl, below_setRow HW3.out.2.2 (Nat.le_refl _) _⟩
        · have hnD : decide (n < 0) = false := by simp; omega
          have hmD : decide (m < 0) = false := by simp; omega
          have h1 : w3.cell? ⟨w.heap.size + 1, i, none⟩ = some (.int .u8 ((part s.data.toList (2 * i)).getD i 0)) := (blk_cell HW3.out.2.1 i).trans (dA_get _ i (by rw [part_length]; exact hlt))
          have f1 : w3.frozen? ⟨w.heap.size + 1, i, none⟩ = false := blk_frozen HW3.out.2.1 i
          generalize (part s.data.toList (2 * i)).getD i 0 = x at *
          obtain ⟨u, hu⟩ : ∃ u, u = 16 * n := ⟨_, rfl⟩
          obtain ⟨v, hv⟩ : ∃ v, v = u + m := ⟨_, rfl⟩
          have k1 : IntKind.i64.wrap (16 * n) = u := by rw [IntWalk.i64_in _ (by omega)]; exact hu.symm
          have k2 : IntKind.i64.wrap (u + m) = v := by rw [IntWalk.i64_in _ (by omega)]; exact hv.symm
          have k3 : IntKind.u8.wrap v = v := by rw [IntKind.wrap_u8]; omega
          have HSt2 : Aside0 ((part s.data.toList p).set i v = part s.data.toList (2 * (i + 1))) := ⟨by rw [← HSt.out, hv, hu]⟩
          have HN2 : Aside0 (∀ j, j < 2 * (i + 1) → 0 ≤ nib (s.data.toList.getD j 0)) := ⟨fun j hj => by
            have hp := HP.out
            have hq := HQ.out
            rcases (show j < 2 * i ∨ j = p ∨ j = q by omega) with h | rfl | rfl
            · exact HN.out j h
            · rw [HNc.out]; omega
            · rw [HNd.out]; omega⟩
          clear hu hv
          go_wp2
          go_roundw
          case measure => simp [intOf]; omega
          case rel => exact ⟨i + 1, by omega, by go_num, HN2, ⟨by rw [← HSt2.out, HP.out]; exact HW3.out.set i _⟩⟩
      · obtain rfl : i = 32 := by omega
        have HE : Aside0 (RUnhexEnd s.data.toList = .returned (.tuple #[.agg (dA (pairs s.data.toList)), .bool true])) := ⟨by
          unfold RUnhexEnd
          rw [unhex_some _ hl64 HN.out]⟩
        obtain ⟨d, hd⟩ : ∃ d, d = pairs s.data.toList := ⟨_, rfl⟩
        have HWb : Aside0 (wr.heap[w.heap.size + 1]? = some (.cells (dA d) 25 (0, 0))) := ⟨by rw [hd, ← part_end _ hl64]; exact HW.out.2.1⟩
        have HWa : Aside0 (wr.heap[w.heap.size]? = some (.cells Z 25 (0, 0))) := ⟨HW.out.1⟩
        have HDl : Aside0 (d.length = 32) := ⟨by rw [hd]; exact pairs_length 32 _ hl64⟩
        rw [← hd] at HE
        clear hd
        have HI1 := Aside0.mk (dig_info HDl.out)
        have HI2 : Aside0 (Z.size = (dA d).size) := ⟨by rw [HZ.out, dA_size, dA_size, HDl.out]; rfl⟩
        have HI3 := Aside0.mk (dA_one d)
        go_wp2_with (first
          | (with_reducible refine wpList_load_row rfl 25 (.tmp 4) rfl (w.heap.size + 1) rfl 25 (dA d) (0, 0) _ HWb.out Tryd.underlying25 rfl HI1.out ?_)
          | (with_reducible refine wpList_store_row rfl 25 (.tmp 2) (.tmp 41) rfl w.heap.size (dA d) rfl rfl 25 Z HWa.out HI1.out HI2.out HI3.out ?_))
        exact bodyPost_ret (results_cell_tmp Tryd.results18 _ _ w.heap.size 25 (dA d) (0, 0) _ rfl (setRow_heap _ _ _ _ _ _ HWa.out) Tryd.underlying25 rfl HI1.out) rfl ⟨by rw [HE.out]; rfl, below_setRow HW.out.2.2 (Nat.le_refl _) _⟩
  · have h6D : ((s.size : Int) != 64) = true := by simp only [bne_iff_ne, ne_eq]; omega
    have h6E : (s.size == 64) = false := by rw [beq_eq_false_iff_ne]; exact h64
    have HE : Aside0 (RUnhexEnd s.data.toList = .returned (.tuple #[.agg Z, .bool false])) := ⟨by
      unfold RUnhexEnd
      rw [unhex_len _ (by rw [Array.length_toList]; exact h64), HZ.out]⟩
    have HF : Aside0 (Tryd.prog.built 25 [] = some Z) := ⟨by rw [HZ.out]; kernel_rfl⟩
    go_enter Tryd.func18, Tryd.ntmps18
    go_wp2_with (first
      | (rw [HZL.out]; with_reducible refine wpList_load_row rfl 25 (.tmp 4) rfl (w.heap.size + 1) rfl 25 Z (0, 0) _ HR1.out Tryd.underlying25 rfl HZ1.out ?_)
      | (with_reducible refine wpList_store_row rfl 25 (.tmp 2) (.tmp 11) rfl w.heap.size Z rfl rfl 25 _ HR0.out HZ1.out rfl HZ3.out ?_))
    exact bodyPost_ret (results_cell_tmp Tryd.results18 _ _ w.heap.size 25 Z (0, 0) _ rfl (setRow_heap _ _ _ _ _ _ HR0.out) Tryd.underlying25 rfl HZ1.out) rfl ⟨by rw [HE.out]; rfl, below_setRow HB0.out (Nat.le_refl _) _⟩
end Go.Proofs.YtlgljlgbnjjieaaDoor.Hex
