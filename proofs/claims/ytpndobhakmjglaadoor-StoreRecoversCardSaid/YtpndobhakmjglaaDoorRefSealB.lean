/- store: the reference's Seal and Bytes. -/
import Derived.Test.YtpndobhakmjglaaDoorRefSumB
import Derived.Test.YtpndobhakmjglaaDoorRefJoinB
import Derived.Test.YtpndobhakmjglaaDoorBunS4
namespace Go.Proofs.YtpndobhakmjglaaDoor.Store
open Go.RowKit Go.Proofs.YtpndobhakmjglaaDoorW.PrintWords Go.Proofs.YtpndobhakmjglaaDoorW.PrintLast Go.Proofs.YtpndobhakmjglaaDoorW.PrintMore Go.Proofs.YtpndobhakmjglaaDoor.K Go.Proofs.YtpndobhakmjglaaDoor.Sha
set_option linter.unusedVariables false
set_option linter.unusedSimpArgs false
/-- The reference's Join of two rows. -/
theorem rjoin2 (A0 : Option Addr) (n0 c0 : Nat) (a : List Int) (A1 : Option Addr) (n1 c1 : Nat) (r : List Int) (w : World) (h0 : Kd.C (Kd.int .u8) w A0 n0 a) (hc0 : n0 ≤ c0) (h1 : Kd.C (Kd.int .u8) w A1 n1 r) (hc1 : n1 ≤ c1) (hb : a.length + r.length ≤ 100000000) :
    Calls Tryd.prog 29 #[.slice (some ⟨w.heap.size, 0, none⟩) 2 2] (w.alloc (.cells #[.slice A0 n0 c0, .slice A1 n1 c1] 22)) fun e w' => ∃ A c, e = .returned (.slice A (joinL [a, r]).length c) ∧ (joinL [a, r]).length ≤ c ∧ Kd.C (Kd.int .u8) w' A (joinL [a, r]).length (joinL [a, r]) ∧ Below w.heap.size w w' := by
  obtain rfl := h0.1
  obtain rfl := h1.1
  have hr : Kd.C (Kd.slice 5 (Kd.int .u8)) (w.alloc (.cells [Value.slice A0 a.length c0, .slice A1 r.length c1].toArray 22)) (some ⟨w.heap.size, 0, none⟩) [a, r].length [a, r] := rows_lit w 22 _ [a, r] (by simp) (fun j z hj => by
    match j, hj with
    | 0, hj => cases hj; exact ⟨A0, c0, rfl, hc0, h0⟩
    | 1, hj => cases hj; exact ⟨A1, c1, rfl, hc1, h1⟩)
  refine (Ref.rjoin_calls (some ⟨w.heap.size, 0, none⟩) 2 [a, r] _ hr (by rw [joinTwo_len]; omega)).mono ?_
  rintro e w' ⟨v, rfl, hR, hb⟩
  obtain ⟨A, c, rfl⟩ := Kd.R_slice hR
  exact ⟨A, c, rfl, (Kd.R_reads' hR).2.1, (Kd.R_reads' hR).2.2, below_step (bel_alloc (Below.refl _ _) _) hb⟩
/-- The first sixteen bytes of a digest in a block. -/
def SealAt (W : World) (g : Nat) (s : List Int) : Prop := ∃ d : List Int, W.heap[g]? = some (.cells (dA d) 63 (0, 0)) ∧ d.length = 32 ∧ d.take 16 = s
theorem SealAt.reads {W : World} {g : Nat} {s : List Int} (h : SealAt W g s) : Kd.C (Kd.int .u8) W (some ⟨g, 0, none⟩) 16 s := by
  obtain ⟨d, h1, h2, rfl⟩ := h
  exact take_rows 16 (by rw [h2]; decide) (dig_reads h1 h2 (by decide))
theorem SealAt.below {W W1 : World} {g : Nat} {s : List Int} (h : SealAt W g s) (hb : Below W.heap.size W W1) : SealAt W1 g s := by
  obtain ⟨d, h1, h2⟩ := h
  exact ⟨d, (hb.block _ (blk_lt h1)).trans h1, h2⟩
theorem SealAt.grown {W W1 : World} {g : Nat} {s : List Int} {row : Option Nat} (h : SealAt W g s) (hg : W.grownBy W1 row) (hn : some g ≠ row) : SealAt W1 g s := by
  obtain ⟨d, h1, h2⟩ := h
  exact ⟨d, blk_grown h1 hg hn, h2⟩
set_option maxHeartbeats 4000000 in
set_option maxRecDepth 100000 in
theorem rseal_calls (A0 : Option Addr) (n0 c0 : Nat) (a : List Int) (A1 : Option Addr) (n1 c1 : Nat) (r : List Int) (w : World) (h0 : Kd.C (Kd.int .u8) w A0 n0 a) (hc0 : n0 ≤ c0) (h1 : Kd.C (Kd.int .u8) w A1 n1 r) (hc1 : n1 ≤ c1) (hb : a.length + r.length ≤ 890)
    (ha : ∀ x ∈ a, 0 ≤ x ∧ x < 256) (hr : ∀ x ∈ r, 0 ≤ x ∧ x < 256) :
    Calls Tryd.prog 28 #[.slice A0 n0 c0, .slice A1 n1 c1] w fun e w' => ∃ g c, e = .returned (.slice (some ⟨g, 0, none⟩) 16 c) ∧ 16 ≤ c ∧ w.heap.size ≤ g ∧ SealAt w' g (sealV a r) ∧ Below w.heap.size w w' := by
  have HJ := Aside0.mk (rjoin2 A0 n0 c0 a A1 n1 c1 r w h0 hc0 h1 hc1 (by omega))
  have HBj := Aside0.mk (joinTwo_byte ha hr)
  have HLj : Aside0 ((joinL [a, r]).length ≤ 898) := ⟨by rw [joinTwo_len]; omega⟩
  have HS : Aside0 (sealV a r = (shaV (joinL [a, r])).take 16) := ⟨rfl⟩
  rw [HS.out]
  clear h0 h1 hc0 hc1 hb ha hr HS
  generalize joinL [a, r] = j at *
  go_enter Tryd.func28, Tryd.ntmps28
  go_wp2_with (fail)
  refine HJ.out.mono ?_
  rintro e w1 ⟨Aj, cj, rfl, hcj, hCj, hb⟩
  have HB1 := Aside0.mk hb
  have HC := Aside0.mk hCj
  have HCc := Aside0.mk hcj
  clear hCj hb HJ hcj
  go_wp2_with (fail)
  refine (rsum_calls Aj cj j w1 HC.out HCc.out HBj.out (by have := HLj.out; omega)).mono ?_
  rintro e w2 ⟨rfl, hb⟩
  have HB2 := Aside0.mk (below_step HB1.out hb)
  have HDl := Aside0.mk (shaV_length j)
  clear hb
  obtain ⟨d, hd⟩ : ∃ d, d = shaV j := ⟨_, rfl⟩
  rw [← hd] at HDl ⊢
  have HDe := Aside0.mk hd
  clear hd
  have HD1 := Aside0.mk (dig_info HDl.out)
  have HD2 : Aside0 ((dA (List.replicate 32 0)).size = (dA d).size) := ⟨by rw [dA_size, dA_size, HDl.out]; rfl⟩
  have HD3 := Aside0.mk (dA_one d)
  have HB3 : Aside0 (Below w.heap.size w (w2.alloc (.cells (dA d) 63))) := ⟨bel_alloc HB2.out _⟩
  go_wp2_with (rw [z32_lit]; (with_reducible refine wpList_store_row rfl 63 (.tmp 5) (.tmp 10) rfl w2.heap.size (dA d) rfl rfl 63 (dA (List.replicate 32 0)) (heap_alloc_new _ _) HD1.out HD2.out HD3.out ?_); rw [World.setRow_alloc_new])
  go_ret
  exact ⟨_, _, rfl, by decide, HB2.out.size, ⟨d, heap_alloc_new _ _, HDl.out, by rw [← HDe.out]⟩, HB3.out⟩
set_option maxHeartbeats 4000000 in
set_option maxRecDepth 100000 in
theorem rbytes_calls (A0 : Option Addr) (c0 : Nat) (l : List (List Int)) (w : World) (hr0 : Kd.C (Kd.slice 5 (Kd.int .u8)) w A0 l.length l) (hby : ∀ r ∈ l, ∀ x ∈ r, 0 ≤ x ∧ x < 256) (hf : Few l) :
    Calls Tryd.prog 18 #[.slice A0 l.length c0] w fun e w' => ∃ A c, e = .returned (.slice A (storeB [] l).length c) ∧ Kd.C (Kd.int .u8) w' A (storeB [] l).length (storeB [] l) ∧ Below w.heap.size w w' := by
  have HR0 := Aside0.mk hr0
  have HBy := Aside0.mk hby
  have HF := Aside0.mk hf
  have hm := hr0.2.1
  clear hr0 hby hf
  go_enter Tryd.func18, Tryd.ntmps18
  go_wp2
  go_loopw [3, 4, 5] (fun v3 v4 v5 wr => ∃ (k : Nat), k ≤ l.length ∧ v5 = .int .i64 k ∧ Aside0 (kB.R 5 wr w.heap.size (fun _ => True) v3 (storeB [] (l.take k)) ∧ (∃ A c, v4 = .slice A (markV [] (l.take k)).length c ∧ (markV [] (l.take k)).length ≤ c ∧ Kd.C (Kd.int .u8) wr A (markV [] (l.take k)).length (markV [] (l.take k))) ∧ Below w.heap.size w wr)) (fun _ _ v5 _ => l.length - (intOf v5).toNat)
  case atStart => exact ⟨0, Nat.zero_le _, rfl, ⟨Kd.R_nil _ _ _ _ _, ⟨none, 0, rfl, Nat.le_refl _, ⟨rfl, Nat.zero_le _, fun h => absurd h (Nat.lt_irrefl 0)⟩⟩, Below.refl _ _⟩⟩
  case round =>
    obtain ⟨k, hk, rfl, HO⟩ := hrel
    by_cases hlt : k < l.length
    · obtain ⟨hown, ⟨Am, cm, rfl, hcm, hCm⟩, hB⟩ := HO.out
      have HOw := Aside0.mk hown
      have HB := Aside0.mk hB
      obtain ⟨ad, A1, c1, rfl, hxa, hl1, hi1⟩ := row_get HR0.out k hlt
      have HX := Aside0.mk hxa
      have hx := hxa wr hB
      have HI1 := Aside0.mk hi1
      have HG : Aside0 (l.getD k [] ∈ l) := ⟨by rw [List.getD_eq_getElem?_getD, List.getElem?_eq_getElem hlt]; exact List.getElem_mem hlt⟩
      have HLr : Aside0 ((l.getD k []).length ≤ 200) := ⟨HF.out.1 _ HG.out⟩
      have HBr := Aside0.mk (HBy.out _ HG.out)
      have HMl : Aside0 ((markV [] (l.take k)).length ≤ 16) := ⟨markV_le _ _ (by decide)⟩
      have HSl := Aside0.mk (rseal_calls Am (markV [] (l.take k)).length cm (markV [] (l.take k)) A1 (l.getD k []).length c1 (l.getD k []) wr hCm hcm (Kd.C_below hi1 hB) hl1 (by have := HLr.out; have := HMl.out; omega) (markV_byte _ _ (fun x hx => by cases hx)) HBr.out)
      have HSt : Aside0 (storeB [] (l.take (k + 1)) = storeB [] (l.take k) ++ joinL [l.getD k [], sealV (markV [] (l.take k)) (l.getD k [])] ∧ markV [] (l.take (k + 1)) = sealV (markV [] (l.take k)) (l.getD k [])) := ⟨by rw [take_snoc k hlt, storeB_snoc], by rw [take_snoc k hlt, markV_snoc]⟩
      have HSn : Aside0 ((sealV (markV [] (l.take k)) (l.getD k [])).length = 16) := ⟨sealV_len _ _⟩
      have HLs : Aside0 ((storeB [] (l.take k)).length ≤ 2688) := ⟨few_bytes (few_take k HF.out)⟩
      have HL1 := Aside0.mk hl1
      obtain ⟨A3, c3, rfl⟩ := Kd.R_slice hown
      clear hxa hown hB HO hcm hCm hi1 hl1 HG
      generalize l.getD k [] = p at *
      obtain ⟨s, hs⟩ : ∃ s, s = sealV (markV [] (l.take k)) p := ⟨_, rfl⟩
      rw [← hs] at HSl HSt HSn
      have HSe := Aside0.mk hs
      clear hs
      generalize hxs : storeB [] (l.take k) = xs at *
      clear hxs
      go_wp2_with (fail)
      refine HSl.out.mono ?_
      rintro e w1 ⟨gs, cs, rfl, hcs, hgs, hSA, hb⟩
      have hCs := hSA.reads
      have HB1 : Aside0 (Below w.heap.size w w1) := ⟨below_step HB.out hb⟩
      have hx1 := HX.out w1 HB1.out
      have HOw1 := Aside0.mk (Kd.R_below HOw.out hb)
      have HJ := Aside0.mk (rjoin2 A1 p.length c1 p (some ⟨gs, 0, none⟩) 16 cs s w1 (Kd.C_below HI1.out HB1.out) HL1.out hCs hcs (by have := HSn.out; have := HLr.out; omega))
      have HCs := Aside0.mk hSA
      have HGs := Aside0.mk hgs
      have HCsl := Aside0.mk hcs
      have HJl : Aside0 ((joinL [p, s]).length ≤ 224) := ⟨by rw [joinTwo_len]; have := HSn.out; have := HLr.out; omega⟩
      clear hb hCs hcs HSl hSA hgs
      go_wp2_with (fail)
      refine HJ.out.mono ?_
      rintro e w2 ⟨Aj, cj, rfl, hcj, hCj, hb⟩
      have HB2 : Aside0 (Below w.heap.size w w2) := ⟨below_step HB1.out hb⟩
      have HOw2 := Aside0.mk (Kd.R_below HOw1.out hb)
      have HCs2 := Aside0.mk (HCs.out.below hb)
      have HNe : Aside0 (some gs ≠ (Value.slice A3 xs.length c3).ownBlock) := ⟨fun e => by have h1 := ((Kd.R_bound HOw.out).1 gs e.symm).2.2.1; have := HGs.out; omega⟩
      have HCj := Aside0.mk hCj
      clear hcj hCj hb HJ
      go_wp2_with (at_builtin; refine Kd.R_append_rows kB (w0 := w) (W := w2) w.heap.size (by rfl) (.tmp 18) (.tmp 25) 22 5 (.int .u8 0) 1 rfl Tryd.underlying22 info_u8 rfl (by decide) (by decide) (.slice A3 xs.length c3) xs (joinL [p, s]) Aj (joinL [p, s]).length cj (fun _ => True) (fun _ => False) rfl rfl HOw2.out HCj.out (fun _ _ h => h) (fun _ h => h.elim) (fun _ _ => trivial) HB2.out HB2.out.size (by have := HLs.out; have := HJl.out; omega) ?_; intro v1 w3 ho hb3 hg hat; have HO3 := Aside0.mk ho; have HB3 := Aside0.mk hb3; have HCs3 := Aside0.mk (HCs2.out.grown hg HNe.out); clear ho hb3 hg hat)
      go_roundw
      case rel => exact ⟨k + 1, by omega, by go_num, ⟨by rw [HSt.out.1]; exact HO3.out, ⟨_, _, by rw [HSt.out.2, HSn.out], by rw [HSt.out.2, HSn.out]; exact HCsl.out, by rw [HSt.out.2, HSn.out]; exact HCs3.out.reads⟩, HB3.out⟩⟩
      case measure => simp [intOf]; omega
    · obtain rfl : k = l.length := by omega
      have hO := HO.out
      rw [List.take_length] at hO
      obtain ⟨hown, _, hB⟩ := hO
      obtain ⟨A3, c3, rfl⟩ := Kd.R_slice hown
      have HO := Aside0.mk (Kd.R_reads' hown).2.2
      have HB := Aside0.mk hB
      clear hown hB
      go_wp2
      go_ret
      exact ⟨_, _, rfl, HO.out, HB.out⟩
end Go.Proofs.YtpndobhakmjglaaDoor.Store
