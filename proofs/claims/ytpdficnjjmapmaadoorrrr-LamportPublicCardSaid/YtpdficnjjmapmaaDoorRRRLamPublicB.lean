/- LamportPublic: whatever the seed, it answers true. -/
import Derived.Test.YtpdficnjjmapmaaDoorRRRBunL6
namespace Go.Proofs.YtpdficnjjmapmaaDoorRRR.Lam
open Go.RowKit Go.Proofs.YtpdficnjjmapmaaDoorRRRW.PrintWords Go.Proofs.YtpdficnjjmapmaaDoorRRRW.PrintLast Go.Proofs.YtpdficnjjmapmaaDoorRRRW.PrintMore Go.Proofs.YtpdficnjjmapmaaDoorRRR.K Go.Proofs.YtpdficnjjmapmaaDoorRRR.Sha Go.Proofs.YtpdficnjjmapmaaDoorRRR.RI
set_option linter.unusedVariables false
set_option linter.unusedSimpArgs false
/-- While the reference gathers: n bytes of the digests. -/
def GatW (w : World) (d F : List Int) (v : Value) (wr : World) : Prop :=
  wr.heap[w.heap.size]? = some (.cells (dA d) 23 (0, 0)) ∧ wr.heap[w.heap.size + 1]? = some (.cells (dA (List.replicate 32 0)) 23 (0, 0)) ∧ wr.ownsRow w.heap.size 5 1 v F.length (nums .u8 F) ∧ Below w.heap.size w wr
theorem GatW.below {w w1 w2 : World} {d F : List Int} {v : Value} (h : GatW w d F v w1) (hb : Below w1.heap.size w1 w2) : GatW w d F v w2 :=
  ⟨(hb.block _ (blk_lt h.1)).trans h.1, (hb.block _ (blk_lt h.2.1)).trans h.2.1, own_int (Kd.R_below (R_int h.2.2.1) hb), below_step h.2.2.2 hb⟩
set_option maxHeartbeats 8000000 in
set_option maxRecDepth 100000 in
theorem rpublic_calls (d : List Int) (w : World) (hd : d.length = 32) (hby : ∀ x ∈ d, 0 ≤ x ∧ x < 256) :
    Calls Tryd.prog 10 #[.agg (dA d)] w fun e w' => e = .returned (.agg (dA (pubV d))) ∧ Below w.heap.size w w' := by
  have HBy := Aside0.mk hby
  have HDl := Aside0.mk hd
  have HDi := Aside0.mk (dig_info hd)
  have HTl : Aside0 (∀ i b, (shaV (secV d i b)).length = 32) := ⟨fun i b => shaV_length _⟩
  have HTb : Aside0 (∀ i b, ∀ x ∈ shaV (secV d i b), 0 ≤ x ∧ x < 256) := ⟨fun i b => shaV_byte _⟩
  have HI : Aside0 (GatW w d (pairs (fun i b => shaV (secV d i b)) 0) (.slice none 0 0) ((w.alloc (.cells (dA d) 23)).alloc (.cells (dA (List.replicate 32 0)) 23))) := ⟨by
    have a1 := heap_alloc_new w (.cells (dA d) 23)
    have a2 := heap_alloc_new (w.alloc (.cells (dA d) 23)) (.cells (dA (List.replicate 32 0)) 23)
    rw [World.size_alloc] at a2
    exact ⟨((bel_alloc (Below.refl _ _) _).block _ (blk_lt a1)).trans a1, a2, own_nil _ _ _ _, bel_alloc (bel_alloc (Below.refl _ _) _) _⟩⟩
  clear hd hby
  go_enter Tryd.func10, Tryd.ntmps10
  go_wp2_with (fail)
  rw [z32_lit]
  generalize (w.alloc (.cells (dA d) 23)).alloc (.cells (dA (List.replicate 32 0)) 23) = w1 at *
  go_loopw [3, 4] (fun v3 v4 wr => ∃ k : Nat, k ≤ 256 ∧ v4 = .int .i64 (k : Int) ∧ Aside0 (GatW w d (pairs (fun i b => shaV (secV d i b)) k) v3 wr)) (fun _ v4 _ => 256 - (intOf v4).toNat)
  case atStart => exact ⟨0, Nat.zero_le _, rfl, HI⟩
  case round =>
    clear HI
    obtain ⟨k, hk, rfl, HO⟩ := hrel
    by_cases hlt : k < 256
    · have HI2 : Aside0 (GatW w d (pairs (fun i b => shaV (secV d i b)) k ++ inF (fun i b => shaV (secV d i b)) k 0) u3 wr) := ⟨by rw [show inF (fun i b => shaV (secV d i b)) k 0 = [] from rfl, List.append_nil]; exact HO.out⟩
      have HPl := Aside0.mk (pairs_len HTl.out k)
      have HPs : Aside0 (pairs (fun i b => shaV (secV d i b)) (k + 1) = pairs (fun i b => shaV (secV d i b)) k ++ inF (fun i b => shaV (secV d i b)) k 2) := ⟨rfl⟩
      have HPn : Aside0 (∀ b, b < 2 → pairs (fun i b => shaV (secV d i b)) k ++ inF (fun i b => shaV (secV d i b)) k (b + 1) = (pairs (fun i b => shaV (secV d i b)) k ++ inF (fun i b => shaV (secV d i b)) k b) ++ shaV (secV d k b)) := ⟨fun b hb => by rw [inF_succ _ k b hb, List.append_assoc]⟩
      have HIl := Aside0.mk (fun b (hb : b ≤ 2) => inF_len HTl.out k b hb)
      clear HO
      generalize pairs (fun i b => shaV (secV d i b)) k = F0 at *
      have hd9 : decide ((k : Int) < 256) = true := by simp; omega
      go_wp2_with (fail)
      go_loopw [3, 5] (fun v3 v5 wr => ∃ b : Nat, b ≤ 2 ∧ v5 = .int .i64 (b : Int) ∧ Aside0 (GatW w d (F0 ++ inF (fun i b => shaV (secV d i b)) k b) v3 wr)) (fun _ v5 _ => 2 - (intOf v5).toNat)
      case atStart => exact ⟨0, by decide, rfl, HI2⟩
      case round =>
        clear HI2
        obtain ⟨b, hb2, rfl, HO⟩ := hrel
        by_cases hlt2 : b < 2
        · have hdb : decide ((b : Int) < 2) = true := by simp; omega
          have HIl2 := Aside0.mk (HIl.out b hb2)
          have HPn2 := Aside0.mk (HPn.out b hlt2)
          have HD1 : Aside0 (wr.heap[w.heap.size]? = some (.cells (dA d) 23 (0, 0))) := ⟨HO.out.1⟩
          generalize inF (fun i b => shaV (secV d i b)) k b = F1 at *
          go_wp2_with (with_reducible refine wpList_load_row rfl 23 (.tmp 1) rfl w.heap.size rfl 23 (dA d) (0, 0) _ HD1.out Tryd.underlying23 rfl HDi.out ?_)
          refine (rsecret_calls d k b wr HDl.out HBy.out (by omega) (by omega)).mono ?_
          rintro e w2 ⟨rfl, hb⟩
          have HO2 := Aside0.mk (HO.out.below hb)
          clear hb HO HD1
          have HXl := Aside0.mk (secV_len d k b)
          have HXb := Aside0.mk (secV_byte d k b)
          generalize secV d k b = X at *
          have HX1 := Aside0.mk (dig_info HXl.out)
          have HX2 := Aside0.mk (zz_size HXl.out)
          have HX3 := Aside0.mk (dA_one X)
          have HO3 : Aside0 (GatW w d (F0 ++ F1) u3 (w2.alloc (.cells (dA X) 23))) := ⟨HO2.out.below (bel_alloc (Below.refl _ _) _)⟩
          have HC3 : Aside0 (Kd.C (Kd.int .u8) (w2.alloc (.cells (dA X) 23)) (some ⟨w2.heap.size, 0, none⟩) X.length X) := ⟨dig_reads (heap_alloc_new _ _) rfl (by rw [HXl.out]; decide)⟩
          go_wp2_with (rw [z32_lit]; (with_reducible refine wpList_store_row rfl 23 (.tmp 6) (.tmp 19) rfl w2.heap.size (dA X) rfl rfl 23 (dA (List.replicate 32 0)) (heap_alloc_new _ _) HX1.out HX2.out HX3.out ?_); rw [World.setRow_alloc_new])
          generalize w2.heap.size = g2 at *
          generalize w2.alloc (.cells (dA X) 23) = w3 at *
          have HS := Aside0.mk (rsum_calls (some ⟨g2, 0, none⟩) 32 X w3 HC3.out (by rw [HXl.out]; decide) HXb.out (by rw [HXl.out]; decide))
          rw [HXl.out] at HS
          refine HS.out.mono ?_
          rintro e w4 ⟨rfl, hb⟩
          have HO4 := Aside0.mk (HO3.out.below hb)
          clear hb HS HO2 HO3 HC3
          have HEl := Aside0.mk (shaV_length X)
          generalize shaV X = E at *
          have HE1 := Aside0.mk (dig_info HEl.out)
          have HE2 := Aside0.mk (zz_size HEl.out)
          have HE3 := Aside0.mk (dA_one E)
          go_wp2_with (first
            | (rw [z32_lit]; (with_reducible refine wpList_store_row rfl 23 (.tmp 7) (.tmp 21) rfl w4.heap.size (dA E) rfl rfl 23 (dA (List.replicate 32 0)) (heap_alloc_new _ _) HE1.out HE2.out HE3.out ?_); rw [World.setRow_alloc_new])
            | (at_builtin; refine print_append_row (w0 := w) w.heap.size rfl (.tmp 22) (.tmp 23) 38 5 .u8 1 rfl Tryd.underlying38 Codec.info_u8 (by decide) u3 (F0 ++ F1) E (some ⟨w4.heap.size, 0, none⟩) 32 32 rfl rfl (HO4.out.2.2.1.alloc _) (reads_int (dig_reads (heap_alloc_new _ _) HEl.out (by decide))) (bel_alloc HO4.out.2.2.2 _) (bel_size HO4.out.2.2.2 _) (by rw [List.length_append, HPl.out]; have := HIl2.out; omega) ?_; intro v1 w5 ho hb hg hat; have HA5 := Aside0.mk ho; have HB5 := Aside0.mk hb; have HG5 := Aside0.mk hg; clear ho hb hg hat))
          have HO6 : Aside0 (GatW w d (F0 ++ F1 ++ E) v1 w5) := ⟨by
            have k1 : ∀ (g : Nat) (X : Array Value), w4.heap[g]? = some (Obj.cells X 23 (0, 0)) → w5.heap[g]? = some (Obj.cells X 23 (0, 0)) := fun g X h =>
              blk_grown (((bel_alloc (Below.refl _ _) _).block _ (blk_lt h)).trans h) HG5.out (Kd.R_ne (R_int HO4.out.2.2.1) h (by decide))
            exact ⟨k1 _ _ HO4.out.1, k1 _ _ HO4.out.2.1, HA5.out, HB5.out⟩⟩
          clear HA5 HB5 HG5 HO4
          go_roundw
          case rel => exact ⟨b + 1, by omega, by go_num, by rw [HPn2.out]; exact HO6⟩
          case measure => simp [intOf]; omega
        · obtain rfl : b = 2 := by omega
          go_wp2_with (fail)
          go_roundw
          case rel => exact ⟨k + 1, by omega, by go_num, by rw [HPs.out]; exact HO⟩
          case measure => simp [intOf]; omega
    · obtain rfl : k = 256 := by omega
      have HPl := Aside0.mk (pairs_len HTl.out 256)
      have HPb := Aside0.mk (pairs_byte HTb.out 256)
      have HV : Aside0 (pubV d = shaV (pairs (fun i b => shaV (secV d i b)) 256)) := ⟨rfl⟩
      generalize pairs (fun i b => shaV (secV d i b)) 256 = Fa at *
      obtain ⟨A3, c3, rfl⟩ := own_slice HO.out.2.2.1
      have HR := Aside0.mk (Kd.R_reads' (R_int HO.out.2.2.1)).2
      go_wp2_with (fail)
      refine (rsum_calls A3 c3 Fa wr HR.out.2 HR.out.1 HPb.out (by rw [HPl.out]; decide)).mono ?_
      rintro e w2 ⟨rfl, hb⟩
      have HB2 := Aside0.mk (below_step HO.out.2.2.2 hb)
      have HZ2 : Aside0 (w2.heap[w.heap.size + 1]? = some (.cells (dA (List.replicate 32 0)) 23 (0, 0))) := ⟨(hb.block _ (blk_lt HO.out.2.1)).trans HO.out.2.1⟩
      clear hb HO HR
      rw [← HV.out]
      have HDl2 : Aside0 ((pubV d).length = 32) := ⟨shaV_length _⟩
      obtain ⟨E, hE⟩ : ∃ E, E = pubV d := ⟨_, rfl⟩
      rw [← hE] at HDl2 ⊢
      have HEe := Aside0.mk hE
      clear hE HV
      have HE1 := Aside0.mk (dig_info HDl2.out)
      have HE2 := Aside0.mk (zz_size HDl2.out)
      have HE3 := Aside0.mk (dA_one E)
      go_wp2_with (with_reducible refine wpList_store_row rfl 23 (.tmp 2) (.tmp 26) rfl (w.heap.size + 1) (dA E) rfl rfl 23 _ HZ2.out HE1.out HE2.out HE3.out ?_)
      exact bodyPost_ret (results_cell_row Tryd.results10 _ _ (w.heap.size + 1) 23 (dA E) (0, 0) _ rfl (setRow_heap _ _ _ _ _ _ HZ2.out) Tryd.underlying23 rfl HE1.out) rfl ⟨by rw [HEe.out], below_setRow HB2.out (Nat.le_succ _) _⟩
def PbF (d P : List Int) (iv : Nat) (xv : Value) (W : World) : Prop := match iv with
  | 0 => xv = .agg (dA d)
  | 1 => xv = .agg (dA P)
  | 2 => xv = .agg (dA d)
  | 3 => xv = .agg (dA P)
  | 4 => xv = .bool true
  | 5 => xv = .bool true
  | 6 => xv = .bool true
  | 7 => xv = .bool true
  | _ => True
theorem PbF.step (d P : List Int) (i : Nat) (x : Value) (W W' : World) (hb : Below W.heap.size W W') (h : PbF d P i x W) : PbF d P i x W' := by
  unfold PbF at *
  split <;> simp only at h ⊢
  · exact h
  · exact h
  · exact h
  · exact h
  · exact h
  · exact h
  · exact h
  · exact h
set_option maxHeartbeats 8000000 in
set_option maxRecDepth 100000 in
theorem publiclaw_calls (d : List Int) (w : World) (hd : d.length = 32) (hby : ∀ x ∈ d, 0 ≤ x ∧ x < 256) (hLf : LaidAt w 0 firstA) (hL : LaidAt w 1 constA) :
    Calls Tryd.prog 4 #[.agg (dA d)] w fun e w' => e = .returned (.bool true) ∧ Below w.heap.size w w' := by
  have HLf := Aside0.mk hLf
  have HL := Aside0.mk hL
  have HBy := Aside0.mk hby
  have HDl := Aside0.mk hd
  have HDi := Aside0.mk (dig_info hd)
  have HD6 : Aside0 ((w.alloc (.cells (dA d) 23)).heap[w.heap.size]? = some (.cells (dA d) 23 (0, 0))) := ⟨heap_alloc_new _ _⟩
  have HB6 : Aside0 (Below w.heap.size w (w.alloc (.cells (dA d) 23))) := ⟨bel_alloc (Below.refl _ _) _⟩
  have HPl : Aside0 ((pubV d).length = 32) := ⟨shaV_length _⟩
  obtain ⟨P, hP⟩ : ∃ P, P = pubV d := ⟨_, rfl⟩
  rw [← hP] at HPl
  have HPe := Aside0.mk hP
  clear hLf hL hby hd hP
  go_enter Tryd.func4, Tryd.ntmps4
  go_upto_region 1 with (fail)
  generalize w.alloc (.cells (dA d) 23) = w6 at *
  refine wp_region_mono 8 [false, false, true, true, true, true, true, true, true, true, true] (by kernel_rfl) (by kernel_rfl) (fun W => Below w6.heap.size w6 W) (fun W W' => Below W.heap.size W W') (PbF d P) (fun iv xv W W' _ hb h => PbF.step d P iv xv W W' hb h) (below_drew (Below.refl _ _)) ?_
  refine ⟨?_, ?_, ?_, ?_, ?_, ?_, ?_, ?_, ?_, trivial⟩
  · intro v W hb hd
    have HD6w : Aside0 (W.heap[w.heap.size]? = some (.cells (dA d) 23 (0, 0))) := ⟨(hb.block _ (blk_lt HD6.out)).trans HD6.out⟩
    refine step_list fun K hK => ?_
    simp only [fill_lit, fillL, Act.put, List.setIfInBounds_toArray, List.set_cons_zero, List.set_cons_succ, Nat.reduceAdd] at hK ⊢
    clear hd
    go_wp2_with (refine wpList_load_on (by rfl) 23 (.tmp 1) rfl w.heap.size rfl 23 (dA d) (0, 0) _ HD6w.out Tryd.underlying23 rfl HDi.out ?_)
    exact ⟨hb, Below.refl _ _, rfl⟩
  · intro v W hb hd
    have HLw := Aside0.mk (And.intro (HLf.out.below (below_step HB6.out hb)) (HL.out.below (below_step HB6.out hb)))
    have h0 : v 3 = .agg (dA d) := hd 0 (by kernel_rfl)
    refine step_list fun K hK => ?_
    simp only [fill_lit, fillL, Act.put, List.setIfInBounds_toArray, List.set_cons_zero, List.set_cons_succ, Nat.reduceAdd] at hK ⊢
    rw [h0] at hK ⊢
    clear hd h0
    go_wp2_with (fail)
    refine (public_calls d W HDl.out HBy.out HLw.out.1 HLw.out.2).mono ?_
    rintro e W' ⟨rfl, hb'⟩
    have HB' := Aside0.mk hb'
    clear hb'
    go_wp2_with (fail)
    exact ⟨below_step hb HB'.out, HB'.out, by rw [← HPe.out]; rfl⟩
  · intro v W hb hd
    have HD6w : Aside0 (W.heap[w.heap.size]? = some (.cells (dA d) 23 (0, 0))) := ⟨(hb.block _ (blk_lt HD6.out)).trans HD6.out⟩
    refine step_list fun K hK => ?_
    simp only [fill_lit, fillL, Act.put, List.setIfInBounds_toArray, List.set_cons_zero, List.set_cons_succ, Nat.reduceAdd] at hK ⊢
    clear hd
    go_wp2_with (refine wpList_load_on (by rfl) 23 (.tmp 1) rfl w.heap.size rfl 23 (dA d) (0, 0) _ HD6w.out Tryd.underlying23 rfl HDi.out ?_)
    exact ⟨hb, Below.refl _ _, rfl⟩
  · intro v W hb hd
    have h2 : v 5 = .agg (dA d) := hd 2 (by kernel_rfl)
    refine step_list fun K hK => ?_
    simp only [fill_lit, fillL, Act.put, List.setIfInBounds_toArray, List.set_cons_zero, List.set_cons_succ, Nat.reduceAdd] at hK ⊢
    rw [h2] at hK ⊢
    clear hd h2
    go_wp2_with (fail)
    refine (rpublic_calls d W HDl.out HBy.out).mono ?_
    rintro e W' ⟨rfl, hb'⟩
    have HB' := Aside0.mk hb'
    clear hb'
    go_wp2_with (fail)
    exact ⟨below_step hb HB'.out, HB'.out, by rw [← HPe.out]; rfl⟩
  · intro v W hb hd
    have heq : ∀ W0 : World, (binOp .eql 23 (.agg (dA P)) (.agg (dA P))).run Tryd.prog W0 = .ok (.bool true) W0 := fun W0 => eql_same HPl.out W0
    have h1 : v 4 = .agg (dA P) := hd 1 (by kernel_rfl)
    have h3 : v 6 = .agg (dA P) := hd 3 (by kernel_rfl)
    refine step_list fun K hK => ?_
    simp only [fill_lit, fillL, Act.put, List.setIfInBounds_toArray, List.set_cons_zero, List.set_cons_succ, Nat.reduceAdd] at hK ⊢
    rw [h1, h3] at hK ⊢
    clear hd h1 h3
    go_wp2
    exact ⟨hb, Below.refl _ _, rfl⟩
  · intro v W hb hd
    have h4 : v 7 = .bool true := hd 4 (by kernel_rfl)
    refine step_list fun K hK => ?_
    simp only [fill_lit, fillL, Act.put, List.setIfInBounds_toArray, List.set_cons_zero, List.set_cons_succ, Nat.reduceAdd] at hK ⊢
    rw [h4] at hK ⊢
    clear hd h4
    go_wp2
    exact ⟨hb, Below.refl _ _, rfl⟩
  · intro v W hb hd
    have HLw := Aside0.mk (And.intro (HLf.out.below (below_step HB6.out hb)) (HL.out.below (below_step HB6.out hb)))
    have h5 : v 8 = .bool true := hd 5 (by kernel_rfl)
    refine step_list fun K hK => ?_
    simp only [fill_lit, fillL, Act.put, List.setIfInBounds_toArray, List.set_cons_zero, List.set_cons_succ, Nat.reduceAdd] at hK ⊢
    rw [h5] at hK ⊢
    clear hd h5
    go_wp2_with (fail)
    refine (awake_calls W HLw.out.1 HLw.out.2).mono ?_
    rintro e W' ⟨rfl, hb'⟩
    have HB' := Aside0.mk hb'
    clear hb'
    go_wp2_with (fail)
    exact ⟨below_step hb HB'.out, HB'.out, rfl⟩
  · intro v W hb hd
    have h5 : v 8 = .bool true := hd 5 (by kernel_rfl)
    have h6 : v 9 = .bool true := hd 6 (by kernel_rfl)
    refine step_list fun K hK => ?_
    simp only [fill_lit, fillL, Act.put, List.setIfInBounds_toArray, List.set_cons_zero, List.set_cons_succ, Nat.reduceAdd] at hK ⊢
    rw [h5, h6] at hK ⊢
    clear hd h5 h6
    go_wp2
    exact ⟨hb, Below.refl _ _, rfl⟩
  · intro v W hb hd
    have h7 : v 10 = .bool true := hd 7 (by kernel_rfl)
    refine step_list fun K hK => ?_
    simp only [fill_lit, fillL, Act.put, List.setIfInBounds_toArray, List.set_cons_zero, List.set_cons_succ, Nat.reduceAdd] at hK ⊢
    rw [h7] at hK ⊢
    clear hd h7
    go_wp2
    go_ret
    exact ⟨rfl, below_step HB6.out hb⟩
end Go.Proofs.YtpdficnjjmapmaaDoorRRR.Lam

