/- LamportSecrets: whatever the seed, the place and the bit, it answers true. -/
import Derived.Test.YtpdficnjjmapmaaDoorRRRBunL6
namespace Go.Proofs.YtpdficnjjmapmaaDoorRRR.Lam
open Go.RowKit Go.Proofs.YtpdficnjjmapmaaDoorRRRW.PrintWords Go.Proofs.YtpdficnjjmapmaaDoorRRRW.PrintLast Go.Proofs.YtpdficnjjmapmaaDoorRRRW.PrintMore Go.Proofs.YtpdficnjjmapmaaDoorRRR.K Go.Proofs.YtpdficnjjmapmaaDoorRRR.Sha Go.Proofs.YtpdficnjjmapmaaDoorRRR.RI
set_option linter.unusedVariables false
set_option linter.unusedSimpArgs false
def ScF (d X : List Int) (pn bn : Nat) (iv : Nat) (xv : Value) (W : World) : Prop := match iv with
  | 0 => xv = .agg (dA X)
  | 1 => xv = .agg (dA d)
  | 2 => xv = .int .i64 (pn : Int)
  | 3 => xv = .int .i64 (bn : Int)
  | 4 => xv = .agg (dA X)
  | 5 => xv = .bool true
  | 6 => xv = .bool true
  | 7 => xv = .int .i64 0
  | 8 => xv = .bool true
  | 9 => xv = .bool true
  | 10 => xv = .bool true
  | 11 => xv = .bool true
  | 12 => xv = .bool true
  | 13 => xv = .bool true
  | _ => True
theorem ScF.step (d X : List Int) (pn bn : Nat) (i : Nat) (x : Value) (W W' : World) (hb : Below W.heap.size W W') (h : ScF d X pn bn i x W) : ScF d X pn bn i x W' := by
  unfold ScF at *
  split <;> simp only at h ⊢
  · exact h
  · exact h
  · exact h
  · exact h
  · exact h
  · exact h
  · exact h
  · exact h
  · exact h
  · exact h
  · exact h
  · exact h
  · exact h
  · exact h
set_option maxHeartbeats 8000000 in
set_option maxRecDepth 100000 in
theorem secretslaw_calls (d : List Int) (p r : Int) (w : World) (hd : d.length = 32) (hby : ∀ x ∈ d, 0 ≤ x ∧ x < 256) (hLf : LaidAt w 0 firstA) (hL : LaidAt w 1 constA) :
    Calls Tryd.prog 3 #[.agg (dA d), .int .i64 p, .int .i64 r] w fun e w' => e = .returned (.bool true) ∧ Below w.heap.size w w' := by
  have HLf := Aside0.mk hLf
  have HL := Aside0.mk hL
  have HBy := Aside0.mk hby
  have HDl := Aside0.mk hd
  have HDi := Aside0.mk (dig_info hd)
  have HD1 : Aside0 ((w.alloc (.cells (dA d) 23)).heap[w.heap.size]? = some (.cells (dA d) 23 (0, 0))) := ⟨heap_alloc_new _ _⟩
  have HB1 : Aside0 (Below w.heap.size w (w.alloc (.cells (dA d) 23))) := ⟨bel_alloc (Below.refl _ _) _⟩
  clear hLf hL hby
  by_cases hlo : p < 0 ∨ 255 < p ∨ r < 0 ∨ 1 < r
  · have HBad := Aside0.mk (secrets_bad d p r (w.alloc (.cells (dA d) 23)) hd hlo)
    have HZq : Aside0 (∀ W0 : World, (binOp .eql 23 (.agg (dA (List.replicate 32 0))) (.agg #[.int .u8 0, .int .u8 0, .int .u8 0, .int .u8 0, .int .u8 0, .int .u8 0, .int .u8 0, .int .u8 0, .int .u8 0, .int .u8 0, .int .u8 0, .int .u8 0, .int .u8 0, .int .u8 0, .int .u8 0, .int .u8 0, .int .u8 0, .int .u8 0, .int .u8 0, .int .u8 0, .int .u8 0, .int .u8 0, .int .u8 0, .int .u8 0, .int .u8 0, .int .u8 0, .int .u8 0, .int .u8 0, .int .u8 0, .int .u8 0, .int .u8 0, .int .u8 0])).run Tryd.prog W0 = .ok (.bool true) W0) := ⟨fun W0 => by rw [z32_lit]; exact eql_same rfl W0⟩
    have HZi := Aside0.mk (dig_info (show (List.replicate 32 (0 : Int)).length = 32 from rfl))
    have HZo := Aside0.mk (dA_one (List.replicate 32 0))
    obtain ⟨Z, hZ⟩ : ∃ Z : List Int, Z = List.replicate 32 0 := ⟨_, rfl⟩
    rw [← hZ] at HZq HZi HZo
    have HZe := Aside0.mk hZ
    clear hZ hd
    by_cases h1 : p < 0
    · have g1 : decide (p < 0) = true := by simpa using h1
      clear hlo
      go_enter Tryd.func3, Tryd.ntmps3
      go_wp2_with (with_reducible refine wpList_load_row rfl 23 (.tmp 3) rfl w.heap.size rfl 23 (dA d) (0, 0) _ HD1.out Tryd.underlying23 rfl HDi.out ?_)
      generalize w.alloc (.cells (dA d) 23) = w1 at *
      refine HBad.out.mono ?_
      rintro e w2 ⟨rfl, hb⟩
      have HB2 := Aside0.mk (below_step HB1.out hb)
      clear hb HBad
      rw [← HZe.out]
      go_upto_region 3 with (rw [z32_lit]; rw [← HZe.out]; (with_reducible refine wpList_store_row rfl 23 (.tmp 7) (.tmp 14) rfl w2.heap.size (dA Z) rfl rfl 23 (dA Z) (heap_alloc_new _ _) HZi.out rfl HZo.out ?_); rw [World.setRow_alloc_new])
      have HB3 : Aside0 (Below w.heap.size w (w2.alloc (.cells (dA Z) 23))) := ⟨bel_alloc HB2.out _⟩
      have HZ3 : Aside0 ((w2.alloc (.cells (dA Z) 23)).heap[w2.heap.size]? = some (.cells (dA Z) 23 (0, 0))) := ⟨heap_alloc_new _ _⟩
      generalize w2.heap.size = g7 at *
      generalize w2.alloc (.cells (dA Z) 23) = w3 at *
      have heq := HZq.out
      go_wp2_with (refine wpList_load_row rfl 23 (.tmp 7) rfl g7 rfl 23 (dA Z) (0, 0) _ HZ3.out Tryd.underlying23 rfl HZi.out ?_)
      refine (awake_calls w3 (HLf.out.below HB3.out) (HL.out.below HB3.out)).mono ?_
      rintro e w4 ⟨rfl, hb⟩
      have HB4 := Aside0.mk (below_step HB3.out hb)
      clear hb
      go_wp2_with (fail)
      go_ret
      exact ⟨rfl, HB4.out⟩
    · have g1 : decide (p < 0) = false := by simpa using h1
      by_cases h2 : 255 < p
      · have g2 : decide (255 < p) = true := by simpa using h2
        clear hlo
        go_enter Tryd.func3, Tryd.ntmps3
        go_wp2_with (with_reducible refine wpList_load_row rfl 23 (.tmp 3) rfl w.heap.size rfl 23 (dA d) (0, 0) _ HD1.out Tryd.underlying23 rfl HDi.out ?_)
        generalize w.alloc (.cells (dA d) 23) = w1 at *
        refine HBad.out.mono ?_
        rintro e w2 ⟨rfl, hb⟩
        have HB2 := Aside0.mk (below_step HB1.out hb)
        clear hb HBad
        rw [← HZe.out]
        go_upto_region 3 with (rw [z32_lit]; rw [← HZe.out]; (with_reducible refine wpList_store_row rfl 23 (.tmp 7) (.tmp 14) rfl w2.heap.size (dA Z) rfl rfl 23 (dA Z) (heap_alloc_new _ _) HZi.out rfl HZo.out ?_); rw [World.setRow_alloc_new])
        have HB3 : Aside0 (Below w.heap.size w (w2.alloc (.cells (dA Z) 23))) := ⟨bel_alloc HB2.out _⟩
        have HZ3 : Aside0 ((w2.alloc (.cells (dA Z) 23)).heap[w2.heap.size]? = some (.cells (dA Z) 23 (0, 0))) := ⟨heap_alloc_new _ _⟩
        generalize w2.heap.size = g7 at *
        generalize w2.alloc (.cells (dA Z) 23) = w3 at *
        have heq := HZq.out
        go_wp2_with (refine wpList_load_row rfl 23 (.tmp 7) rfl g7 rfl 23 (dA Z) (0, 0) _ HZ3.out Tryd.underlying23 rfl HZi.out ?_)
        refine (awake_calls w3 (HLf.out.below HB3.out) (HL.out.below HB3.out)).mono ?_
        rintro e w4 ⟨rfl, hb⟩
        have HB4 := Aside0.mk (below_step HB3.out hb)
        clear hb
        go_wp2_with (fail)
        go_ret
        exact ⟨rfl, HB4.out⟩
      · have g2 : decide (255 < p) = false := by simpa using h2
        by_cases h3 : r < 0
        · have g3 : decide (r < 0) = true := by simpa using h3
          clear hlo
          go_enter Tryd.func3, Tryd.ntmps3
          go_wp2_with (with_reducible refine wpList_load_row rfl 23 (.tmp 3) rfl w.heap.size rfl 23 (dA d) (0, 0) _ HD1.out Tryd.underlying23 rfl HDi.out ?_)
          generalize w.alloc (.cells (dA d) 23) = w1 at *
          refine HBad.out.mono ?_
          rintro e w2 ⟨rfl, hb⟩
          have HB2 := Aside0.mk (below_step HB1.out hb)
          clear hb HBad
          rw [← HZe.out]
          go_upto_region 3 with (rw [z32_lit]; rw [← HZe.out]; (with_reducible refine wpList_store_row rfl 23 (.tmp 7) (.tmp 14) rfl w2.heap.size (dA Z) rfl rfl 23 (dA Z) (heap_alloc_new _ _) HZi.out rfl HZo.out ?_); rw [World.setRow_alloc_new])
          have HB3 : Aside0 (Below w.heap.size w (w2.alloc (.cells (dA Z) 23))) := ⟨bel_alloc HB2.out _⟩
          have HZ3 : Aside0 ((w2.alloc (.cells (dA Z) 23)).heap[w2.heap.size]? = some (.cells (dA Z) 23 (0, 0))) := ⟨heap_alloc_new _ _⟩
          generalize w2.heap.size = g7 at *
          generalize w2.alloc (.cells (dA Z) 23) = w3 at *
          have heq := HZq.out
          go_wp2_with (refine wpList_load_row rfl 23 (.tmp 7) rfl g7 rfl 23 (dA Z) (0, 0) _ HZ3.out Tryd.underlying23 rfl HZi.out ?_)
          refine (awake_calls w3 (HLf.out.below HB3.out) (HL.out.below HB3.out)).mono ?_
          rintro e w4 ⟨rfl, hb⟩
          have HB4 := Aside0.mk (below_step HB3.out hb)
          clear hb
          go_wp2_with (fail)
          go_ret
          exact ⟨rfl, HB4.out⟩
        · have g3 : decide (r < 0) = false := by simpa using h3
          have g4 : decide (1 < r) = true := by simp; omega
          clear hlo
          go_enter Tryd.func3, Tryd.ntmps3
          go_wp2_with (with_reducible refine wpList_load_row rfl 23 (.tmp 3) rfl w.heap.size rfl 23 (dA d) (0, 0) _ HD1.out Tryd.underlying23 rfl HDi.out ?_)
          generalize w.alloc (.cells (dA d) 23) = w1 at *
          refine HBad.out.mono ?_
          rintro e w2 ⟨rfl, hb⟩
          have HB2 := Aside0.mk (below_step HB1.out hb)
          clear hb HBad
          rw [← HZe.out]
          go_upto_region 3 with (rw [z32_lit]; rw [← HZe.out]; (with_reducible refine wpList_store_row rfl 23 (.tmp 7) (.tmp 14) rfl w2.heap.size (dA Z) rfl rfl 23 (dA Z) (heap_alloc_new _ _) HZi.out rfl HZo.out ?_); rw [World.setRow_alloc_new])
          have HB3 : Aside0 (Below w.heap.size w (w2.alloc (.cells (dA Z) 23))) := ⟨bel_alloc HB2.out _⟩
          have HZ3 : Aside0 ((w2.alloc (.cells (dA Z) 23)).heap[w2.heap.size]? = some (.cells (dA Z) 23 (0, 0))) := ⟨heap_alloc_new _ _⟩
          generalize w2.heap.size = g7 at *
          generalize w2.alloc (.cells (dA Z) 23) = w3 at *
          have heq := HZq.out
          go_wp2_with (refine wpList_load_row rfl 23 (.tmp 7) rfl g7 rfl 23 (dA Z) (0, 0) _ HZ3.out Tryd.underlying23 rfl HZi.out ?_)
          refine (awake_calls w3 (HLf.out.below HB3.out) (HL.out.below HB3.out)).mono ?_
          rintro e w4 ⟨rfl, hb⟩
          have HB4 := Aside0.mk (below_step HB3.out hb)
          clear hb
          go_wp2_with (fail)
          go_ret
          exact ⟨rfl, HB4.out⟩
  · obtain ⟨pn, rfl⟩ : ∃ pn : Nat, p = (pn : Int) := ⟨p.toNat, by omega⟩
    obtain ⟨bn, rfl⟩ : ∃ bn : Nat, r = (bn : Int) := ⟨r.toNat, by omega⟩
    have hi : pn < 256 := by omega
    have hb2 : bn < 2 := by omega
    have HOk := Aside0.mk (secrets_ok d pn bn (w.alloc (.cells (dA d) 23)) hd HBy.out hi hb2 (HLf.out.below HB1.out) (HL.out.below HB1.out))
    have HIb : Aside0 (pn < 1000000 ∧ bn < 1000000) := ⟨by omega⟩
    have g2 : decide ((255 : Int) < (pn : Int)) = false := by simp; omega
    have g4 : decide ((1 : Int) < (bn : Int)) = false := by simp; omega
    have HXl := Aside0.mk (secV_len d pn bn)
    obtain ⟨X, hX⟩ : ∃ X, X = secV d pn bn := ⟨_, rfl⟩
    rw [← hX] at HXl HOk
    have HXe := Aside0.mk hX
    have HXi := Aside0.mk (dig_info HXl.out)
    have HXz := Aside0.mk (zz_size HXl.out)
    have HXo := Aside0.mk (dA_one X)
    clear hX hd hlo hi hb2
    go_enter Tryd.func3, Tryd.ntmps3
    go_wp2_with (with_reducible refine wpList_load_row rfl 23 (.tmp 3) rfl w.heap.size rfl 23 (dA d) (0, 0) _ HD1.out Tryd.underlying23 rfl HDi.out ?_)
    generalize w.alloc (.cells (dA d) 23) = w1 at *
    refine HOk.out.mono ?_
    rintro e w2 ⟨rfl, hb⟩
    have HB2 := Aside0.mk (below_step HB1.out hb)
    have HD2 : Aside0 (w2.heap[w.heap.size]? = some (.cells (dA d) 23 (0, 0))) := ⟨(hb.block _ (blk_lt HD1.out)).trans HD1.out⟩
    clear hb HOk HB1 HD1
    have HX6 : Aside0 ((w2.alloc (.cells (dA X) 23)).heap[w2.heap.size]? = some (.cells (dA X) 23 (0, 0))) := ⟨heap_alloc_new _ _⟩
    have HD6 : Aside0 ((w2.alloc (.cells (dA X) 23)).heap[w.heap.size]? = some (.cells (dA d) 23 (0, 0))) := ⟨((bel_alloc (Below.refl _ _) _).block _ (blk_lt HD2.out)).trans HD2.out⟩
    have HB6 : Aside0 (Below w.heap.size w (w2.alloc (.cells (dA X) 23))) := ⟨bel_alloc HB2.out _⟩
    go_upto_region 4 with (rw [z32_lit]; (with_reducible refine wpList_store_row rfl 23 (.tmp 7) (.tmp 14) rfl w2.heap.size (dA X) rfl rfl 23 (dA (List.replicate 32 0)) (heap_alloc_new _ _) HXi.out HXz.out HXo.out ?_); rw [World.setRow_alloc_new])
    generalize w2.heap.size = g7 at *
    generalize w2.alloc (.cells (dA X) 23) = wq at *
    clear HB2 HD2 w2 w1
    rename World => w6
    refine wp_region_mono 13 [false, false, false, false, false, false, true, false, false, false, false, false, false, false, false, false, false, false, false, false, false, false, false, false, false, false, false, false, false, false, false, false, false, false, false, false, false, false, false, false, true, true, true, true, true, true, true, true, true, true, true, true, true] (by kernel_rfl) (by kernel_rfl) (fun W => Below w6.heap.size w6 W) (fun W W' => Below W.heap.size W W') (ScF d X pn bn) (fun iv xv W W' _ hb h => ScF.step d X pn bn iv xv W W' hb h) (below_drew (Below.refl _ _)) ?_
    refine ⟨?_, ?_, ?_, ?_, ?_, ?_, ?_, ?_, ?_, ?_, ?_, ?_, ?_, ?_, trivial⟩
    · intro v W hb hd
      have HX6w : Aside0 (W.heap[g7]? = some (.cells (dA X) 23 (0, 0))) := ⟨(hb.block _ (blk_lt HX6.out)).trans HX6.out⟩
      refine step_list fun K hK => ?_
      simp only [fill_lit, fillL, Act.put, List.setIfInBounds_toArray, List.set_cons_zero, List.set_cons_succ, Nat.reduceAdd] at hK ⊢
      clear hd
      go_wp2_with (refine wpList_load_on (by rfl) 23 (.tmp 7) rfl g7 rfl 23 (dA X) (0, 0) _ HX6w.out Tryd.underlying23 rfl HXi.out ?_)
      exact ⟨hb, Below.refl _ _, rfl⟩
    · intro v W hb hd
      have HD6w : Aside0 (W.heap[w.heap.size]? = some (.cells (dA d) 23 (0, 0))) := ⟨(hb.block _ (blk_lt HD6.out)).trans HD6.out⟩
      refine step_list fun K hK => ?_
      simp only [fill_lit, fillL, Act.put, List.setIfInBounds_toArray, List.set_cons_zero, List.set_cons_succ, Nat.reduceAdd] at hK ⊢
      clear hd
      go_wp2_with (refine wpList_load_on (by rfl) 23 (.tmp 3) rfl w.heap.size rfl 23 (dA d) (0, 0) _ HD6w.out Tryd.underlying23 rfl HDi.out ?_)
      exact ⟨hb, Below.refl _ _, rfl⟩
    · intro v W hb hd
      refine step_list fun K hK => ?_
      simp only [fill_lit, fillL, Act.put, List.setIfInBounds_toArray, List.set_cons_zero, List.set_cons_succ, Nat.reduceAdd] at hK ⊢
      clear hd
      go_wp2
      exact ⟨hb, Below.refl _ _, rfl⟩
    · intro v W hb hd
      refine step_list fun K hK => ?_
      simp only [fill_lit, fillL, Act.put, List.setIfInBounds_toArray, List.set_cons_zero, List.set_cons_succ, Nat.reduceAdd] at hK ⊢
      clear hd
      go_wp2
      exact ⟨hb, Below.refl _ _, rfl⟩
    · intro v W hb hd
      have HLw := Aside0.mk (And.intro (HLf.out.below (below_step HB6.out hb)) (HL.out.below (below_step HB6.out hb)))
      have h1 : v 41 = .agg (dA d) := hd 1 (by kernel_rfl)
      have h2 : v 42 = .int .i64 (pn : Int) := hd 2 (by kernel_rfl)
      have h3 : v 43 = .int .i64 (bn : Int) := hd 3 (by kernel_rfl)
      refine step_list fun K hK => ?_
      simp only [fill_lit, fillL, Act.put, List.setIfInBounds_toArray, List.set_cons_zero, List.set_cons_succ, Nat.reduceAdd] at hK ⊢
      rw [h1, h2, h3] at hK ⊢
      clear hd h1 h2 h3
      go_wp2_with (fail)
      refine (rsecret_calls d pn bn W HDl.out HBy.out HIb.out.1 HIb.out.2).mono ?_
      rintro e W' ⟨rfl, hb'⟩
      have HB' := Aside0.mk hb'
      clear hb'
      go_wp2_with (fail)
      exact ⟨below_step hb HB'.out, HB'.out, by rw [← HXe.out]; rfl⟩
    · intro v W hb hd
      have heq : ∀ W0 : World, (binOp .eql 23 (.agg (dA X)) (.agg (dA X))).run Tryd.prog W0 = .ok (.bool true) W0 := fun W0 => eql_same HXl.out W0
      have h0 : v 40 = .agg (dA X) := hd 0 (by kernel_rfl)
      have h4 : v 44 = .agg (dA X) := hd 4 (by kernel_rfl)
      refine step_list fun K hK => ?_
      simp only [fill_lit, fillL, Act.put, List.setIfInBounds_toArray, List.set_cons_zero, List.set_cons_succ, Nat.reduceAdd] at hK ⊢
      rw [h0, h4] at hK ⊢
      clear hd h0 h4
      go_wp2
      exact ⟨hb, Below.refl _ _, rfl⟩
    · intro v W hb hd
      have h5 : v 45 = .bool true := hd 5 (by kernel_rfl)
      refine step_list fun K hK => ?_
      simp only [fill_lit, fillL, Act.put, List.setIfInBounds_toArray, List.set_cons_zero, List.set_cons_succ, Nat.reduceAdd] at hK ⊢
      rw [h5] at hK ⊢
      clear hd h5
      go_wp2
      exact ⟨hb, Below.refl _ _, rfl⟩
    · intro v W hb hd
      have h6 : v 46 = .bool true := hd 6 (by kernel_rfl)
      refine step_list fun K hK => ?_
      simp only [fill_lit, fillL, Act.put, List.setIfInBounds_toArray, List.set_cons_zero, List.set_cons_succ, Nat.reduceAdd] at hK ⊢
      rw [h6] at hK ⊢
      clear hd h6
      go_wp2
      exact ⟨hb, Below.refl _ _, rfl⟩
    · intro v W hb hd
      have h7 : v 47 = .int .i64 0 := hd 7 (by kernel_rfl)
      have h6 : v 46 = .bool true := hd 6 (by kernel_rfl)
      refine step_list fun K hK => ?_
      simp only [fill_lit, fillL, Act.put, List.setIfInBounds_toArray, List.set_cons_zero, List.set_cons_succ, Nat.reduceAdd] at hK ⊢
      rw [h7, h6] at hK ⊢
      clear hd h7 h6
      go_wp2
      exact ⟨hb, Below.refl _ _, rfl⟩
    · intro v W hb hd
      have h6 : v 46 = .bool true := hd 6 (by kernel_rfl)
      have h8 : v 48 = .bool true := hd 8 (by kernel_rfl)
      refine step_list fun K hK => ?_
      simp only [fill_lit, fillL, Act.put, List.setIfInBounds_toArray, List.set_cons_zero, List.set_cons_succ, Nat.reduceAdd] at hK ⊢
      rw [h6, h8] at hK ⊢
      clear hd h6 h8
      go_wp2
      exact ⟨hb, Below.refl _ _, rfl⟩
    · intro v W hb hd
      have h9 : v 49 = .bool true := hd 9 (by kernel_rfl)
      refine step_list fun K hK => ?_
      simp only [fill_lit, fillL, Act.put, List.setIfInBounds_toArray, List.set_cons_zero, List.set_cons_succ, Nat.reduceAdd] at hK ⊢
      rw [h9] at hK ⊢
      clear hd h9
      go_wp2
      exact ⟨hb, Below.refl _ _, rfl⟩
    · intro v W hb hd
      have HLw := Aside0.mk (And.intro (HLf.out.below (below_step HB6.out hb)) (HL.out.below (below_step HB6.out hb)))
      have h10 : v 50 = .bool true := hd 10 (by kernel_rfl)
      refine step_list fun K hK => ?_
      simp only [fill_lit, fillL, Act.put, List.setIfInBounds_toArray, List.set_cons_zero, List.set_cons_succ, Nat.reduceAdd] at hK ⊢
      rw [h10] at hK ⊢
      clear hd h10
      go_wp2_with (fail)
      refine (awake_calls W HLw.out.1 HLw.out.2).mono ?_
      rintro e W' ⟨rfl, hb'⟩
      have HB' := Aside0.mk hb'
      clear hb'
      go_wp2_with (fail)
      exact ⟨below_step hb HB'.out, HB'.out, rfl⟩
    · intro v W hb hd
      have h10 : v 50 = .bool true := hd 10 (by kernel_rfl)
      have h11 : v 51 = .bool true := hd 11 (by kernel_rfl)
      refine step_list fun K hK => ?_
      simp only [fill_lit, fillL, Act.put, List.setIfInBounds_toArray, List.set_cons_zero, List.set_cons_succ, Nat.reduceAdd] at hK ⊢
      rw [h10, h11] at hK ⊢
      clear hd h10 h11
      go_wp2
      exact ⟨hb, Below.refl _ _, rfl⟩
    · intro v W hb hd
      have h12 : v 52 = .bool true := hd 12 (by kernel_rfl)
      refine step_list fun K hK => ?_
      simp only [fill_lit, fillL, Act.put, List.setIfInBounds_toArray, List.set_cons_zero, List.set_cons_succ, Nat.reduceAdd] at hK ⊢
      rw [h12] at hK ⊢
      clear hd h12
      go_wp2
      go_ret
      exact ⟨rfl, below_step HB6.out hb⟩
end Go.Proofs.YtpdficnjjmapmaaDoorRRR.Lam

