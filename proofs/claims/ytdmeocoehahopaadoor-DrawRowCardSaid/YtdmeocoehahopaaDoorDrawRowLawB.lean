/- The walk of DrawRow: whatever the seed, the count and how many, it answers true. -/
import Derived.Test.YtdmeocoehahopaaDoorDrawNumbersB
namespace Go.Proofs.YtdmeocoehahopaaDoor.Draw
open Go.RowKit Go.Proofs.YtdmeocoehahopaaDoorW.PrintWords Go.Proofs.YtdmeocoehahopaaDoorW.PrintLast Go.Proofs.YtdmeocoehahopaaDoorW.PrintMore Go.Proofs.YtdmeocoehahopaaDoor.K Go.Proofs.YtdmeocoehahopaaDoor.Sha Go.Proofs.YtdmeocoehahopaaDoor.Codec Go.Proofs.YtdmeocoehahopaaDoor.RI
set_option linter.unusedVariables false
set_option linter.unusedSimpArgs false
theorem two_cells {W : World} {g : Nat} {x y : Value} {t : TypeId} (h : W.heap[g]? = some (.cells #[x, y] t (0, 0))) : W.cell? ⟨g, 0, none⟩ = some x ∧ W.cell? ⟨g, 1, none⟩ = some y := ⟨blk_cell h 0, blk_cell h 1⟩
theorem two_of {l : List Int} (h : l.length = 2) : ∃ a b, l = [a, b] := by
  match l, h with
  | [a, b], _ => exact ⟨a, b, rfl⟩
def farC (c b : Int) (k : Nat) : Int := if b ≤ (k : Int) then c + k else c + b
def RowF (g : Nat) (w : World) (c a n : Int) (iv : Nat) (xv : Value) (W : World) : Prop := match iv with
  | 0 => xv = .pointer (some ⟨g, 0, none⟩)
  | 1 => xv = .int .i64 n
  | 2 => xv = .int .i64 c
  | 3 => xv = .pointer (some ⟨w.heap.size + 1, 0, none⟩)
  | 4 => xv = .int .i64 a
  | 5 => xv = .int .i64 n
  | 6 => xv = .bool true
  | 7 => xv = .bool true
  | 8 => xv = .bool true
  | 9 => xv = .bool true
  | 10 => xv = .bool true
  | _ => True
theorem RowF.step (g : Nat) (w : World) (c a n : Int) (i : Nat) (x : Value) (W W' : World) (hb : Below W.heap.size W W') (h : RowF g w c a n i x W) : RowF g w c a n i x W' := by
  unfold RowF at *
  split <;> simp only at h ⊢
  · exact h
  · exact h
  · exact h
  · exact h
  · exact h
  · exact h
  · exact h
  · exact h
  · exact h
  · exact h
  · exact h
set_option maxHeartbeats 8000000 in
set_option maxRecDepth 100000 in
theorem drow_calls (d : List Int) (c a b : Int) (w : World) (hd : d.length = 32) (hby : ∀ x ∈ d, 0 ≤ x ∧ x < 256) (hLf : LaidAt w 1 firstA) (hL : LaidAt w 2 constA) :
    Calls Tryd.prog 4 #[.agg (dA d), .int .i64 c, .agg #[.int .i64 a, .int .i64 b]] w fun e w' => e = .returned (.bool true) ∧ Below w.heap.size w w' := by
  have HLo := Aside0.mk (lo_of hLf hL)
  have HBy := Aside0.mk hby
  have HDl := Aside0.mk hd
  have HI := Aside0.mk (dig_info hd)
  have HB0 : Aside0 (Below w.heap.size w ((w.alloc (.cells (dA d) 23)).alloc (.cells #[.int .i64 a, .int .i64 b] 35))) := ⟨bel_alloc (bel_alloc (Below.refl _ _) _) _⟩
  have HR0 : Aside0 (((w.alloc (.cells (dA d) 23)).alloc (.cells #[.int .i64 a, .int .i64 b] 35)).heap[w.heap.size]? = some (.cells (dA d) 23 (0, 0))) := ⟨blk_alloc (heap_alloc_new _ _) _⟩
  have HT0 : Aside0 (((w.alloc (.cells (dA d) 23)).alloc (.cells #[.int .i64 a, .int .i64 b] 35)).heap[w.heap.size + 1]? = some (.cells #[.int .i64 a, .int .i64 b] 35 (0, 0))) := ⟨by
    have h := heap_alloc_new (w.alloc (.cells (dA d) 23)) (.cells #[.int .i64 a, .int .i64 b] 35)
    rwa [World.size_alloc] at h⟩
  clear hLf hL hby hd
  by_cases h1 : c < 0
  · have d1 : decide (c < 0) = true := by simpa using h1
    clear h1
    go_enter Tryd.func4, Tryd.ntmps4
    go_wp2_with (fail)
    refine (awake_calls w.heap.size _ (HLo.out.below HB0.out)).mono ?_
    rintro e w3 ⟨rfl, hb⟩
    have HB3 := Aside0.mk (below_step HB0.out hb)
    clear hb
    go_wp2_with (fail)
    go_ret
    exact ⟨rfl, HB3.out⟩
  · have d1 : decide (c < 0) = false := by simpa using h1
    by_cases h2 : 4611686018427387904 < c
    · have d2 : decide (4611686018427387904 < c) = true := by simpa using h2
      clear h1 h2
      go_enter Tryd.func4, Tryd.ntmps4
      go_wp2_with (fail)
      refine (awake_calls w.heap.size _ (HLo.out.below HB0.out)).mono ?_
      rintro e w3 ⟨rfl, hb⟩
      have HB3 := Aside0.mk (below_step HB0.out hb)
      clear hb
      go_wp2_with (fail)
      go_ret
      exact ⟨rfl, HB3.out⟩
    · have d2 : decide (4611686018427387904 < c) = false := by simpa using h2
      by_cases h3 : a < 0
      · have d3 : decide (a < 0) = true := by simpa using h3
        clear h1 h2 h3
        go_enter Tryd.func4, Tryd.ntmps4
        go_wp2_with (fail)
        refine (awake_calls w.heap.size _ (HLo.out.below HB0.out)).mono ?_
        rintro e w3 ⟨rfl, hb⟩
        have HB3 := Aside0.mk (below_step HB0.out hb)
        clear hb
        go_wp2_with (fail)
        go_ret
        exact ⟨rfl, HB3.out⟩
      · have d3 : decide (a < 0) = false := by simpa using h3
        by_cases h4 : 40 < a
        · have d4 : decide (40 < a) = true := by simpa using h4
          clear h1 h2 h3 h4
          go_enter Tryd.func4, Tryd.ntmps4
          go_wp2_with (fail)
          refine (awake_calls w.heap.size _ (HLo.out.below HB0.out)).mono ?_
          rintro e w3 ⟨rfl, hb⟩
          have HB3 := Aside0.mk (below_step HB0.out hb)
          clear hb
          go_wp2_with (fail)
          go_ret
          exact ⟨rfl, HB3.out⟩
        · have d4 : decide (40 < a) = false := by simpa using h4
          by_cases h5 : b < 0
          · have d5 : decide (b < 0) = true := by simpa using h5
            clear h1 h2 h3 h4 h5
            go_enter Tryd.func4, Tryd.ntmps4
            go_wp2_with (fail)
            refine (awake_calls w.heap.size _ (HLo.out.below HB0.out)).mono ?_
            rintro e w3 ⟨rfl, hb⟩
            have HB3 := Aside0.mk (below_step HB0.out hb)
            clear hb
            go_wp2_with (fail)
            go_ret
            exact ⟨rfl, HB3.out⟩
          · have d5 : decide (b < 0) = false := by simpa using h5
            by_cases h6 : 40 < b
            · have d6 : decide (40 < b) = true := by simpa using h6
              clear h1 h2 h3 h4 h5 h6
              go_enter Tryd.func4, Tryd.ntmps4
              go_wp2_with (fail)
              refine (awake_calls w.heap.size _ (HLo.out.below HB0.out)).mono ?_
              rintro e w3 ⟨rfl, hb⟩
              have HB3 := Aside0.mk (below_step HB0.out hb)
              clear hb
              go_wp2_with (fail)
              go_ret
              exact ⟨rfl, HB3.out⟩
            · have d6 : decide (40 < b) = false := by simpa using h6
              have HA : Aside0 (0 ≤ a ∧ a ≤ 40 ∧ 0 ≤ b ∧ b ≤ 40 ∧ 0 ≤ c ∧ c ≤ 4611686018427387904) := ⟨by omega⟩
              have HSz : Aside0 (((w.alloc (.cells (dA d) 23)).alloc (.cells #[.int .i64 a, .int .i64 b] 35)).heap.size = w.heap.size + 2) := ⟨by rw [World.size_alloc, World.size_alloc]⟩
              obtain ⟨n, hn⟩ : ∃ n, n = c + a := ⟨_, rfl⟩
              have HWn : Aside0 (IntKind.i64.wrap (c + a) = n) := ⟨by rw [hn, IntKind.wrap_i64]; omega⟩
              have HN := Aside0.mk hn
              have hwb : IntKind.i64.wrap (c + b) = c + b := by rw [IntKind.wrap_i64]; omega
              clear h1 h2 h3 h4 h5 h6 hn
              go_enter Tryd.func4, Tryd.ntmps4
              go_wp2_with (with_reducible refine wpList_load_row rfl 23 (.tmp 3) rfl w.heap.size rfl 23 (dA d) (0, 0) _ HR0.out Tryd.underlying23 rfl HI.out ?_)
              generalize ((w.alloc (.cells (dA d) 23)).alloc (.cells #[.int .i64 a, .int .i64 b] 35)) = w0 at *
              refine (new_calls d c w0 HDl.out (by have := HA.out; omega)).mono ?_
              rintro e w1 ⟨g, rfl, hg, hs, hb⟩
              have HB1 := Aside0.mk hb
              have HS1 := Aside0.mk hs
              have HG := Aside0.mk hg
              have HR1 : Aside0 (w1.heap[w.heap.size]? = some (.cells (dA d) 23 (0, 0))) := ⟨(hb.block _ (blk_lt HR0.out)).trans HR0.out⟩
              have HT1 : Aside0 (w1.heap[w.heap.size + 1]? = some (.cells #[.int .i64 a, .int .i64 b] 35 (0, 0))) := ⟨(hb.block _ (blk_lt HT0.out)).trans HT0.out⟩
              obtain ⟨hca, hcb⟩ := two_cells HT1.out
              clear hg hs hb
              go_wp2_with (with_reducible refine wpList_load_row rfl 23 (.tmp 3) rfl w.heap.size rfl 23 (dA d) (0, 0) _ HR1.out Tryd.underlying23 rfl HI.out ?_)
              refine (new_calls d (c + b) w1 HDl.out (by have := HA.out; omega)).mono ?_
              rintro e w2 ⟨g2, rfl, hg, hs, hb⟩
              have HB2 := Aside0.mk (below_step HB1.out hb)
              have HS2 := Aside0.mk hs
              have HS1b := Aside0.mk (HS1.out.below hb)
              have HG2 : Aside0 (g < g2 ∧ w0.heap.size ≤ g2) := ⟨Nat.lt_of_lt_of_le (blk_lt HS1.out) hg, Nat.le_trans HB1.out.size hg⟩
              have HWl : Aside0 (∀ W, Below w0.heap.size w0 W → Below w.heap.size w W ∧ W.heap[w.heap.size]? = some (.cells (dA d) 23 (0, 0)) ∧ W.heap[w.heap.size + 1]? = some (.cells #[.int .i64 a, .int .i64 b] 35 (0, 0)) ∧ Lo w0.heap.size W) := ⟨fun W hW => by
                have h1 := HLo.out.below HB0.out
                have h2 := (HLo.out.below (below_step HB0.out hW))
                exact ⟨below_step HB0.out hW, (hW.block _ (blk_lt HR0.out)).trans HR0.out, (hW.block _ (blk_lt HT0.out)).trans HT0.out, h2.f, h2.c, Nat.lt_of_lt_of_le h1.gf (by rw [HSz.out]; omega), Nat.lt_of_lt_of_le h1.gc (by rw [HSz.out]; omega), hW.size⟩⟩
              have HStart : Aside0 (c + b = farC c b 0) := ⟨by unfold farC; have := HA.out; split <;> simp <;> omega⟩
              clear hg hs hb hca hcb hwb
              go_wp2_with (fail)
              go_loopw [11] (fun i wr => ∃ k : Nat, (k : Int) ≤ a ∧ i = .int .i64 (k : Int) ∧ Aside0 (StrAt wr g d (c + k) ∧ StrAt wr g2 d (farC c b k) ∧ Below w0.heap.size w0 wr)) (fun i _ => a.toNat - (intOf i).toNat)
              case atStart => exact ⟨0, by have := HA.out; omega, rfl, ⟨by simpa using HS1b.out, by rw [← HStart.out]; exact HS2.out, HB2.out⟩⟩
              case round =>
                obtain ⟨k, hk, rfl, HR⟩ := hrel
                obtain ⟨hBw, hRw, hTw, hLw⟩ := HWl.out wr HR.out.2.2
                have HQ := Aside0.mk (And.intro hBw (And.intro hRw (And.intro hTw hLw)))
                obtain ⟨hca, hcb⟩ := two_cells hTw
                clear hBw hRw hTw hLw
                by_cases hlt : (k : Int) < a
                · have dk : decide ((k : Int) < a) = true := by simpa using hlt
                  have HLt := Aside0.mk hlt
                  clear hlt
                  obtain ⟨ck, hck⟩ : ∃ ck, ck = c + (k : Int) := ⟨_, rfl⟩
                  have HCk : Aside0 (0 ≤ ck ∧ ck ≤ 9223372036854775806) := ⟨by have := HA.out; have := HLt.out; omega⟩
                  have hwc : IntKind.i64.wrap (c + (k : Int)) = ck := by have := HA.out; have := HLt.out; rw [hck, IntKind.wrap_i64]; omega
                  have hwk : IntKind.i64.wrap ((k : Int) + 1) = (k : Int) + 1 := by have := HA.out; have := HLt.out; rw [IntKind.wrap_i64]; omega
                  have HCK := Aside0.mk hck
                  clear hck hk
                  go_wp2_with (fail)
                  refine (Next_calls d ck g w0.heap.size wr HDl.out HBy.out (by rw [HCK.out]; exact HR.out.1) HCk.out.1 (by have := HCk.out; omega) HG.out HQ.out.2.2.2).mono ?_
                  rintro e w3 ⟨x, er, c', hV, hh⟩
                  obtain ⟨rfl, rfl, rfl⟩ : x = numV d ck ∧ er = 0 ∧ c' = ck + 1 := by unfold nextV at hV; rwa [if_neg (by have := HCk.out; omega)] at hV
                  rcases hh with ⟨_, rfl, hm⟩ | ⟨h, _⟩
                  · have HB3 : Aside0 (Below w0.heap.size w0 w3) := ⟨HR.out.2.2.trans hm.bel⟩
                    have HS3 := Aside0.mk hm.at_
                    have HT3 : Aside0 (StrAt w3 g2 d (farC c b k)) := ⟨(hm.keep.2 g2 (blk_lt HR.out.2.1) (by have := HG2.out.1; omega) (by simp)).trans HR.out.2.1⟩
                    have HQ3 := Aside0.mk (HWl.out w3 HB3.out)
                    clear hm hV hca hcb
                    go_wp2_with (with_reducible refine wpList_load_row rfl 23 (.tmp 3) rfl w.heap.size rfl 23 (dA d) (0, 0) _ HQ3.out.2.1 Tryd.underlying23 rfl HI.out ?_)
                    refine (Number_calls d ck w3 HDl.out HBy.out HQ3.out.2.2.2.f HQ3.out.2.2.2.c).mono ?_
                    rintro e w4 ⟨he, hb⟩
                    have he2 : e = .returned (.tuple #[.int .i64 (numV d ck), .int .i64 0]) := by unfold NumEnd at he; rwa [if_neg (by have := HCk.out; omega)] at he
                    subst he2
                    have HB4 : Aside0 (Below w0.heap.size w0 w4) := ⟨below_step HB3.out hb⟩
                    have HS4 := Aside0.mk (HS3.out.below hb)
                    have HT4 := Aside0.mk (HT3.out.below hb)
                    have HQ4 := Aside0.mk (HWl.out w4 HB4.out)
                    obtain ⟨hca, hcb⟩ := two_cells HQ4.out.2.2.1
                    clear he hb
                    obtain ⟨nv, hnv⟩ : ∃ nv, nv = numV d ck := ⟨_, rfl⟩
                    rw [← hnv]
                    have HNv := Aside0.mk hnv
                    clear hnv
                    by_cases hbk : b ≤ (k : Int)
                    · have dbk : decide (b ≤ (k : Int)) = true := by simpa using hbk
                      have HT5 : Aside0 (StrAt w4 g2 d ck) := ⟨by have h := HT4.out; unfold farC at h; rw [if_pos hbk, ← HCK.out] at h; exact h⟩
                      have HN5 : Aside0 (c + ((k + 1 : Nat) : Int) = ck + 1 ∧ farC c b (k + 1) = ck + 1) := ⟨by rw [HCK.out]; unfold farC; rw [if_pos (by omega)]; omega⟩
                      clear hbk
                      go_wp2_with (fail)
                      refine (Next_calls d ck g2 w0.heap.size w4 HDl.out HBy.out HT5.out HCk.out.1 (by have := HCk.out; omega) HG2.out.2 HQ4.out.2.2.2).mono ?_
                      rintro e w5 ⟨x, er, c', hV, hh⟩
                      obtain ⟨hx, rfl, rfl⟩ : x = numV d ck ∧ er = 0 ∧ c' = ck + 1 := by unfold nextV at hV; rwa [if_neg (by have := HCk.out; omega)] at hV
                      obtain rfl : x = nv := by rw [hx, HNv.out]
                      rcases hh with ⟨_, rfl, hm⟩ | ⟨h, _⟩
                      · have HB5 : Aside0 (Below w0.heap.size w0 w5) := ⟨HB4.out.trans hm.bel⟩
                        have HT6 := Aside0.mk hm.at_
                        have HS6 : Aside0 (StrAt w5 g d (ck + 1)) := ⟨(hm.keep.2 g (blk_lt HS4.out) (by have := HG2.out.1; omega) (by simp)).trans HS4.out⟩
                        clear hm hV hca hcb hx
                        go_wp2_with (first
                          | (refine (count_calls d (ck + 1) g2 w5 HDl.out HT6.out).mono ?_; rintro e w6 ⟨rfl, rfl⟩)
                          | (refine (count_calls d (ck + 1) g w5 HDl.out HS6.out).mono ?_; rintro e w6 ⟨rfl, rfl⟩)
                          | (fail))
                        go_roundw
                        case rel => exact ⟨k + 1, by have := HLt.out; omega, by go_num, ⟨by rw [HN5.out.1]; exact HS6.out, by rw [HN5.out.2]; exact HT6.out, HB5.out⟩⟩
                        case measure => have := HLt.out; simp [intOf]; omega
                      · exact absurd rfl h
                    · have dbk : decide (b ≤ (k : Int)) = false := by simpa using hbk
                      have HN5 : Aside0 (c + ((k + 1 : Nat) : Int) = ck + 1 ∧ farC c b (k + 1) = farC c b k) := ⟨by rw [HCK.out]; unfold farC; rw [if_neg hbk]; split <;> omega⟩
                      clear hbk
                      go_wp2
                      go_roundw
                      case rel => exact ⟨k + 1, by have := HLt.out; omega, by go_num, ⟨by rw [HN5.out.1]; exact HS4.out, by rw [HN5.out.2]; exact HT4.out, HB4.out⟩⟩
                      case measure => have := HLt.out; simp [intOf]; omega
                  · exact absurd rfl h
                · have dk : decide ((k : Int) < a) = false := by simpa using hlt
                  have HS9 : Aside0 (StrAt wr g d n) := ⟨by have h := HR.out.1; rwa [show c + (k : Int) = n by rw [HN.out]; omega] at h⟩
                  have HT9 := Aside0.mk HQ.out.2.2.1
                  have HL9 := Aside0.mk (HLo.out.below HQ.out.1)
                  clear hk hlt
                  go_upto_region 18 with (fail)
                  clear hca hcb
                  refine wp_region_fin [false, false, false, false, false, false, true, false, false, false, false, false, false, false, false, false, false, false, false, false, false, false, false, false, false, false, false, false, false, false, false, false, false, false, false, false, false, false, false, false, false, false, false, false, false, false, false, false, false, false, false, false, false, false, false, false, false, false, false, false, false, false, false, false, false, false, false, false, false, false, false, false, false, false, false, false, false, false, false, false, false, false, false, false, false, false, false, false, false, false, false, false, false, false, false, false, false, false, false, false, false, false, false, false, false, false, false, false, false, false, false, false, false, false, false, false, false, false, false, false, false, false, false, false, false, false, false, true, true, true, true, true, true, true, true, true, true] (by kernel_rfl) (by kernel_rfl) (fun W => Below wr.heap.size wr W) (fun W W' => Below W.heap.size W W') (RowF g w c a n) (fun iv xv W W' _ hb h => RowF.step g w c a n iv xv W W' hb h) (below_drew (Below.refl _ _)) ?_ ?_
                  · refine ⟨?_, ?_, ?_, ?_, ?_, ?_, ?_, ?_, ?_, ?_, ?_, trivial⟩
                    · intro v W hb hd
                      refine step_list fun K hK => ?_
                      simp only [fill_lit, fillL, Act.put, List.setIfInBounds_toArray, List.set_cons_zero, List.set_cons_succ, Nat.reduceAdd] at hK ⊢
                      clear hd
                      go_wp2
                      exact ⟨hb, Below.refl _ _, rfl⟩
                    · intro v W hb hd
                      have h0 : v 127 = .pointer (some ⟨g, 0, none⟩) := hd 0 (by kernel_rfl)
                      refine step_list fun K hK => ?_
                      simp only [fill_lit, fillL, Act.put, List.setIfInBounds_toArray, List.set_cons_zero, List.set_cons_succ, Nat.reduceAdd] at hK ⊢
                      rw [h0] at hK ⊢
                      clear hd h0
                      go_wp2_with (refine (count_calls d n g W HDl.out (HS9.out.below hb)).mono ?_; rintro e w6 ⟨rfl, rfl⟩)
                      exact ⟨hb, Below.refl _ _, rfl⟩
                    · intro v W hb hd
                      refine step_list fun K hK => ?_
                      simp only [fill_lit, fillL, Act.put, List.setIfInBounds_toArray, List.set_cons_zero, List.set_cons_succ, Nat.reduceAdd] at hK ⊢
                      clear hd
                      go_wp2
                      exact ⟨hb, Below.refl _ _, rfl⟩
                    · intro v W hb hd
                      refine step_list fun K hK => ?_
                      simp only [fill_lit, fillL, Act.put, List.setIfInBounds_toArray, List.set_cons_zero, List.set_cons_succ, Nat.reduceAdd] at hK ⊢
                      clear hd
                      go_wp2
                      exact ⟨hb, Below.refl _ _, rfl⟩
                    · intro v W hb hd
                      have hct := (two_cells ((hb.block _ (blk_lt HT9.out)).trans HT9.out)).1
                      have h3 : v 130 = .pointer (some ⟨w.heap.size + 1, 0, none⟩) := hd 3 (by kernel_rfl)
                      refine step_list fun K hK => ?_
                      simp only [fill_lit, fillL, Act.put, List.setIfInBounds_toArray, List.set_cons_zero, List.set_cons_succ, Nat.reduceAdd] at hK ⊢
                      rw [h3] at hK ⊢
                      clear hd h3
                      go_wp2
                      exact ⟨hb, Below.refl _ _, rfl⟩
                    · intro v W hb hd
                      have hwn := HWn.out
                      have h2 : v 129 = .int .i64 c := hd 2 (by kernel_rfl)
                      have h4 : v 131 = .int .i64 a := hd 4 (by kernel_rfl)
                      refine step_list fun K hK => ?_
                      simp only [fill_lit, fillL, Act.put, List.setIfInBounds_toArray, List.set_cons_zero, List.set_cons_succ, Nat.reduceAdd] at hK ⊢
                      rw [h2, h4] at hK ⊢
                      clear hd h2 h4
                      go_wp2
                      exact ⟨hb, Below.refl _ _, rfl⟩
                    · intro v W hb hd
                      have h1 : v 128 = .int .i64 n := hd 1 (by kernel_rfl)
                      have h5 : v 132 = .int .i64 n := hd 5 (by kernel_rfl)
                      refine step_list fun K hK => ?_
                      simp only [fill_lit, fillL, Act.put, List.setIfInBounds_toArray, List.set_cons_zero, List.set_cons_succ, Nat.reduceAdd] at hK ⊢
                      rw [h1, h5] at hK ⊢
                      clear hd h1 h5
                      go_wp2
                      exact ⟨hb, Below.refl _ _, rfl⟩
                    · intro v W hb hd
                      have h6 : v 133 = .bool true := hd 6 (by kernel_rfl)
                      refine step_list fun K hK => ?_
                      simp only [fill_lit, fillL, Act.put, List.setIfInBounds_toArray, List.set_cons_zero, List.set_cons_succ, Nat.reduceAdd] at hK ⊢
                      rw [h6] at hK ⊢
                      clear hd h6
                      go_wp2
                      exact ⟨hb, Below.refl _ _, rfl⟩
                    · intro v W hb hd
                      have h7 : v 134 = .bool true := hd 7 (by kernel_rfl)
                      refine step_list fun K hK => ?_
                      simp only [fill_lit, fillL, Act.put, List.setIfInBounds_toArray, List.set_cons_zero, List.set_cons_succ, Nat.reduceAdd] at hK ⊢
                      rw [h7] at hK ⊢
                      clear hd h7
                      go_wp2_with (refine (awake_calls w.heap.size W (HL9.out.below (hb.mono HQ.out.1.size))).mono ?_; rintro e w6 ⟨rfl, hb6⟩)
                      exact ⟨below_step hb hb6, hb6, rfl⟩
                    · intro v W hb hd
                      have h7 : v 134 = .bool true := hd 7 (by kernel_rfl)
                      have h8 : v 135 = .bool true := hd 8 (by kernel_rfl)
                      refine step_list fun K hK => ?_
                      simp only [fill_lit, fillL, Act.put, List.setIfInBounds_toArray, List.set_cons_zero, List.set_cons_succ, Nat.reduceAdd] at hK ⊢
                      rw [h7, h8] at hK ⊢
                      clear hd h7 h8
                      go_wp2
                      exact ⟨hb, Below.refl _ _, rfl⟩
                    · intro v W hb hd
                      have h9 : v 136 = .bool true := hd 9 (by kernel_rfl)
                      refine step_list fun K hK => ?_
                      simp only [fill_lit, fillL, Act.put, List.setIfInBounds_toArray, List.set_cons_zero, List.set_cons_succ, Nat.reduceAdd] at hK ⊢
                      rw [h9] at hK ⊢
                      clear hd h9
                      go_wp2
                      exact ⟨hb, Below.refl _ _, rfl⟩
                  · intro v W hb hF
                    have h9 : v 6 = .bool true := hF 10 (of_decide_eq_true (by kernel_rfl))
                    simp only [fill_lit, fillL, Nat.reduceAdd]
                    rw [h9]
                    clear hF h9
                    go_wp2
                    go_ret
                    exact ⟨rfl, below_step HQ.out.1 hb⟩
end Go.Proofs.YtdmeocoehahopaaDoor.Draw
