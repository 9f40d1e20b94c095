/- bpe's law: a nil coder has nothing, and one goes its own way. -/
import Derived.Test.YtbgiccbegcepcaaBpeFew
namespace Go.Proofs.Ytbgiccbegcepcaa.Bpe
open Go.RowKit Go.Proofs.YtbgiccbegcepcaaW.PrintWords Go.Proofs.YtbgiccbegcepcaaW.PrintLast Go.Proofs.YtbgiccbegcepcaaW.PrintMore Go.Proofs.Ytbgiccbegcepcaa.K Go.Proofs.Ytbgiccbegcepcaa.Law
set_option linter.unusedVariables false
set_option linter.unusedSimpArgs false
set_option maxHeartbeats 1000000 in
theorem many_nil (w : World) : Calls Try.prog 16 #[.pointer none] w fun e w' => e = .returned (.int .i64 0) ∧ w = w' := by
  go_enter Try.func16, Try.ntmps16
  go_wp2
  go_ret
  exact ⟨rfl, rfl⟩
/-- A row of bytes that may be written. -/
def ByteOwn (W : World) (B M : Nat) (v : Value) (n : Nat) : Prop := 0 < n → ∃ g c cur, v = .slice (some ⟨g, 0, none⟩) n c ∧ B ≤ g ∧ g < M ∧ W.heap[g]? = some (.cells cur 5 (0, 0)) ∧ n ≤ cur.size ∧ ∀ i, i < n → ∃ x : Int, cur[i]? = some (.int .u8 x)
def PairOwn (W : World) (B M : Nat) (v : Value) (n : Nat) : Prop := 0 < n → ∃ g c cur, v = .slice (some ⟨g, 0, none⟩) n c ∧ B ≤ g ∧ g < M ∧ W.heap[g]? = some (.cells cur 44 (0, 0)) ∧ n * 2 ≤ cur.size
theorem byteOwn_of {W : World} {B : Nat} {v : Value} {l : List Int} (h : Kd.R (Kd.int .u8) 5 W B (fun _ => True) v l) : ByteOwn W B W.heap.size v l.length := fun hn => by
  have ho := own_int h
  rcases ho.2 with ⟨_, h0⟩ | ⟨g, cap, cur, rfl, hg, hh, hc, _, hs, ht⟩
  · omega
  · refine ⟨g, cap, cur, rfl, hg, blk_lt hh, hh, by omega, fun i hi => ?_⟩
    rw [Nat.mul_one] at ht
    refine ⟨l.getD i 0, ?_⟩
    have h1 : (cur.toList.take l.length)[i]? = (nums .u8 l)[i]? := by rw [ht]
    rw [List.getElem?_take_of_lt hi, Array.getElem?_toList] at h1
    rw [h1]
    simp [nums, List.getElem?_eq_getElem hi, List.getD_eq_getElem?_getD]
theorem pairOwn_of {W : World} {B : Nat} {v : Value} {l : List Pr} (h : Kd.R kP 44 W B (fun _ => True) v l) : PairOwn W B W.heap.size v l.length := fun hn => by
  obtain ⟨inner, ho⟩ := Kd.R_own h
  rcases ho.2 with ⟨_, h0⟩ | ⟨g, cap, cur, rfl, hg, hh, hc, _, hs, ht⟩
  · omega
  · refine ⟨g, cap, cur, rfl, hg, blk_lt hh, hh, ?_⟩
    rw [hs]
    exact Nat.mul_le_mul_right 2 hc
theorem ByteOwn.keep {W W1 : World} {B M : Nat} {v : Value} {n : Nat} (h : ByteOwn W B M v n) (hk : ∀ k, k < M → W1.heap[k]? = W.heap[k]?) : ByteOwn W1 B M v n := fun hn => by
  obtain ⟨g, c, cur, h1, h2, h3, h4, h5⟩ := h hn
  exact ⟨g, c, cur, h1, h2, h3, (hk g h3).trans h4, h5⟩
theorem PairOwn.keep {W W1 : World} {B M : Nat} {v : Value} {n : Nat} (h : PairOwn W B M v n) (hk : ∀ k, k < M → W1.heap[k]? = W.heap[k]?) : PairOwn W1 B M v n := fun hn => by
  obtain ⟨g, c, cur, h1, h2, h3, h4, h5⟩ := h hn
  exact ⟨g, c, cur, h1, h2, h3, (hk g h3).trans h4, h5⟩
theorem PairOwn.byte {W : World} {B M g k : Nat} {v : Value} {n : Nat} {cur : Array Value} (h : PairOwn W B M v n) (hg : W.heap[g]? = some (.cells cur 5 (0, 0))) (u : Value) : PairOwn (W.setCell ⟨g, k, none⟩ u) B M v n := fun hn => by
  obtain ⟨g2, c, cur2, h1, h2, h3, h4, h5⟩ := h hn
  refine ⟨g2, c, cur2, h1, h2, h3, (Below.heap_setCell W _ _ g2 ?_).trans h4, h5⟩
  rintro rfl
  rw [hg] at h4
  injection h4 with h4
  injection h4 with _ h4
  exact absurd h4 (by decide)
theorem ByteOwn.pair {W : World} {B M g k : Nat} {v : Value} {n : Nat} {cur : Array Value} (h : ByteOwn W B M v n) (hg : W.heap[g]? = some (.cells cur 44 (0, 0))) (u : Value) : ByteOwn (W.setCell ⟨g, k, none⟩ u) B M v n := fun hn => by
  obtain ⟨g2, c, cur2, h1, h2, h3, h4, h5⟩ := h hn
  refine ⟨g2, c, cur2, h1, h2, h3, (Below.heap_setCell W _ _ g2 ?_).trans h4, h5⟩
  rintro rfl
  rw [hg] at h4
  injection h4 with h4
  injection h4 with _ h4
  exact absurd h4 (by decide)
theorem ByteOwn.put {W : World} {B M g c k n : Nat} {cur : Array Value} (h : ByteOwn W B M (.slice (some ⟨g, 0, none⟩) n c) n) (hg : W.heap[g]? = some (.cells cur 5 (0, 0))) (x : Int) : ByteOwn (W.setCell ⟨g, k, none⟩ (.int .u8 x)) B M (.slice (some ⟨g, 0, none⟩) n c) n := fun hn => by
  obtain ⟨g2, c2, cur2, h1, h2, h3, h4, h5, h6⟩ := h hn
  simp only [Value.slice.injEq, Option.some.injEq, Addr.mk.injEq, true_and, and_true] at h1
  obtain ⟨rfl, rfl⟩ := h1
  refine ⟨g, c, _, rfl, h2, h3, blk_set h4 k _, by simpa using h5, fun i hi => ?_⟩
  obtain ⟨y, hy⟩ := h6 i hi
  by_cases e : k = i
  · subst e
    exact ⟨x, by simp [Array.getElem?_setIfInBounds]; omega⟩
  · exact ⟨y, by rw [Array.getElem?_setIfInBounds, if_neg e]; exact hy⟩
theorem PairOwn.put {W : World} {B M g c i j n : Nat} {u u2 : Value} (h : PairOwn W B M (.slice (some ⟨g, 0, none⟩) n c) n) : PairOwn ((W.setCell ⟨g, i, none⟩ u).setCell ⟨g, j, none⟩ u2) B M (.slice (some ⟨g, 0, none⟩) n c) n := fun hn => by
  obtain ⟨g2, c2, cur2, h1, h2, h3, h4, h5⟩ := h hn
  simp only [Value.slice.injEq, Option.some.injEq, Addr.mk.injEq, true_and, and_true] at h1
  obtain ⟨rfl, rfl⟩ := h1
  exact ⟨g, c, _, rfl, h2, h3, blk_set (blk_set h4 i _) j _, by simpa using h5⟩
section
variable (A : Option Addr) (c : Nat) (al : List Int) (A2 : Option Addr) (c2 : Nat) (prs : List Pr) (A3 : Option Addr) (c3 : Nat) (bs : List Int) (tok : Int) (w : World)
set_option maxHeartbeats 2000000 in
set_option maxRecDepth 100000 in
theorem nil_out (hm : al.length ≤ 9223372036854775807) (hm2 : prs.length ≤ 9223372036854775807) (hm3 : bs.length ≤ 9223372036854775807) (h : fewB al.length prs.length = false ∨ 60 < bs.length) :
    Calls Try.prog 8 #[.agg #[.slice A al.length c, .slice A2 prs.length c2], .slice A3 bs.length c3, .int .i64 tok] w fun e w' => e = .returned (.bool true) ∧ Below w.heap.size w w' := by
  have HB : Aside0 (Below w.heap.size w (w.alloc (.cells #[.slice A al.length c, .slice A2 prs.length c2] 25))) := ⟨bel_alloc (Below.refl _ _) _⟩
  cases hf : fewB al.length prs.length with
  | false =>
    have HF := Aside0.mk (few_calls A al.length c A2 prs.length c2 (w.alloc (.cells #[.slice A al.length c, .slice A2 prs.length c2] 25)) hm hm2 false hf)
    clear h hf
    go_enter Try.func8, Try.ntmps8
    go_wp2_with (fail)
    refine HF.out.mono ?_
    rintro e w1 ⟨rfl, hb⟩
    have HB1 := Aside0.mk (below_step HB.out hb)
    clear hb
    go_wp2_with (fail)
    refine (awake_calls _).mono ?_
    rintro e w2 ⟨rfl, hb⟩
    have HB2 := Aside0.mk (below_step HB1.out hb)
    clear hb
    go_wp2
    go_ret
    exact ⟨rfl, HB2.out⟩
  | true =>
    have HF := Aside0.mk (few_calls A al.length c A2 prs.length c2 (w.alloc (.cells #[.slice A al.length c, .slice A2 prs.length c2] 25)) hm hm2 true hf)
    have h2 := h.resolve_left (by rw [hf]; simp)
    have hd2 : decide (60 < (bs.length : Int)) = true := by simp; omega
    clear h hf h2
    go_enter Try.func8, Try.ntmps8
    go_wp2_with (fail)
    refine HF.out.mono ?_
    rintro e w1 ⟨rfl, hb⟩
    have HB1 := Aside0.mk (below_step HB.out hb)
    clear hb
    go_wp2_with (fail)
    refine (awake_calls _).mono ?_
    rintro e w2 ⟨rfl, hb⟩
    have HB2 := Aside0.mk (below_step HB1.out hb)
    clear hb
    go_wp2
    go_ret
    exact ⟨rfl, HB2.out⟩
/-- What stays while the rows are written that the first coder was made of. -/
def NilSt (w w3 w5 : World) (n m : Nat) (va vp : Value) (wr : World) : Prop :=
  ByteOwn wr w.heap.size w3.heap.size va n ∧ PairOwn wr w.heap.size w3.heap.size vp m ∧ (∀ k, w3.heap.size ≤ k → k < w5.heap.size → wr.heap[k]? = w5.heap[k]?) ∧ Below w.heap.size w wr
set_option maxHeartbeats 16000000 in
set_option maxRecDepth 100000 in
theorem nil_in (hC : Kd.C (Kd.int .u8) w A al.length al) (hC2 : Kd.C kP w A2 prs.length prs) (hC3 : Kd.C (Kd.int .u8) w A3 bs.length bs) (hby : ∀ x ∈ al, 0 ≤ x ∧ x < 256) (hby3 : ∀ x ∈ bs, 0 ≤ x ∧ x < 256) (hf : fewB al.length prs.length = true) (hb : bs.length ≤ 60) :
    Calls Try.prog 8 #[.agg #[.slice A al.length c, .slice A2 prs.length c2], .slice A3 bs.length c3, .int .i64 tok] w fun e w' => e = .returned (.bool true) ∧ Below w.heap.size w w' := by
  have HB : Aside0 (Below w.heap.size w (w.alloc (.cells #[.slice A al.length c, .slice A2 prs.length c2] 25))) := ⟨bel_alloc (Below.refl _ _) _⟩
  obtain ⟨hal, hpr⟩ := fewB_true hf
  have hd2 : decide (60 < (bs.length : Int)) = false := by simp; omega
  have HF := Aside0.mk (few_calls A al.length c A2 prs.length c2 (w.alloc (.cells #[.slice A al.length c, .slice A2 prs.length c2] 25)) (by omega) (by omega) true hf)
  have HC := Aside0.mk hC
  have HC2 := Aside0.mk hC2
  have HC3 := Aside0.mk hC3
  have HBy := Aside0.mk hby
  have HBy3 := Aside0.mk hby3
  have HNl : Aside0 (¬ 4096 < bs.length) := ⟨by omega⟩
  have HBx : Aside0 ((w.alloc (.cells #[.slice A al.length c, .slice A2 prs.length c2] 25)).heap[w.heap.size]? = some (.cells #[.slice A al.length c, .slice A2 prs.length c2] 25 (0, 0))) := ⟨heap_alloc_new _ _⟩
  clear hC hC2 hC3 hby hby3 hf
  go_enter Try.func8, Try.ntmps8
  go_wp2_with (fail)
  refine HF.out.mono ?_
  rintro e w1 ⟨rfl, hb1⟩
  have HB1 := Aside0.mk (below_step HB.out hb1)
  have HBx1 : Aside0 (w1.heap[w.heap.size]? = _) := ⟨(hb1.block _ (blk_lt HBx.out)).trans HBx.out⟩
  clear hb1 HF HB HBx
  go_wp2_with (fail)
  refine (text_nil tok w1).mono ?_
  rintro e w' ⟨rfl, rfl⟩
  go_wp2_with (fail)
  refine (enc_nil A3 bs.length c3 w1).mono ?_
  rintro e w' ⟨rfl, rfl⟩
  have HB2 : Aside0 (Below w.heap.size w (w1.alloc (.cells #[.int .i64 tok] 3))) := ⟨bel_alloc HB1.out _⟩
  have HBx2 : Aside0 ((w1.alloc (.cells #[.int .i64 tok] 3)).heap[w.heap.size]? = _) := ⟨((bel_alloc (Below.refl _ _) _).block _ (blk_lt HBx1.out)).trans HBx1.out⟩
  go_wp2_with (fail)
  generalize w1.alloc (.cells #[.int .i64 tok] 3) = w2 at *
  refine (decode_nil _ _ _ w2).mono ?_
  rintro e w' ⟨rfl, rfl⟩
  have hx0 : w2.cell? ⟨w.heap.size, 0, none⟩ = some (.slice A al.length c) := blk_cell HBx2.out 0
  have hx1 : w2.cell? ⟨w.heap.size, 1, none⟩ = some (.slice A2 prs.length c2) := blk_cell HBx2.out 1
  go_wp2_with (fail)
  refine (many_nil w2).mono ?_
  rintro e w' ⟨rfl, rfl⟩
  have HRa := Aside0.mk (reads_int (Kd.C_below HC.out HB2.out))
  have HCp := Aside0.mk (Kd.C_below HC2.out HB2.out)
  go_wp2_with (first
    | (at_builtin; refine print_append_row (w0 := w) (W := w2) w.heap.size rfl (.tmp 89) (.tmp 91) 22 5 .u8 1 rfl Try.underlying22 info_u8 (by decide) (.slice none 0 0) [] al A al.length c rfl rfl (own_nil _ _ _ _) HRa.out HB2.out HB2.out.size (by simp; omega) ?_; intro v1 w3 ho hb hg hat; rw [List.nil_append] at ho; obtain ⟨A5, c5, rfl⟩ := own_slice ho; have HO3 := Aside0.mk ho; have HB3 := Aside0.mk hb; have HCp3 := Aside0.mk (Kd.C_below HC2.out hb); have HBx3 := Aside0.mk (blk_grown HBx2.out hg (by simp [Value.ownBlock])); have hx1 : w3.cell? ⟨w.heap.size, 1, none⟩ = some (.slice A2 prs.length c2) := blk_cell HBx3.out 1; clear ho hb hg hat hx0)
    | (at_builtin; refine Kd.R_append_rows kP (w0 := w) w.heap.size rfl (.tmp 93) (.tmp 95) 23 44 (.agg #[.int .i64 0, .int .i64 0]) 16 rfl Try.underlying23 info_pr rfl (by decide) (by decide) (.slice none 0 0) [] prs A2 prs.length c2 (fun _ => True) (fun k => True ∧ some k ≠ (Value.slice none 0 0).ownBlock) rfl rfl (Kd.R_nil _ _ _ _ _) HCp3.out (fun x cs h => h) (fun _ hk => hk) (fun _ _ => trivial) HB3.out HB3.out.size (by simp; omega) ?_; intro v1 w4 ho hb hg hat; rw [List.nil_append] at ho; obtain ⟨A6, c6, rfl⟩ := Kd.R_slice ho; have HP4 := Aside0.mk ho; have HB4 := Aside0.mk hb; have HO4 : Aside0 (w4.ownsRow w.heap.size 5 1 (.slice A5 al.length c5) al.length (nums .u8 al)) := ⟨HO3.out.kept hg (by cases A5 <;> simp [Value.ownBlock])⟩; have HBx4 := Aside0.mk (blk_grown HBx3.out hg (by simp [Value.ownBlock])); clear ho hb hg hat hx1))
  have HA4 := Aside0.mk (Kd.R_reads' (R_int HO4.out)).2.2
  have HPc := Aside0.mk (Kd.R_reads' HP4.out).2.2
  refine (new_calls A5 c5 al A6 c6 prs w4 HA4.out HPc.out HBy.out (by omega) (by omega)).mono ?_
  rintro e w5 ⟨hno, hb5, hok⟩
  have HB5 := Aside0.mk (below_step HB4.out hb5)
  have HBx5 : Aside0 (w5.heap[w.heap.size]? = _) := ⟨(hb5.block _ (blk_lt HBx4.out)).trans HBx4.out⟩
  have hx0 : w5.cell? ⟨w.heap.size, 0, none⟩ = some (.slice A al.length c) := blk_cell HBx5.out 0
  have hx1 : w5.cell? ⟨w.heap.size, 1, none⟩ = some (.slice A2 prs.length c2) := blk_cell HBx5.out 1
  have HNw := Aside0.mk (new_calls A c al A2 c2 prs w5 (Kd.C_below HC.out HB5.out) (Kd.C_below HC2.out HB5.out) HBy.out (by omega) (by omega))
  clear HCp HCp3 HRa HO3 HB3 HBx3 HB2 HBx2 HB1 HBx1
  by_cases hE : newE al prs = 0
  · obtain ⟨g, vt, vo, b, rfl, hH⟩ := hok hE
    have HE := Aside0.mk hE
    have HH := Aside0.mk hH
    have HBk := Aside0.mk hb5
    clear hno hb5 hok hE hH
    go_wp2_with (fail)
    refine HNw.out.mono ?_
    rintro e w6 ⟨_, hb6, hok⟩
    obtain ⟨g2, vt2, vo2, b2, rfl, hH2⟩ := hok HE.out
    have HB6 := Aside0.mk (below_step HB5.out hb6)
    have HH6 := Aside0.mk (HH.out.below hb6)
    have HH2 := Aside0.mk (hH2.move (W1 := w6) (fun _ _ _ => rfl))
    have HBk6 := Aside0.mk (below_step HBk.out hb6)
    have HN0 : Aside0 (NilSt w w4 w6 al.length prs.length (.slice A5 al.length c5) (.slice A6 prs.length c6) w6) := ⟨⟨(byteOwn_of (R_int HO4.out)).keep (fun k hk => HBk6.out.block k hk), (pairOwn_of HP4.out).keep (fun k hk => HBk6.out.block k hk), fun _ _ _ => rfl, HB6.out⟩⟩
    have HSz : Aside0 (w4.heap.size ≤ w5.heap.size) := ⟨HBk.out.size⟩
    clear hok hb6 hH2 HNw hx0 hx1 HBk HH HO4 HP4 HA4 HPc
    go_wp2_with (fail)
    go_loopw [21] (fun i wr => ∃ k : Nat, k ≤ al.length ∧ i = .int .i64 (k : Int) ∧ Aside0 (NilSt w w4 w6 al.length prs.length (.slice A5 al.length c5) (.slice A6 prs.length c6) wr)) (fun i _ => al.length - (intOf i).toNat)
    case atStart => exact ⟨0, Nat.zero_le _, rfl, HN0⟩
    case round =>
      clear HN0
      obtain ⟨k, hk, rfl, HN⟩ := hrel
      by_cases hlt : k < al.length
      · obtain ⟨gu, cu, cur, he, hgB, hgM, hh, hsz, hel⟩ := HN.out.1 (by omega)
        simp only [Value.slice.injEq, true_and] at he
        obtain ⟨rfl, rfl⟩ := he
        obtain ⟨q, hq⟩ := hel k hlt
        have hcq : wr.cell? ⟨gu, k, none⟩ = some (.int .u8 q) := (blk_cell hh k).trans hq
        have hfq : wr.frozen? ⟨gu, k, none⟩ = false := blk_frozen hh k
        have HHh := Aside0.mk hh
        have HGB := Aside0.mk hgB
        have HGM := Aside0.mk hgM
        clear hgB hgM hh hsz hel hq
        go_wp2
        go_roundw
        case rel => exact ⟨k + 1, by omega, by go_num, ⟨⟨HN.out.1.put HHh.out _, HN.out.2.1.byte HHh.out _, fun k' hk1 hk2 => (Below.heap_setCell wr _ _ k' (by show k' ≠ gu; have := HGM.out; omega)).trans (HN.out.2.2.1 k' hk1 hk2), HN.out.2.2.2.setCell HGB.out _⟩⟩⟩
        case measure => simp [intOf]; omega
      · obtain rfl : k = al.length := by omega
        generalize wr = wr0 at *
        clear hlt hk
        go_wp2_with (fail)
        go_loopw [22] (fun i wr => ∃ k : Nat, k ≤ prs.length ∧ i = .int .i64 (k : Int) ∧ Aside0 (NilSt w w4 w6 al.length prs.length (.slice A5 al.length c5) (.slice A6 prs.length c6) wr)) (fun i _ => prs.length - (intOf i).toNat)
        case atStart => exact ⟨0, Nat.zero_le _, rfl, HN⟩
        case round =>
          clear HN
          obtain ⟨k, hk, rfl, HN⟩ := hrel
          by_cases hlt : k < prs.length
          · obtain ⟨gp, cp, cur, he, hgB, hgM, hh, hsz⟩ := HN.out.2.1 (by omega)
            simp only [Value.slice.injEq, true_and] at he
            obtain ⟨rfl, rfl⟩ := he
            have hcq : wr.cell? ⟨gp, k * 2, none⟩ = some cur[k * 2] := (blk_cell hh (k * 2)).trans (Array.getElem?_eq_getElem (by omega))
            have hcq2 : wr.cell? ⟨gp, k * 2 + 1, none⟩ = some cur[k * 2 + 1] := (blk_cell hh (k * 2 + 1)).trans (Array.getElem?_eq_getElem (by omega))
            have hfq : wr.frozen? ⟨gp, k * 2, none⟩ = false := blk_frozen hh _
            have hfq2 : wr.frozen? ⟨gp, k * 2 + 1, none⟩ = false := blk_frozen hh _
            generalize cur[k * 2] = q1 at *
            generalize cur[k * 2 + 1] = q2 at *
            have HHh := Aside0.mk hh
            have HGB := Aside0.mk hgB
            have HGM := Aside0.mk hgM
            clear hgB hgM hh hsz
            go_wp2
            go_roundw
            case rel => exact ⟨k + 1, by omega, by go_num, ⟨⟨(HN.out.1.pair HHh.out _).pair (blk_set HHh.out _ _) _, HN.out.2.1.put, fun k' hk1 hk2 => ((Below.heap_setCell _ _ _ k' (by show k' ≠ gp; have := HGM.out; omega)).trans (Below.heap_setCell wr _ _ k' (by show k' ≠ gp; have := HGM.out; omega))).trans (HN.out.2.2.1 k' hk1 hk2), (HN.out.2.2.2.setCell HGB.out _).setCell HGB.out _⟩⟩⟩
            case measure => simp [intOf]; omega
          · obtain rfl : k = prs.length := by omega
            have hHr := HH6.out.move (W1 := wr) (fun k' h1 h2 => HN.out.2.2.1 k' h1 h2)
            have hHr2 := HH2.out.move (W1 := wr) (fun k' h1 h2 => HN.out.2.2.1 k' (Nat.le_trans HSz.out h1) h2)
            have HBr := Aside0.mk HN.out.2.2.2
            have HHr := Aside0.mk hHr
            have HHr2 := Aside0.mk hHr2
            have HT0 : Aside0 (0 < (newT al prs).length) := ⟨by rw [newT_length HE.out]; have := (newE_ok HE.out).1; omega⟩
            have HTx := Aside0.mk (text_some 0 hHr HT0.out (by
              have h16 := newT_16 HE.out
              rw [List.getD_eq_getElem?_getD, List.getElem?_eq_getElem HT0.out]
              have := h16 _ (List.getElem_mem HT0.out)
              simp only [Option.getD_some]
              omega))
            clear hHr hHr2 HH6 HH2 HN hlt hk HBk6
            generalize (newT al prs).getD 0 [] = tx at *
            generalize wr = wo at *
            go_wp2_with (fail)
            refine HTx.out.mono ?_
            rintro e wt ⟨vx, rfl, hRx, hbt⟩
            obtain ⟨Ax, cx, rfl⟩ := Kd.R_slice hRx
            have HX0 : Aside0 (ByteOwn wt wo.heap.size wt.heap.size (.slice Ax tx.length cx) tx.length ∧ Below wo.heap.size wo wt) := ⟨⟨byteOwn_of hRx, hbt⟩⟩
            have htl : tx.length ≤ 9223372036854775807 := (Kd.R_reads' hRx).2.2.2.1
            clear hRx hbt HTx
            go_wp2_with (fail)
            go_loopw [25] (fun i wr => ∃ k : Nat, k ≤ tx.length ∧ i = .int .i64 (k : Int) ∧ Aside0 (ByteOwn wr wo.heap.size wt.heap.size (.slice Ax tx.length cx) tx.length ∧ Below wo.heap.size wo wr)) (fun i _ => tx.length - (intOf i).toNat)
            case atStart => exact ⟨0, Nat.zero_le _, rfl, HX0⟩
            case round =>
              clear HX0
              obtain ⟨k, hk, rfl, HN⟩ := hrel
              by_cases hlt : k < tx.length
              · obtain ⟨gu, cu, cur, he, hgB, hgM, hh, hsz, hel⟩ := HN.out.1 (by omega)
                simp only [Value.slice.injEq, true_and] at he
                obtain ⟨rfl, rfl⟩ := he
                obtain ⟨q, hq⟩ := hel k hlt
                have hcq : wr.cell? ⟨gu, k, none⟩ = some (.int .u8 q) := (blk_cell hh k).trans hq
                have hfq : wr.frozen? ⟨gu, k, none⟩ = false := blk_frozen hh k
                have HHh := Aside0.mk hh
                have HGB := Aside0.mk hgB
                clear hgB hgM hh hsz hel hq
                go_wp2
                go_roundw
                case rel => exact ⟨k + 1, by omega, by go_num, ⟨⟨HN.out.1.put HHh.out _, HN.out.2.setCell HGB.out _⟩⟩⟩
                case measure => simp [intOf]; omega
              · obtain rfl : k = tx.length := by omega
                have HB7 := Aside0.mk (below_step HBr.out HN.out.2)
                have HEn := Aside0.mk (enc_calls A3 c3 bs (Kd.C_below HC3.out HB7.out) HBy3.out (HHr.out.below HN.out.2) rfl (by have := (newE_ok HE.out).2.1; omega) (by omega))
                clear hlt hk htl
                go_wp2_with (fail)
                refine HEn.out.mono ?_
                rintro e w8 ⟨hb8, _, hbad, hgood⟩
                have HB8 := Aside0.mk (below_step HB7.out hb8)
                have HEn2 := Aside0.mk (enc_calls A3 c3 bs (Kd.C_below HC3.out HB8.out) HBy3.out ((HHr2.out.below HN.out.2).below hb8) rfl (by have := (newE_ok HE.out).2.1; omega) (by omega))
                clear HEn
                cases hB : badAt al bs with
                | some i =>
                  have HBa := Aside0.mk hB
                  obtain rfl := hbad HNl.out i hB
                  clear hbad hgood hb8 hB
                  go_wp2_with (fail)
                  refine HEn2.out.mono ?_
                  rintro e w9 ⟨hb9, _, hbad, _⟩
                  obtain rfl := hbad HNl.out i HBa.out
                  have HB9 := Aside0.mk (below_step HB8.out hb9)
                  clear hbad hb9 HEn2
                  have hnil : Kd.C (Kd.int .i64) w9 none ([] : List Int).length [] := ⟨rfl, by decide, fun h => absurd h (by decide)⟩
                  have HX := Aside0.mk (ints_calls none 0 [] none 0 [] w9 hnil hnil true (by decide))
                  clear hnil
                  go_wp2_with (fail)
                  refine HX.out.mono ?_
                  rintro e w10 ⟨rfl, ⟨nd, rfl⟩⟩
                  have HB10 : Aside0 (Below w.heap.size w (w9.drewN nd)) := ⟨pw_below_drewN HB9.out nd⟩
                  go_wp2_with (fail)
                  refine (awake_calls _).mono ?_
                  rintro e w11 ⟨rfl, hb⟩
                  have HB11 := Aside0.mk (below_step HB10.out hb)
                  clear hb
                  go_wp2
                  go_ret
                  exact ⟨rfl, HB11.out⟩
                | none =>
                  have HBa := Aside0.mk hB
                  obtain ⟨v1, rfl, hR1⟩ := hgood HNl.out hB
                  have HR1 := Aside0.mk hR1
                  clear hbad hgood hB hR1
                  go_wp2_with (fail)
                  refine HEn2.out.mono ?_
                  rintro e w9 ⟨hb9, _, _, hgood⟩
                  obtain ⟨v2, rfl, hR2⟩ := hgood HNl.out HBa.out
                  have HB9 := Aside0.mk (below_step HB8.out hb9)
                  have HR1b := Aside0.mk (Kd.R_below HR1.out hb9)
                  have HR2 := Aside0.mk hR2
                  clear hgood hb9 hR2 HEn2 hb8
                  generalize encL al.length prs (toksL al bs) = l1 at *
                  obtain ⟨Ar1, cr1, rfl⟩ := Kd.R_slice HR1b.out
                  obtain ⟨Ar2, cr2, rfl⟩ := Kd.R_slice HR2.out
                  have HX := Aside0.mk (ints_calls Ar1 cr1 l1 Ar2 cr2 l1 w9 (Kd.R_reads' HR1b.out).2.2 (Kd.R_reads' HR2.out).2.2 true (by simp))
                  go_wp2_with (fail)
                  refine HX.out.mono ?_
                  rintro e w10 ⟨rfl, ⟨nd, rfl⟩⟩
                  have HB10 : Aside0 (Below w.heap.size w (w9.drewN nd)) := ⟨pw_below_drewN HB9.out nd⟩
                  go_wp2_with (fail)
                  refine (awake_calls _).mono ?_
                  rintro e w11 ⟨rfl, hb⟩
                  have HB11 := Aside0.mk (below_step HB10.out hb)
                  clear hb
                  go_wp2
                  go_ret
                  exact ⟨rfl, HB11.out⟩
  · have HE := Aside0.mk hE
    have hW5 := hno hE
    subst hW5
    have HNw2 : Aside0 (Calls Try.prog 11 #[.slice A al.length c, .slice A2 prs.length c2] w5 fun e w6 => e = .returned (.tuple #[.pointer none, .int .i64 (newE al prs)]) ∧ Below w5.heap.size w5 w6) := ⟨HNw.out.mono fun e w6 h => ⟨h.1 HE.out, h.2.1⟩⟩
    have hEd : (newE al prs != 0) = true := by simpa using hE
    clear hno hb5 hok hE HNw
    generalize newE al prs = z at *
    go_wp2_with (fail)
    refine HNw2.out.mono ?_
    rintro e w6 ⟨rfl, hb6⟩
    have HB6 := Aside0.mk (below_step HB5.out hb6)
    clear hb6
    go_wp2_with (fail)
    refine (awake_calls _).mono ?_
    rintro e w7 ⟨rfl, hb⟩
    have HB7 := Aside0.mk (below_step HB6.out hb)
    clear hb
    go_wp2
    go_ret
    exact ⟨rfl, HB7.out⟩
theorem nil_n (n n2 n3 : Nat) (hC : Kd.C (Kd.int .u8) w A n al) (hC2 : Kd.C kP w A2 n2 prs) (hC3 : Kd.C (Kd.int .u8) w A3 n3 bs) (hby : ∀ x ∈ al, 0 ≤ x ∧ x < 256) (hby3 : ∀ x ∈ bs, 0 ≤ x ∧ x < 256) :
    Calls Try.prog 8 #[.agg #[.slice A n c, .slice A2 n2 c2], .slice A3 n3 c3, .int .i64 tok] w fun e w' => e = .returned (.bool true) ∧ Below w.heap.size w w' := by
  obtain rfl := hC.1
  obtain rfl := hC2.1
  obtain rfl := hC3.1
  by_cases h : fewB al.length prs.length = false ∨ 60 < bs.length
  · exact nil_out A c al A2 c2 prs A3 c3 bs tok w hC.2.1 hC2.2.1 hC3.2.1 h
  · have hf : fewB al.length prs.length = true := by
      cases hh : fewB al.length prs.length with
      | true => rfl
      | false => exact absurd (.inl hh) h
    exact nil_in A c al A2 c2 prs A3 c3 bs tok w hC hC2 hC3 hby hby3 hf (by omega)
end
end Go.Proofs.Ytbgiccbegcepcaa.Bpe
