/- Texts put together: DrawS, DrawNext, DrawBack, DrawBelow, PickOne, DrawAwake, RefJoin, RefPure, RefThree. -/
import Derived.Test.YtdmeocoehahopaaDoorBun3
import Derived.Deep.MidRow
import Derived.Test.YtdmeocoehahopaaDoorPDrawNumbersx1
import Derived.Great.BuildSlice
import Derived.Deep.WholeRow
namespace Go.Proofs.YtdmeocoehahopaaDoor.Draw
open Go.RowKit Go.Proofs.YtdmeocoehahopaaDoorW.PrintWords Go.Proofs.YtdmeocoehahopaaDoorW.PrintLast Go.Proofs.YtdmeocoehahopaaDoorW.PrintMore Go.Proofs.YtdmeocoehahopaaDoor.K Go.Proofs.YtdmeocoehahopaaDoor.Sha Go.Proofs.YtdmeocoehahopaaDoor.Codec Go.Proofs.YtdmeocoehahopaaDoor.RI
set_option linter.unusedVariables false
set_option linter.unusedSimpArgs false
/-- The tables lie where the program laid them, below B. -/
structure Lo (B : Nat) (W : World) : Prop where
  f : LaidAt W 1 firstA
  c : LaidAt W 2 constA
  gf : 1 < B
  gc : 2 < B
  le : B ≤ W.heap.size
theorem laid_below {B g : Nat} {W W' : World} {cs : Array Value} (h : LaidAt W g cs) (hg : g < B) (hb : Below B W W') : LaidAt W' g cs := by
  obtain ⟨t, fr, h1⟩ := h
  exact ⟨t, fr, (hb.block g hg).trans h1⟩
theorem Lo.below {B : Nat} {W W' : World} (h : Lo B W) (hb : Below B W W') : Lo B W' := ⟨laid_below h.f h.gf hb, laid_below h.c h.gc hb, h.gf, h.gc, Nat.le_trans h.le (by have := hb.size; omega)⟩
def strA (d : List Int) (c : Int) : Array Value := dA d ++ #[.int .i64 c]
def StrAt (W : World) (g : Nat) (d : List Int) (c : Int) : Prop := W.heap[g]? = some (.cells (strA d c) 55 (0, 0))
theorem len32 {d : List Int} (h : d.length = 32) : ∃ x0 x1 x2 x3 x4 x5 x6 x7 x8 x9 x10 x11 x12 x13 x14 x15 x16 x17 x18 x19 x20 x21 x22 x23 x24 x25 x26 x27 x28 x29 x30 x31 : Int, d = [x0, x1, x2, x3, x4, x5, x6, x7, x8, x9, x10, x11, x12, x13, x14, x15, x16, x17, x18, x19, x20, x21, x22, x23, x24, x25, x26, x27, x28, x29, x30, x31] := by
  iterate 32 (obtain ⟨_, d, rfl⟩ := List.exists_cons_of_length_eq_add_one h; replace h := Nat.succ.inj h)
  obtain rfl := List.length_eq_zero_iff.1 h
  exact ⟨_, _, _, _, _, _, _, _, _, _, _, _, _, _, _, _, _, _, _, _, _, _, _, _, _, _, _, _, _, _, _, _, rfl⟩
set_option maxRecDepth 100000 in
theorem run_build_str {d : List Int} (h : d.length = 32) (c : Int) (W : World) : (Instr.build 55 #[(0, .agg (dA d)), (1, .int .i64 c)]).run Tryd.prog W = .ok (.agg (strA d c)) W := by
  obtain ⟨x0, x1, x2, x3, x4, x5, x6, x7, x8, x9, x10, x11, x12, x13, x14, x15, x16, x17, x18, x19, x20, x21, x22, x23, x24, x25, x26, x27, x28, x29, x30, x31, rfl⟩ := len32 h
  kernel_rfl
def NumEnd (d : List Int) (c : Int) (e : Ending) : Prop := e = if c < 0 then .returned (.tuple #[.int .i64 0, .int .i64 10]) else .returned (.tuple #[.int .i64 (numV d c), .int .i64 0])
theorem numEnd_neg {d : List Int} {c : Int} (h : c < 0) : NumEnd d c (.returned (.tuple #[.int .i64 0, .int .i64 10])) := by unfold NumEnd; rw [if_pos h]
theorem numEnd_pos {d : List Int} {c : Int} (h : 0 ≤ c) : NumEnd d c (.returned (.tuple #[.int .i64 (numV d c), .int .i64 0])) := by unfold NumEnd; rw [if_neg (by omega)]
set_option maxHeartbeats 4000000 in
set_option maxRecDepth 100000 in
theorem Number_calls (d : List Int) (c : Int) (w : World) (hd : d.length = 32) (hby : ∀ x ∈ d, 0 ≤ x ∧ x < 256)
    (hLf : LaidAt w 1 firstA) (hL : LaidAt w 2 constA) :
    Calls Tryd.prog 11 #[.agg (dA d), .int .i64 c] w fun e w' => NumEnd d c e ∧ Below w.heap.size w w' := by
  have HBy := Aside0.mk hby
  have HDl := Aside0.mk hd
  have HLf := Aside0.mk hLf
  have HL := Aside0.mk hL
  have HI := Aside0.mk (dig_info hd)
  clear hLf hL hby hd
  by_cases hc : c < 0
  · go_enter Tryd.func11, Tryd.ntmps11
    go_wp2
    go_ret2
    exact ⟨numEnd_neg hc, bel_alloc (Below.refl _ _) _⟩
  · have HC : Aside0 (0 ≤ c) := ⟨by omega⟩
    go_enter Tryd.func11, Tryd.ntmps11
    have HB1 : Aside0 (Below w.heap.size w (w.alloc (.cells (dA d) 23))) := ⟨bel_alloc (Below.refl _ _) _⟩
    have HR1 : Aside0 ((w.alloc (.cells (dA d) 23)).heap[w.heap.size]? = some (.cells (dA d) 23 (0, 0))) := ⟨heap_alloc_new _ _⟩
    go_wp2_with (with_reducible refine wpList_load_row rfl 23 (.tmp 2) rfl w.heap.size rfl 23 (dA d) (0, 0) _ HR1.out Tryd.underlying23 rfl HI.out ?_)
    generalize w.alloc (.cells (dA d) 23) = w1 at *
    refine (number_calls d c w1 HDl.out HBy.out (HLf.out.below HB1.out) (HL.out.below HB1.out)).mono ?_
    rintro e w2 ⟨rfl, hb⟩
    have HB := Aside0.mk hb
    clear hb
    go_wp2_with (fail)
    go_ret2
    exact ⟨numEnd_pos HC.out, below_step HB1.out HB.out⟩
set_option maxHeartbeats 4000000 in
set_option maxRecDepth 100000 in
theorem new_neg_calls (d : List Int) (c : Int) (w : World) (hc : c < 0) :
    Calls Tryd.prog 12 #[.agg (dA d), .int .i64 c] w fun e w' => e = .returned (.tuple #[.pointer none, .int .i64 10]) ∧ Below w.heap.size w w' := by
  go_enter Tryd.func12, Tryd.ntmps12
  go_wp2
  go_ret2
  exact ⟨rfl, bel_alloc (Below.refl _ _) _⟩
set_option maxHeartbeats 4000000 in
set_option maxRecDepth 100000 in
theorem new_calls (d : List Int) (c : Int) (w : World) (hd : d.length = 32) (hc : ¬ c < 0) :
    Calls Tryd.prog 12 #[.agg (dA d), .int .i64 c] w fun e w' => ∃ g, e = .returned (.tuple #[.pointer (some ⟨g, 0, none⟩), .int .i64 0]) ∧ w.heap.size ≤ g ∧ StrAt w' g d c ∧ Below w.heap.size w w' := by
  have HI := Aside0.mk (dig_info hd)
  have HB1 : Aside0 (Below w.heap.size w (w.alloc (.cells (dA d) 23))) := ⟨bel_alloc (Below.refl _ _) _⟩
  have HR1 : Aside0 ((w.alloc (.cells (dA d) 23)).heap[w.heap.size]? = some (.cells (dA d) 23 (0, 0))) := ⟨heap_alloc_new _ _⟩
  obtain ⟨x0, x1, x2, x3, x4, x5, x6, x7, x8, x9, x10, x11, x12, x13, x14, x15, x16, x17, x18, x19, x20, x21, x22, x23, x24, x25, x26, x27, x28, x29, x30, x31, rfl⟩ := len32 hd
  have e : dA [x0, x1, x2, x3, x4, x5, x6, x7, x8, x9, x10, x11, x12, x13, x14, x15, x16, x17, x18, x19, x20, x21, x22, x23, x24, x25, x26, x27, x28, x29, x30, x31] = #[.int .u8 x0, .int .u8 x1, .int .u8 x2, .int .u8 x3, .int .u8 x4, .int .u8 x5, .int .u8 x6, .int .u8 x7, .int .u8 x8, .int .u8 x9, .int .u8 x10, .int .u8 x11, .int .u8 x12, .int .u8 x13, .int .u8 x14, .int .u8 x15, .int .u8 x16, .int .u8 x17, .int .u8 x18, .int .u8 x19, .int .u8 x20, .int .u8 x21, .int .u8 x22, .int .u8 x23, .int .u8 x24, .int .u8 x25, .int .u8 x26, .int .u8 x27, .int .u8 x28, .int .u8 x29, .int .u8 x30, .int .u8 x31] := rfl
  rw [e] at HI HB1 HR1 ⊢
  clear hd e
  have HE : Aside0 (StrAt ((w.alloc (.cells #[.int .u8 x0, .int .u8 x1, .int .u8 x2, .int .u8 x3, .int .u8 x4, .int .u8 x5, .int .u8 x6, .int .u8 x7, .int .u8 x8, .int .u8 x9, .int .u8 x10, .int .u8 x11, .int .u8 x12, .int .u8 x13, .int .u8 x14, .int .u8 x15, .int .u8 x16, .int .u8 x17, .int .u8 x18, .int .u8 x19, .int .u8 x20, .int .u8 x21, .int .u8 x22, .int .u8 x23, .int .u8 x24, .int .u8 x25, .int .u8 x26, .int .u8 x27, .int .u8 x28, .int .u8 x29, .int .u8 x30, .int .u8 x31] 23)).alloc (.cells #[.int .u8 x0, .int .u8 x1, .int .u8 x2, .int .u8 x3, .int .u8 x4, .int .u8 x5, .int .u8 x6, .int .u8 x7, .int .u8 x8, .int .u8 x9, .int .u8 x10, .int .u8 x11, .int .u8 x12, .int .u8 x13, .int .u8 x14, .int .u8 x15, .int .u8 x16, .int .u8 x17, .int .u8 x18, .int .u8 x19, .int .u8 x20, .int .u8 x21, .int .u8 x22, .int .u8 x23, .int .u8 x24, .int .u8 x25, .int .u8 x26, .int .u8 x27, .int .u8 x28, .int .u8 x29, .int .u8 x30, .int .u8 x31, .int .i64 c] 55)) (w.heap.size + 1) [x0, x1, x2, x3, x4, x5, x6, x7, x8, x9, x10, x11, x12, x13, x14, x15, x16, x17, x18, x19, x20, x21, x22, x23, x24, x25, x26, x27, x28, x29, x30, x31] c) := ⟨by
    have h := heap_alloc_new (w.alloc (.cells #[.int .u8 x0, .int .u8 x1, .int .u8 x2, .int .u8 x3, .int .u8 x4, .int .u8 x5, .int .u8 x6, .int .u8 x7, .int .u8 x8, .int .u8 x9, .int .u8 x10, .int .u8 x11, .int .u8 x12, .int .u8 x13, .int .u8 x14, .int .u8 x15, .int .u8 x16, .int .u8 x17, .int .u8 x18, .int .u8 x19, .int .u8 x20, .int .u8 x21, .int .u8 x22, .int .u8 x23, .int .u8 x24, .int .u8 x25, .int .u8 x26, .int .u8 x27, .int .u8 x28, .int .u8 x29, .int .u8 x30, .int .u8 x31] 23)) (.cells #[.int .u8 x0, .int .u8 x1, .int .u8 x2, .int .u8 x3, .int .u8 x4, .int .u8 x5, .int .u8 x6, .int .u8 x7, .int .u8 x8, .int .u8 x9, .int .u8 x10, .int .u8 x11, .int .u8 x12, .int .u8 x13, .int .u8 x14, .int .u8 x15, .int .u8 x16, .int .u8 x17, .int .u8 x18, .int .u8 x19, .int .u8 x20, .int .u8 x21, .int .u8 x22, .int .u8 x23, .int .u8 x24, .int .u8 x25, .int .u8 x26, .int .u8 x27, .int .u8 x28, .int .u8 x29, .int .u8 x30, .int .u8 x31, .int .i64 c] 55)
    rw [World.size_alloc] at h
    exact h⟩
  go_enter Tryd.func12, Tryd.ntmps12
  go_wp2_with (with_reducible refine wpList_load_row rfl 23 (.tmp 2) rfl w.heap.size rfl 23 _ (0, 0) _ HR1.out Tryd.underlying23 rfl HI.out ?_)
  go_ret2
  exact ⟨_, rfl, Nat.le_succ _, HE.out, bel_alloc HB1.out _⟩
theorem StrAt.below {W W' : World} {g : Nat} {d : List Int} {c : Int} (h : StrAt W g d c) (hb : Below W.heap.size W W') : StrAt W' g d c := (hb.block _ (blk_lt h)).trans h
theorem strA_last {d : List Int} (hd : d.length = 32) (c : Int) : (strA d c)[32]? = some (.int .i64 c) := by
  rw [strA, Array.getElem?_append_right (by rw [dA_size, hd]; exact Nat.le_refl _), dA_size, hd]
  rfl
theorem StrAt.count {W : World} {g : Nat} {d : List Int} {c : Int} (h : StrAt W g d c) (hd : d.length = 32) : W.cell? ⟨g, 32, none⟩ = some (.int .i64 c) := (blk_cell h 32).trans (strA_last hd c)
theorem StrAt.free {W : World} {g : Nat} {d : List Int} {c : Int} (h : StrAt W g d c) (j : Nat) : W.frozen? ⟨g, j, none⟩ = false := blk_frozen h j
theorem strA_set {d : List Int} (hd : d.length = 32) (c c' : Int) : (strA d c).setIfInBounds 32 (.int .i64 c') = strA d c' := by
  have e : (dA d).size = 32 := by rw [dA_size, hd]
  rw [strA, strA, ← e, Array.setIfInBounds_append_right (Nat.le_refl _), Nat.sub_self]
  rfl
theorem StrAt.set {W : World} {g : Nat} {d : List Int} {c : Int} (h : StrAt W g d c) (hd : d.length = 32) (c' : Int) : StrAt (W.setCell ⟨g, 32, none⟩ (.int .i64 c')) g d c' := by
  have h1 := blk_set h 32 (.int .i64 c')
  rw [strA_set hd] at h1
  exact h1
theorem StrAt.row {W : World} {g : Nat} {d : List Int} {c : Int} (h : StrAt W g d c) (hd : d.length = 32) : W.rangeAt g 0 (dA d).toList := fun j v hv => by
  rw [Nat.zero_add]
  have hj : j < 32 := by
    have := (List.getElem?_eq_some_iff.1 hv).1
    rw [Array.length_toList, dA_size, hd] at this
    exact this
  refine (blk_cell h j).trans ?_
  rw [strA, Array.getElem?_append_left (by rw [dA_size, hd]; exact hj)]
  simpa using hv
set_option maxHeartbeats 4000000 in
set_option maxRecDepth 100000 in
theorem count_calls (d : List Int) (c : Int) (g : Nat) (w : World) (hd : d.length = 32) (hS : StrAt w g d c) :
    Calls Tryd.prog 15 #[.pointer (some ⟨g, 0, none⟩)] w fun e w' => e = .returned (.int .i64 c) ∧ w = w' := by
  have h1 := hS.count hd
  clear hS hd
  go_enter Tryd.func15, Tryd.ntmps15
  go_wp2
  go_ret
  exact ⟨rfl, rfl⟩
set_option maxHeartbeats 4000000 in
theorem count_nil_calls (w : World) :
    Calls Tryd.prog 15 #[.pointer none] w fun e w' => e = .returned (.int .i64 0) ∧ w = w' := by
  go_enter Tryd.func15, Tryd.ntmps15
  go_wp2
  go_ret
  exact ⟨rfl, rfl⟩
set_option maxHeartbeats 4000000 in
set_option maxRecDepth 100000 in
theorem next_over_calls (d : List Int) (g : Nat) (w : World) (hd : d.length = 32) (hS : StrAt w g d 9223372036854775807) :
    Calls Tryd.prog 29 #[.pointer (some ⟨g, 0, none⟩)] w fun e w' => e = .returned (.tuple #[.int .i64 0, .int .i64 17]) ∧ w = w' := by
  have h1 := hS.count hd
  clear hS hd
  go_enter Tryd.func29, Tryd.ntmps29
  go_wp2
  go_ret2
  exact ⟨rfl, rfl⟩
end Go.Proofs.YtdmeocoehahopaaDoor.Draw
namespace Go.Proofs.YtdmeocoehahopaaDoor.Draw
open Go.RowKit Go.Proofs.YtdmeocoehahopaaDoorW.PrintWords Go.Proofs.YtdmeocoehahopaaDoorW.PrintLast Go.Proofs.YtdmeocoehahopaaDoorW.PrintMore Go.Proofs.YtdmeocoehahopaaDoor.K Go.Proofs.YtdmeocoehahopaaDoor.Sha Go.Proofs.YtdmeocoehahopaaDoor.Codec Go.Proofs.YtdmeocoehahopaaDoor.RI
set_option linter.unusedVariables false
set_option linter.unusedSimpArgs false
def NextF (d : List Int) (c : Int) (g : Nat) (iv : Nat) (xv : Value) (W : World) : Prop := match iv with
  | 0 => xv = .pointer (some ⟨g, 0, none⟩)
  | 1 => xv = .pointer (some ⟨g, 0, none⟩)
  | 2 => xv = .pointer (some ⟨g, 0, none⟩)
  | 3 => xv = .agg (dA d)
  | 4 => xv = .pointer (some ⟨g, 0, none⟩)
  | 5 => xv = .pointer (some ⟨g, 0, none⟩)
  | 6 => xv = .pointer (some ⟨g, 32, none⟩)
  | 7 => xv = .int .i64 (c + 1)
  | 8 => xv = .int .i64 c
  | 9 => xv = .int .i64 (numV d c)
  | 10 => xv = .int .i64 (numV d c)
  | 11 => xv = .int .i64 0
  | _ => True
theorem NextF.step (d : List Int) (c : Int) (g : Nat) (i : Nat) (x : Value) (W W' : World) (hb : Below W.heap.size W W') (h : NextF d c g i x W) : NextF d c g i x W' := by
  unfold NextF at *
  split <;> simp only at h ⊢
  · exact h
  · exact h
  · exact h
  · exact h
  · exact h
  · exact h
  · exact h
  · exact h
  · exact h
  · exact h
  · exact h
  · exact h
set_option maxHeartbeats 4000000 in
set_option maxRecDepth 100000 in
theorem next_calls (d : List Int) (c : Int) (g B : Nat) (w : World) (hd : d.length = 32) (hby : ∀ x ∈ d, 0 ≤ x ∧ x < 256) (hS : StrAt w g d c) (h0 : 0 ≤ c) (h1 : c < 9223372036854775807) (hB : B ≤ g) (hLo : Lo B w) :
    Calls Tryd.prog 29 #[.pointer (some ⟨g, 0, none⟩)] w fun e w' => e = .returned (.tuple #[.int .i64 (numV d c), .int .i64 0]) ∧ StrAt w' g d (c + 1) ∧ KeepBut w w' g none ∧ Below B w w' := by
  have HBy := Aside0.mk hby
  have HDl := Aside0.mk hd
  have HI : Aside0 ((Tryd.prog.info? 23).map (·.size) = some (dA d).toList.length) := ⟨by rw [Array.length_toList]; exact dig_info hd⟩
  have hc := hS.count hd
  have hf := hS.free 32
  have hne : (c == 9223372036854775807) = false := by simp; omega
  have hw : IntKind.i64.wrap (c + 1) = c + 1 := by rw [IntKind.wrap_i64]; omega
  have hw2 : wrap64 c = c := by unfold wrap64; omega
  have HW2 := Aside0.mk hw2
  have HS1 : Aside0 (StrAt (w.setCell ⟨g, 32, none⟩ (.int .i64 (c + 1))) g d (c + 1)) := ⟨hS.set hd _⟩
  have HKb : Aside0 (KeepBut w (w.setCell ⟨g, 32, none⟩ (.int .i64 (c + 1))) g none) := ⟨KeepBut.set_ (KeepBut.refl _ _ _) _ _⟩
  have HBb : Aside0 (Below B w (w.setCell ⟨g, 32, none⟩ (.int .i64 (c + 1)))) := ⟨Below.setCell (Below.refl _ _) hB _⟩
  have HLo : Aside0 (Lo B (w.setCell ⟨g, 32, none⟩ (.int .i64 (c + 1)))) := ⟨hLo.below HBb.out⟩
  clear hby hd hS h0 h1 hw2 hLo hB
  go_enter Tryd.func29, Tryd.ntmps29
  go_upto_region 4 with (fail)
  clear hc hf hne hw
  generalize w.setCell ⟨g, 32, none⟩ (.int .i64 (c + 1)) = w1 at *
  have HRow : Aside0 (∀ W, Below w1.heap.size w1 W → W.rangeAt g 0 (dA d).toList) := ⟨fun W hb => (HS1.out.below hb).row HDl.out⟩
  have HCell : Aside0 (∀ W, Below w1.heap.size w1 W → W.cell? ⟨g, 32, none⟩ = some (.int .i64 (c + 1))) := ⟨fun W hb => (HS1.out.below hb).count HDl.out⟩
  refine wp_region_fin [false, false, true, true, false, false, false, false, false, false, false, false, false, false, false, false, true, true, true, true, true, true, true, true, true, true] (by kernel_rfl) (by kernel_rfl) (fun W => Below w1.heap.size w1 W) (fun W W' => Below W.heap.size W W') (NextF d c g) (fun iv xv W W' _ hb h => NextF.step d c g iv xv W W' hb h) (below_drew (Below.refl _ _)) ?_ ?_
  · refine ⟨?_, ?_, ?_, ?_, ?_, ?_, ?_, ?_, ?_, ?_, ?_, ?_, trivial⟩
    · intro v W hb hd
      refine step_list fun K hK => ?_
      simp only [fill_lit, fillL, Act.put, List.setIfInBounds_toArray, List.set_cons_zero, List.set_cons_succ, Nat.reduceAdd] at hK ⊢
      clear hd
      go_wp2
      exact ⟨hb, Below.refl _ _, rfl⟩
    · intro v W hb hd
      have h0 : v 16 = .pointer (some ⟨g, 0, none⟩) := hd 0 (by kernel_rfl)
      refine step_list fun K hK => ?_
      simp only [fill_lit, fillL, Act.put, List.setIfInBounds_toArray, List.set_cons_zero, List.set_cons_succ, Nat.reduceAdd] at hK ⊢
      rw [h0] at hK ⊢
      clear hd h0
      go_wp2
      exact ⟨hb, Below.refl _ _, rfl⟩
    · intro v W hb hd
      have h1 : v 17 = .pointer (some ⟨g, 0, none⟩) := hd 1 (by kernel_rfl)
      refine step_list fun K hK => ?_
      simp only [fill_lit, fillL, Act.put, List.setIfInBounds_toArray, List.set_cons_zero, List.set_cons_succ, Nat.reduceAdd] at hK ⊢
      rw [h1] at hK ⊢
      clear hd h1
      go_wp2
      exact ⟨hb, Below.refl _ _, rfl⟩
    · intro v W hb hd
      have hrow := HRow.out W hb
      have h2 : v 18 = .pointer (some ⟨g, 0, none⟩) := hd 2 (by kernel_rfl)
      refine step_list fun K hK => ?_
      simp only [fill_lit, fillL, Act.put, List.setIfInBounds_toArray, List.set_cons_zero, List.set_cons_succ, Nat.reduceAdd] at hK ⊢
      rw [h2] at hK ⊢
      clear hd h2
      go_wp2_with (refine wpList_load_mid rfl 23 (.tmp 18) rfl g 0 rfl (dA d).toList _ hrow Tryd.underlying23 rfl HI.out ?_; rw [Array.toArray_toList])
      exact ⟨hb, Below.refl _ _, rfl⟩
    · intro v W hb hd
      refine step_list fun K hK => ?_
      simp only [fill_lit, fillL, Act.put, List.setIfInBounds_toArray, List.set_cons_zero, List.set_cons_succ, Nat.reduceAdd] at hK ⊢
      clear hd
      go_wp2
      exact ⟨hb, Below.refl _ _, rfl⟩
    · intro v W hb hd
      have h4 : v 20 = .pointer (some ⟨g, 0, none⟩) := hd 4 (by kernel_rfl)
      refine step_list fun K hK => ?_
      simp only [fill_lit, fillL, Act.put, List.setIfInBounds_toArray, List.set_cons_zero, List.set_cons_succ, Nat.reduceAdd] at hK ⊢
      rw [h4] at hK ⊢
      clear hd h4
      go_wp2
      exact ⟨hb, Below.refl _ _, rfl⟩
    · intro v W hb hd
      have h5 : v 21 = .pointer (some ⟨g, 0, none⟩) := hd 5 (by kernel_rfl)
      refine step_list fun K hK => ?_
      simp only [fill_lit, fillL, Act.put, List.setIfInBounds_toArray, List.set_cons_zero, List.set_cons_succ, Nat.reduceAdd] at hK ⊢
      rw [h5] at hK ⊢
      clear hd h5
      go_wp2
      exact ⟨hb, Below.refl _ _, rfl⟩
    · intro v W hb hd
      have hcell := HCell.out W hb
      have h6 : v 22 = .pointer (some ⟨g, 32, none⟩) := hd 6 (by kernel_rfl)
      refine step_list fun K hK => ?_
      simp only [fill_lit, fillL, Act.put, List.setIfInBounds_toArray, List.set_cons_zero, List.set_cons_succ, Nat.reduceAdd] at hK ⊢
      rw [h6] at hK ⊢
      clear hd h6
      go_wp2
      exact ⟨hb, Below.refl _ _, rfl⟩
    · intro v W hb hd
      have h7 : v 23 = .int .i64 (c + 1) := hd 7 (by kernel_rfl)
      refine step_list fun K hK => ?_
      simp only [fill_lit, fillL, Act.put, List.setIfInBounds_toArray, List.set_cons_zero, List.set_cons_succ, Nat.reduceAdd] at hK ⊢
      rw [h7] at hK ⊢
      clear hd h7
      go_wp2
      exact ⟨hb, Below.refl _ _, congrArg (Value.int .i64) HW2.out⟩
    · intro v W hb hd
      have h3 : v 19 = .agg (dA d) := hd 3 (by kernel_rfl)
      have h8 : v 24 = .int .i64 c := hd 8 (by kernel_rfl)
      refine step_list fun K hK => ?_
      simp only [fill_lit, fillL, Act.put, List.setIfInBounds_toArray, List.set_cons_zero, List.set_cons_succ, Nat.reduceAdd] at hK ⊢
      rw [h3, h8] at hK ⊢
      clear hd h3 h8
      go_wp2_with (fail)
      refine (number_calls d c W HDl.out HBy.out (HLo.out.f.below hb) (HLo.out.c.below hb)).mono ?_
      rintro e W' ⟨rfl, hb'⟩
      have HB' := Aside0.mk hb'
      clear hb'
      go_wp2_with (fail)
      exact ⟨below_step hb HB'.out, HB'.out, rfl⟩
    · intro v W hb hd
      have h9 : v 25 = .int .i64 (numV d c) := hd 9 (by kernel_rfl)
      refine step_list fun K hK => ?_
      simp only [fill_lit, fillL, Act.put, List.setIfInBounds_toArray, List.set_cons_zero, List.set_cons_succ, Nat.reduceAdd] at hK ⊢
      rw [h9] at hK ⊢
      clear hd h9
      go_wp2
      exact ⟨hb, Below.refl _ _, rfl⟩
    · intro v W hb hd
      refine step_list fun K hK => ?_
      simp only [fill_lit, fillL, Act.put, List.setIfInBounds_toArray, List.set_cons_zero, List.set_cons_succ, Nat.reduceAdd] at hK ⊢
      clear hd
      go_wp2
      exact ⟨hb, Below.refl _ _, rfl⟩
  · intro v W hb hF
    have h10 : v 2 = .int .i64 (numV d c) := hF 10 (of_decide_eq_true (by kernel_rfl))
    have h11 : v 3 = .int .i64 0 := hF 11 (of_decide_eq_true (by kernel_rfl))
    simp only [fill_lit, fillL, Nat.reduceAdd]
    rw [h10, h11]
    clear hF h10 h11
    go_wp2
    go_ret2
    exact ⟨rfl, HS1.out.below hb, HKb.out.trans (KeepBut.of_below hb g none) (.inl rfl), HBb.out.trans (hb.mono (HLo.out.le))⟩
end Go.Proofs.YtdmeocoehahopaaDoor.Draw
namespace Go.Proofs.YtdmeocoehahopaaDoor.Draw
open Go.RowKit Go.Proofs.YtdmeocoehahopaaDoorW.PrintWords Go.Proofs.YtdmeocoehahopaaDoorW.PrintLast Go.Proofs.YtdmeocoehahopaaDoorW.PrintMore Go.Proofs.YtdmeocoehahopaaDoor.K Go.Proofs.YtdmeocoehahopaaDoor.Sha Go.Proofs.YtdmeocoehahopaaDoor.Codec Go.Proofs.YtdmeocoehahopaaDoor.RI
set_option linter.unusedVariables false
set_option linter.unusedSimpArgs false
set_option maxHeartbeats 4000000 in
theorem back_nil_calls (f : Value) (w : World) :
    Calls Tryd.prog 28 #[.pointer none, f] w fun e w' => e = .returned (.tuple #[.int .i64 0, .int .i64 2]) ∧ w = w' := by
  go_enter Tryd.func28, Tryd.ntmps28
  go_wp2
  go_ret2
  exact ⟨rfl, rfl⟩
/-- A stream has moved, and nothing else but what is new. -/
structure Moved (B g : Nat) (d : List Int) (w w' : World) (c : Int) : Prop where
  at_ : StrAt w' g d c
  keep : KeepBut w w' g none
  bel : Below B w w'
theorem Moved.refl {B g : Nat} {d : List Int} {w : World} {c : Int} (h : StrAt w g d c) : Moved B g d w w c := ⟨h, KeepBut.refl _ _ _, Below.refl _ _⟩
theorem Moved.trans {B g : Nat} {d : List Int} {w w1 w2 : World} {c1 c2 : Int} (h : Moved B g d w w1 c1) (k : Moved B g d w1 w2 c2) : Moved B g d w w2 c2 := ⟨k.at_, h.keep.trans k.keep (.inl rfl), h.bel.trans k.bel⟩
theorem Moved.below {B g : Nat} {d : List Int} {w w1 w2 : World} {c : Int} (h : Moved B g d w w1 c) (hB : B ≤ w.heap.size) (k : Below w1.heap.size w1 w2) : Moved B g d w w2 c :=
  ⟨h.at_.below k, h.keep.trans (KeepBut.of_below k g none) (.inl rfl), h.bel.trans (k.mono (Nat.le_trans hB h.bel.size))⟩
theorem Moved.of_below {B g : Nat} {d : List Int} {w w1 : World} {c : Int} (h : StrAt w g d c) (hB : B ≤ w.heap.size) (k : Below w.heap.size w w1) : Moved B g d w w1 c := (Moved.refl h).below hB k
theorem Moved.start {B g : Nat} {d : List Int} {w0 w w1 : World} {c : Int} (h : Moved B g d w w1 c) (hb : Below w0.heap.size w0 w) (hB : B ≤ w0.heap.size) : Moved B g d w0 w1 c :=
  ⟨h.at_, (KeepBut.of_below hb g none).trans h.keep (.inl rfl), (hb.mono hB).trans h.bel⟩
theorem Moved.set {B g : Nat} {d : List Int} {w w1 : World} {c : Int} (h : Moved B g d w w1 c) (hd : d.length = 32) (hB : B ≤ g) (c' : Int) : Moved B g d w (w1.setCell ⟨g, 32, none⟩ (.int .i64 c')) c' :=
  ⟨h.at_.set hd c', h.keep.set_ _ _, h.bel.setCell hB _⟩
def BackEnd (B g : Nat) (d : List Int) (c : Int) (R : Int → Int → Int → Prop) (w : World) (e : Ending) (w' : World) : Prop :=
  ∃ x er c', R x er c' ∧ ((er = 0 ∧ e = .returned (.tuple #[.int .i64 x, .int .i64 0]) ∧ Moved B g d w w' c') ∨ (er ≠ 0 ∧ e = .returned (.tuple #[.int .i64 0, .int .i64 er]) ∧ Moved B g d w w' c))
set_option maxHeartbeats 4000000 in
set_option maxRecDepth 100000 in
theorem back_calls (fid : Nat) (fa lb : Array Value) (B : Nat) (d : List Int) (c : Int) (g : Nat) (w : World) (hd : d.length = 32) (hS : StrAt w g d c) (hB : B ≤ g) (eg : ∀ args w, (callFunc fid args).run Tryd.prog w = .ok (.enter fid args) w)
    (R : Int → Int → Int → Prop) (hcall : Calls Tryd.prog fid (fa ++ lb) w fun e w' => ∃ x er c', R x er c' ∧ e = .returned (.tuple #[.int .i64 x, .int .i64 er]) ∧ Moved B g d w w' c') :
    Calls Tryd.prog 28 #[.pointer (some ⟨g, 0, none⟩), .func (.func fid) fa lb] w (BackEnd B g d c R w) := by
  have h1 := hS.count hd
  have HC := Aside0.mk hcall
  have HD := Aside0.mk hd
  have HB := Aside0.mk hB
  clear hS hcall hd hB
  go_enter Tryd.func28, Tryd.ntmps28
  go_wp2_with (fail)
  refine HC.out.mono ?_
  rintro e w' ⟨x, er, c', hR, rfl, hm⟩
  have HR := Aside0.mk hR
  have HM := Aside0.mk hm
  have h2 := hm.at_.count HD.out
  have h3 := hm.at_.free 32
  clear hR hm h1
  by_cases h0 : er = 0
  · subst h0
    go_wp2
    go_ret2
    exact ⟨x, 0, c', HR.out, .inl ⟨rfl, rfl, HM.out⟩⟩
  · have h4 : (er != 0) = true := by simpa using h0
    have H0 := Aside0.mk h0
    clear h0
    go_wp2
    go_ret2
    exact ⟨x, er, c', HR.out, .inr ⟨H0.out, rfl, HM.out.set HD.out HB.out c⟩⟩
/-- The next number, or that there is none. -/
def nextV (d : List Int) (c x er c' : Int) : Prop := if c = 9223372036854775807 then x = 0 ∧ er = 17 ∧ c' = c else x = numV d c ∧ er = 0 ∧ c' = c + 1
theorem nextm_calls (d : List Int) (c : Int) (g B : Nat) (w : World) (hd : d.length = 32) (hby : ∀ x ∈ d, 0 ≤ x ∧ x < 256) (hS : StrAt w g d c) (h0 : 0 ≤ c) (h1 : c ≤ 9223372036854775807) (hB : B ≤ g) (hLo : Lo B w) :
    Calls Tryd.prog 29 #[.pointer (some ⟨g, 0, none⟩)] w fun e w' => ∃ x er c', nextV d c x er c' ∧ e = .returned (.tuple #[.int .i64 x, .int .i64 er]) ∧ Moved B g d w w' c' := by
  by_cases hc : c = 9223372036854775807
  · subst hc
    refine (next_over_calls d g w hd hS).mono ?_
    rintro e w' ⟨rfl, rfl⟩
    exact ⟨_, _, _, by unfold nextV; rw [if_pos rfl]; exact ⟨rfl, rfl, rfl⟩, rfl, Moved.refl hS⟩
  · refine (next_calls d c g B w hd hby hS h0 (by omega) hB hLo).mono ?_
    rintro e w' ⟨rfl, h2, h3, h4⟩
    exact ⟨_, _, _, by unfold nextV; rw [if_neg hc]; exact ⟨rfl, rfl, rfl⟩, rfl, h2, h3, h4⟩
set_option maxHeartbeats 4000000 in
set_option maxRecDepth 100000 in
theorem Next_calls (d : List Int) (c : Int) (g B : Nat) (w : World) (hd : d.length = 32) (hby : ∀ x ∈ d, 0 ≤ x ∧ x < 256) (hS : StrAt w g d c) (h0 : 0 ≤ c) (h1 : c ≤ 9223372036854775807) (hB : B ≤ g) (hLo : Lo B w) :
    Calls Tryd.prog 16 #[.pointer (some ⟨g, 0, none⟩)] w (BackEnd B g d c (nextV d c) w) := by
  have HC := Aside0.mk (back_calls 29 #[.pointer (some ⟨g, 0, none⟩)] #[] B d c g w hd hS hB (enters_ Tryd.func29 (by kernel_rfl) rfl) (nextV d c) (nextm_calls d c g B w hd hby hS h0 h1 hB hLo))
  clear hd hby hS h0 h1 hB hLo
  go_enter Tryd.func16, Tryd.ntmps16
  go_wp2_with (fail)
  refine HC.out.mono ?_
  rintro e w' ⟨x, er, c', hR, ⟨h0, rfl, hm⟩ | ⟨h0, rfl, hm⟩⟩
  · have H := Aside0.mk (And.intro h0 (And.intro hR hm))
    clear h0 hR hm
    go_wp2
    go_ret2
    exact ⟨x, er, c', H.out.2.1, .inl ⟨H.out.1, rfl, H.out.2.2⟩⟩
  · have H := Aside0.mk (And.intro h0 (And.intro hR hm))
    clear h0 hR hm
    go_wp2
    go_ret2
    exact ⟨x, er, c', H.out.2.1, .inr ⟨H.out.1, rfl, H.out.2.2⟩⟩
set_option maxHeartbeats 4000000 in
theorem Next_nil_calls (w : World) :
    Calls Tryd.prog 16 #[.pointer none] w fun e w' => e = .returned (.tuple #[.int .i64 0, .int .i64 2]) ∧ w = w' := by
  go_enter Tryd.func16, Tryd.ntmps16
  go_wp2_with (fail)
  refine (back_nil_calls _ w).mono ?_
  rintro e w' ⟨rfl, rfl⟩
  go_wp2
  go_ret2
  exact ⟨rfl, rfl⟩
end Go.Proofs.YtdmeocoehahopaaDoor.Draw
namespace Go.Proofs.YtdmeocoehahopaaDoor.Draw
open Go.RowKit Go.Proofs.YtdmeocoehahopaaDoorW.PrintWords Go.Proofs.YtdmeocoehahopaaDoorW.PrintLast Go.Proofs.YtdmeocoehahopaaDoorW.PrintMore Go.Proofs.YtdmeocoehahopaaDoor.K Go.Proofs.YtdmeocoehahopaaDoor.Sha Go.Proofs.YtdmeocoehahopaaDoor.Codec Go.Proofs.YtdmeocoehahopaaDoor.RI
set_option linter.unusedVariables false
set_option linter.unusedSimpArgs false
def endOf (n : Int) : Int := 9223372036854775808 - 9223372036854775808 % n
/-- What is drawn below a number: the number, what is wrong, how far the stream stands behind it. -/
def belowF (d : List Int) (n : Int) : Nat → Int → Int × Int × Int
  | 0, c => (0, 14, c)
  | k + 1, c => if c = 9223372036854775807 then (0, 17, c) else if numV d c < endOf n then (numV d c % n, 0, c + 1) else belowF d n k (c + 1)
def belowV (d : List Int) (n c : Int) : Int × Int × Int := if n < 1 then (0, 10, c) else belowF d n 64 c
def BelowR (d : List Int) (n c x er c' : Int) : Prop := belowV d n c = (x, er, c')
set_option maxHeartbeats 4000000 in
set_option maxRecDepth 100000 in
theorem below1_calls (d : List Int) (n c : Int) (g B Bn Bs : Nat) (w : World) (hd : d.length = 32) (hby : ∀ x ∈ d, 0 ≤ x ∧ x < 256) (hS : StrAt w g d c) (h0 : 0 ≤ c) (h1 : c ≤ 9223372036854775807) (hn : n ≤ 9223372036854775807) (hB : B ≤ g) (hLo : Lo B w)
    (hbn : w.heap[Bn]? = some (.cells #[.int .i64 n] 3 (0, 0))) (hbs : w.heap[Bs]? = some (.cells #[.pointer (some ⟨g, 0, none⟩)] 27 (0, 0))) :
    Calls Tryd.prog 30 #[.pointer (some ⟨Bn, 0, none⟩), .pointer (some ⟨Bs, 0, none⟩)] w fun e w' => ∃ x er c', BelowR d n c x er c' ∧ e = .returned (.tuple #[.int .i64 x, .int .i64 er]) ∧ Moved B g d w w' c' := by
  have hcn := blk_cell hbn 0
  have hcs := blk_cell hbs 0
  simp only [List.getElem?_toArray, List.getElem?_cons_zero] at hcn hcs
  by_cases hlt : n < 1
  · have H := Aside0.mk (Moved.refl (B := B) hS)
    have H2 : Aside0 (BelowR d n c 0 10 c) := ⟨by unfold BelowR belowV; rw [if_pos hlt]⟩
    have hltD : decide (n < 1) = true := by simpa using hlt
    clear hd hby hS h0 h1 hn hB hLo hbn hbs
    go_enter Tryd.func30, Tryd.ntmps30
    go_wp2
    go_step3
    go_wp2
    rw [Exit.noGoto_ret]
    go_ret2
    exact ⟨_, _, _, H2.out, rfl, H.out⟩
  · have hltD : decide (n < 1) = false := by simpa using hlt
    have hwn : IntKind.u64.wrap n = n := by rw [IntKind.wrap_u64]; omega
    have hge : ∃ E, E = endOf n := ⟨_, rfl⟩
    obtain ⟨E, hE⟩ := hge
    have he0 : (0 : Int) ≤ 9223372036854775808 % n ∧ 9223372036854775808 % n ≤ 9223372036854775808 := ⟨Int.emod_nonneg _ (by omega), by have := Int.emod_lt_of_pos (9223372036854775808 : Int) (show 0 < n by omega); omega⟩
    have hwe : IntKind.u64.wrap (9223372036854775808 - 9223372036854775808 % n) = E := by rw [hE, endOf, IntKind.wrap_u64]; omega
    have HD := Aside0.mk hd
    have HBy := Aside0.mk hby
    have HS := Aside0.mk hS
    have H0 := Aside0.mk h0
    have H1 := Aside0.mk h1
    have HB := Aside0.mk hB
    have HLo := Aside0.mk hLo
    have HBn := Aside0.mk hbn
    have HBs := Aside0.mk hbs
    have HE := Aside0.mk hE
    have HN : Aside0 (0 < n) := ⟨by omega⟩
    have HV : Aside0 (∀ x er c', belowF d n 64 c = (x, er, c') → BelowR d n c x er c') := ⟨fun x er c' h => by unfold BelowR belowV; rw [if_neg hlt]; exact h⟩
    have HNn : Aside0 (Bn ≠ g) := ⟨blk_ne hbn hS (by decide)⟩
    have HNs : Aside0 (Bs ≠ g) := ⟨blk_ne hbs hS (by decide)⟩
    have hn1 : 1 ≤ n := by omega
    clear hd hby hS h0 h1 hn hB hLo hbn hbs hE hlt
    go_enter Tryd.func30, Tryd.ntmps30
    go_wp2_with (fail)
    go_step3
    go_wp2_with (fail)
    go_step3
    go_wp2_with (fail)
    clear hwn hwe hltD he0 hcn hcs
    go_loopw [16] (fun i wr => ∃ k : Nat, k ≤ 64 ∧ i = .int .i64 k ∧ Aside0 (belowF d n 64 c = belowF d n (64 - k) (c + k) ∧ c + k ≤ 9223372036854775807 ∧ Moved B g d w wr (c + k))) (fun i _ => 64 - (intOf i).toNat)
    case atStart => exact ⟨0, by decide, rfl, ⟨by simp, by have := H1.out; omega, by simpa using Moved.refl HS.out⟩⟩
    case round =>
      obtain ⟨k, hk, rfl, HR⟩ := hrel
      have hcn := blk_cell (HR.out.2.2.keep.blk HBn.out HNn.out (by simp)) 0
      have hcs := blk_cell (HR.out.2.2.keep.blk HBs.out HNs.out (by simp)) 0
      simp only [List.getElem?_toArray, List.getElem?_cons_zero] at hcn hcs
      by_cases hk64 : k < 64
      · go_wp2_with (fail)
        refine (nextm_calls d (c + k) g B wr HD.out HBy.out HR.out.2.2.at_ (by have := H0.out; omega) HR.out.2.1 HB.out (HLo.out.below HR.out.2.2.bel)).mono ?_
        rintro e w1 ⟨x, er, c', hnx, rfl, hm⟩
        have HM := Aside0.mk (HR.out.2.2.trans hm)
        have HX := Aside0.mk hnx
        have hcn1 := blk_cell (HM.out.keep.blk HBn.out HNn.out (by simp)) 0
        simp only [List.getElem?_toArray, List.getElem?_cons_zero] at hcn1
        have HJ : Aside0 (belowF d n (64 - k) (c + k) = if c + k = 9223372036854775807 then (0, 17, c + k) else if numV d (c + k) < endOf n then (numV d (c + k) % n, 0, c + k + 1) else belowF d n (64 - (k + 1)) (c + k + 1)) := ⟨by
          rw [show 64 - k = (64 - (k + 1)) + 1 by omega]
          rfl⟩
        clear hm hnx hcn hcs
        by_cases hmx : c + k = 9223372036854775807
        · obtain ⟨rfl, rfl, rfl⟩ : x = 0 ∧ er = 17 ∧ c' = c + k := by
            have := HX.out
            unfold nextV at this
            rwa [if_pos hmx] at this
          have HF : Aside0 (BelowR d n c 0 17 (c + k)) := ⟨HV.out _ _ _ (by rw [HR.out.1, HJ.out, if_pos hmx])⟩
          clear hmx
          go_wp2
          rw [Exit.noGoto_ret]
          go_ret2
          exact ⟨_, _, _, HF.out, rfl, HM.out⟩
        · obtain ⟨hx, rfl, rfl⟩ : x = numV d (c + k) ∧ er = 0 ∧ c' = c + k + 1 := by
            have := HX.out
            unfold nextV at this
            rwa [if_neg hmx] at this
          have hr := numV_range d (c + k)
          rw [← hx] at hr
          have hy0 := hr.1
          have hwy : IntKind.u64.wrap x = x := by rw [IntKind.wrap_u64]; omega
          have HMx : Aside0 (c + k + 1 ≤ 9223372036854775807) := ⟨by have := HR.out.2.1; omega⟩
          by_cases hle : x < E
          · have hgeD : decide (E ≤ x) = false := by simpa using hle
            have HF : Aside0 (BelowR d n c (x % n) 0 (c + k + 1)) := ⟨HV.out _ _ _ (by rw [HR.out.1, HJ.out, if_neg hmx, ← hx, ← HE.out, if_pos hle])⟩
            clear hmx hx hr hle HX
            go_wp2
            rw [Exit.noGoto_ret]
            go_ret2
            exact ⟨_, _, _, HF.out, rfl, HM.out⟩
          · have hgeD : decide (E ≤ x) = true := by simp; omega
            have HF : Aside0 (belowF d n 64 c = belowF d n (64 - (k + 1)) (c + (k + 1 : Nat))) := ⟨by rw [HR.out.1, HJ.out, if_neg hmx, ← hx, ← HE.out, if_neg hle, Int.natCast_add, ← Int.add_assoc]; rfl⟩
            clear hmx hx hr hle HX
            go_wp2
            go_roundw
            case rel => exact ⟨k + 1, by omega, by go_num, ⟨HF.out, by have := HMx.out; omega, by have := HM.out; rw [Int.natCast_add, ← Int.add_assoc]; exact this⟩⟩
            case measure => simp [intOf]; omega
      · obtain rfl : k = 64 := by omega
        have HF : Aside0 (BelowR d n c 0 14 (c + (64 : Nat))) := ⟨HV.out _ _ _ (by rw [HR.out.1]; rfl)⟩
        have HM := Aside0.mk HR.out.2.2
        clear hcn hcs
        go_wp2
        rw [Exit.noGoto_ret]
        go_ret2
        exact ⟨_, _, _, HF.out, rfl, HM.out⟩
set_option maxHeartbeats 4000000 in
set_option maxRecDepth 100000 in
theorem Below_calls (d : List Int) (n c : Int) (g B : Nat) (w : World) (hd : d.length = 32) (hby : ∀ x ∈ d, 0 ≤ x ∧ x < 256) (hS : StrAt w g d c) (h0 : 0 ≤ c) (h1 : c ≤ 9223372036854775807) (hn : n ≤ 9223372036854775807) (hB : B ≤ g) (hLo : Lo B w) :
    Calls Tryd.prog 17 #[.pointer (some ⟨g, 0, none⟩), .int .i64 n] w (BackEnd B g d c (BelowR d n c) w) := by
  have HB0 : Aside0 (Below w.heap.size w ((w.alloc (.cells #[.pointer (some ⟨g, 0, none⟩)] 27)).alloc (.cells #[.int .i64 n] 3))) := ⟨bel_alloc (bel_alloc (Below.refl _ _) _) _⟩
  have hb1 : ((w.alloc (.cells #[.pointer (some ⟨g, 0, none⟩)] 27)).alloc (.cells #[.int .i64 n] 3)).heap[w.heap.size]? = some (.cells #[.pointer (some ⟨g, 0, none⟩)] 27 (0, 0)) := blk_alloc (heap_alloc_new _ _) _
  have hb2 : ((w.alloc (.cells #[.pointer (some ⟨g, 0, none⟩)] 27)).alloc (.cells #[.int .i64 n] 3)).heap[w.heap.size + 1]? = some (.cells #[.int .i64 n] 3 (0, 0)) := by
    have h := heap_alloc_new (w.alloc (.cells #[.pointer (some ⟨g, 0, none⟩)] 27)) (.cells #[.int .i64 n] 3)
    rw [World.size_alloc] at h
    exact h
  have HLo := Aside0.mk hLo
  have HC := Aside0.mk (back_calls 30 #[] #[.pointer (some ⟨w.heap.size + 1, 0, none⟩), .pointer (some ⟨w.heap.size, 0, none⟩)] B d c g _ hd (hS.below HB0.out) hB (enters_ Tryd.func30 (by kernel_rfl) rfl) (BelowR d n c)
    (below1_calls d n c g B (w.heap.size + 1) w.heap.size _ hd hby (hS.below HB0.out) h0 h1 hn hB (hLo.below (HB0.out.mono hLo.le)) hb2 hb1))
  clear hd hby hS h0 h1 hB hLo hb1 hb2 hn
  go_enter Tryd.func17, Tryd.ntmps17
  go_wp2_with (fail)
  refine HC.out.mono ?_
  rintro e w' ⟨x, er, c', hR, ⟨h0, rfl, hm⟩ | ⟨h0, rfl, hm⟩⟩
  · have H := Aside0.mk (And.intro h0 (And.intro hR hm))
    clear h0 hR hm
    go_wp2
    go_ret2
    exact ⟨x, er, c', H.out.2.1, .inl ⟨H.out.1, rfl, H.out.2.2.start HB0.out HLo.out.le⟩⟩
  · have H := Aside0.mk (And.intro h0 (And.intro hR hm))
    clear h0 hR hm
    go_wp2
    go_ret2
    exact ⟨x, er, c', H.out.2.1, .inr ⟨H.out.1, rfl, H.out.2.2.start HB0.out HLo.out.le⟩⟩
end Go.Proofs.YtdmeocoehahopaaDoor.Draw
namespace Go.Proofs.YtdmeocoehahopaaDoor.Draw
open Go.RowKit Go.Proofs.YtdmeocoehahopaaDoorW.PrintWords Go.Proofs.YtdmeocoehahopaaDoorW.PrintLast Go.Proofs.YtdmeocoehahopaaDoorW.PrintMore Go.Proofs.YtdmeocoehahopaaDoor.K Go.Proofs.YtdmeocoehahopaaDoor.Sha Go.Proofs.YtdmeocoehahopaaDoor.Codec Go.Proofs.YtdmeocoehahopaaDoor.RI Go.Proofs.YtdmeocoehahopaaDoor.Sort Go.Proofs.YtdmeocoehahopaaDoor.Top Go.Proofs.YtdmeocoehahopaaDoor.Ten Go.Proofs.YtdmeocoehahopaaDoor.Fixed
set_option linter.unusedVariables false
set_option linter.unusedSimpArgs false
theorem sorts_small (fid : Nat) (fa lb : Array Value) (cf : Int → Int → Int) (D : Int → Prop) (B : Nat) (xs : List Int) (h : xs.length < 20) (hD : ∀ x ∈ xs, D x) : Sorts fid fa lb cf D B xs (insOut (ltOf cf) 0 (xs.length - 1) xs) := fun g c w hc hd hB =>
  sortstable_small_calls fid fa lb cf D g xs.length c B xs w hc hd rfl hD hB h
def Ord (l ys : List Int) : Prop := ys.length = l.length ∧ ∀ lb B, Sorts 46 #[] lb (cfV l) (Top.Place l.length) B (places l.length) ys
theorem ord_small (l : List Int) (h : l.length < 20) : Ord l (insOut (ltOf (cfV l)) 0 (l.length - 1) (places l.length)) := by
  refine ⟨by rw [insOut_length, places_length], fun lb B => ?_⟩
  have h1 := sorts_small 46 #[] lb (cfV l) (Top.Place l.length) B (places l.length) (by rw [places_length]; exact h) (places_in _)
  rwa [places_length] at h1
set_option maxHeartbeats 4000000 in
set_option maxRecDepth 100000 in
theorem pickone1_calls (d : List Int) (A : Option Addr) (cc : Nat) (l ys : List Int) (c : Int) (g B Bv Bk Bs : Nat) (w : World) (hS : StrAt w g d c) (hB : B ≤ w.heap.size) (hC : Kd.C (Kd.int .i64) w A l.length l) (hl : checkV l = 0) (hO : Ord l ys)
    (hbv : w.heap[Bv]? = some (.cells #[.slice A l.length cc] 41 (0, 0))) (hbk : w.heap[Bk]? = some (.cells #[.int .i64 1] 3 (0, 0))) :
    Calls Tryd.prog 32 #[.pointer (some ⟨Bv, 0, none⟩), .pointer (some ⟨Bk, 0, none⟩), .pointer (some ⟨Bs, 0, none⟩)] w fun e w' => ∃ x er c', (x = (ys.take 1).getD 0 0 ∧ er = 0 ∧ c' = c) ∧ e = .returned (.tuple #[.int .i64 x, .int .i64 er]) ∧ Moved B g d w w' c' := by
  have hcv := blk_cell hbv 0
  have hck := blk_cell hbk 0
  simp only [List.getElem?_toArray, List.getElem?_cons_zero] at hcv hck
  have hp : 1 ≤ l.length := by
    unfold checkV at hl
    split at hl
    · cases hl
    · omega
  have HT := Aside0.mk (top_ok_calls A cc 1 l ys w hC hl (Nat.le_refl _) hp hO.1 (hO.2 _ _))
  have HS := Aside0.mk hS
  have HB := Aside0.mk hB
  have HK := Aside0.mk hbk
  have HY : Aside0 ((ys.take 1).length = 1) := ⟨by rw [List.length_take, hO.1]; omega⟩
  have HG0 := Aside0.mk (show (ys.take 1).getD 0 0 = (ys.take 1).getD 0 0 from rfl)
  clear hS hB hC hl hO hbv hbk hp HG0
  generalize ys.take 1 = zs at *
  obtain ⟨z, rfl⟩ : ∃ z, zs = [z] := by
    match zs, HY.out with
    | [z], _ => exact ⟨z, rfl⟩
  go_enter Tryd.func32, Tryd.ntmps32
  go_wp2_with (fail)
  refine HT.out.mono ?_
  rintro e w2 ⟨A', c', rfl, hQ, hb⟩
  have hck2 := blk_cell ((hb.block _ (blk_lt HK.out)).trans HK.out) 0
  simp only [List.getElem?_toArray, List.getElem?_cons_zero] at hck2
  have HQ := Aside0.mk hQ
  have HBb := Aside0.mk hb
  clear hQ hb hcv hck
  go_wp2_with (at_builtin; refine append_q (w0 := w) (W := w2.alloc (.cells #[.int .i64 0] 3)) w.heap.size rfl (.tmp 24) (.tmp 25) 41 3 .i64 8 rfl Tryd.underlying41 info_int (by decide) (.slice A' 1 c') [z] [0] (some ⟨w2.heap.size, 0, none⟩) 1 1 rfl rfl (Kd.Q_below HQ.out (bel_alloc (Below.refl _ _) _)) (C_int (reads_lit w2 .i64 3 [0] (by decide))) (bel_alloc HBb.out _) (bel_size HBb.out _) (by simp) ?_; intro v1 w3 hq hbw _ _; obtain ⟨A9, c9, rfl, hc9⟩ := Kd.Q_slice hq; obtain ⟨ad, rfl, hz⟩ := int_at (Kd.Q_reads' hq).2.2 0 (by simp); rw [show ad.add 0 = ad by simp [Addr.add]] at hz; replace hz : w3.cell? ad = some (.int .i64 z) := hz; have HQ3 := Aside0.mk hbw; clear hq hbw)
  go_ret2
  exact ⟨z, 0, c, ⟨rfl, rfl, rfl⟩, rfl, Moved.of_below HS.out HB.out HQ3.out⟩
/-- Pick of one number: the greatest. -/
def OneR (ys : List Int) (c x er c' : Int) : Prop := x = (ys.take 1).getD 0 0 ∧ er = 0 ∧ c' = c
set_option maxHeartbeats 4000000 in
set_option maxRecDepth 100000 in
theorem pickone_calls (d : List Int) (A : Option Addr) (cc : Nat) (l ys : List Int) (c : Int) (g B : Nat) (w : World) (hd : d.length = 32) (hS : StrAt w g d c) (hg : B ≤ g) (hB : B ≤ w.heap.size) (hC : Kd.C (Kd.int .i64) w A l.length l) (hl : checkV l = 0) (hO : Ord l ys) :
    Calls Tryd.prog 21 #[.pointer (some ⟨g, 0, none⟩), .slice A l.length cc, .int .i64 1] w (BackEnd B g d c (OneR ys c) w) := by
  have HB0 : Aside0 (Below w.heap.size w (((w.alloc (.cells #[.pointer (some ⟨g, 0, none⟩)] 27)).alloc (.cells #[.slice A l.length cc] 41)).alloc (.cells #[.int .i64 1] 3))) := ⟨bel_alloc (bel_alloc (bel_alloc (Below.refl _ _) _) _) _⟩
  have hb1 : (((w.alloc (.cells #[.pointer (some ⟨g, 0, none⟩)] 27)).alloc (.cells #[.slice A l.length cc] 41)).alloc (.cells #[.int .i64 1] 3)).heap[w.heap.size + 1]? = some (.cells #[.slice A l.length cc] 41 (0, 0)) := by
    refine blk_alloc ?_ _
    have h := heap_alloc_new (w.alloc (.cells #[.pointer (some ⟨g, 0, none⟩)] 27)) (.cells #[.slice A l.length cc] 41)
    rw [World.size_alloc] at h
    exact h
  have hb2 : (((w.alloc (.cells #[.pointer (some ⟨g, 0, none⟩)] 27)).alloc (.cells #[.slice A l.length cc] 41)).alloc (.cells #[.int .i64 1] 3)).heap[w.heap.size + 1 + 1]? = some (.cells #[.int .i64 1] 3 (0, 0)) := by
    have h := heap_alloc_new ((w.alloc (.cells #[.pointer (some ⟨g, 0, none⟩)] 27)).alloc (.cells #[.slice A l.length cc] 41)) (.cells #[.int .i64 1] 3)
    rw [World.size_alloc, World.size_alloc] at h
    exact h
  have HBs := Aside0.mk hB
  have HC := Aside0.mk (back_calls 32 #[] #[.pointer (some ⟨w.heap.size + 1, 0, none⟩), .pointer (some ⟨w.heap.size + 1 + 1, 0, none⟩), .pointer (some ⟨w.heap.size, 0, none⟩)] B d c g _ hd (hS.below HB0.out) hg (enters_ Tryd.func32 (by kernel_rfl) rfl) (OneR ys c)
    (pickone1_calls d A cc l ys c g B (w.heap.size + 1) (w.heap.size + 1 + 1) w.heap.size _ (hS.below HB0.out) (Nat.le_trans hB HB0.out.size) (Kd.C_below hC HB0.out) hl hO hb1 hb2))
  clear hd hS hB hC hl hO hb1 hb2 hg
  go_enter Tryd.func21, Tryd.ntmps21
  go_wp2_with (fail)
  refine HC.out.mono ?_
  rintro e w' ⟨x, er, c', hR, ⟨h0, rfl, hm⟩ | ⟨h0, rfl, hm⟩⟩
  · have H := Aside0.mk (And.intro h0 (And.intro hR hm))
    clear h0 hR hm
    go_wp2
    go_ret2
    exact ⟨x, er, c', H.out.2.1, .inl ⟨H.out.1, rfl, H.out.2.2.start HB0.out HBs.out⟩⟩
  · have H := Aside0.mk (And.intro h0 (And.intro hR hm))
    clear h0 hR hm
    go_wp2
    go_ret2
    exact ⟨x, er, c', H.out.2.1, .inr ⟨H.out.1, rfl, H.out.2.2.start HB0.out HBs.out⟩⟩
end Go.Proofs.YtdmeocoehahopaaDoor.Draw
namespace Go.Proofs.YtdmeocoehahopaaDoor.Draw
open Go.RowKit Go.Proofs.YtdmeocoehahopaaDoorW.PrintWords Go.Proofs.YtdmeocoehahopaaDoorW.PrintLast Go.Proofs.YtdmeocoehahopaaDoorW.PrintMore Go.Proofs.YtdmeocoehahopaaDoor.K Go.Proofs.YtdmeocoehahopaaDoor.Sha Go.Proofs.YtdmeocoehahopaaDoor.Codec Go.Proofs.YtdmeocoehahopaaDoor.RI Go.Proofs.YtdmeocoehahopaaDoor.Sort Go.Proofs.YtdmeocoehahopaaDoor.Top Go.Proofs.YtdmeocoehahopaaDoor.Ten Go.Proofs.YtdmeocoehahopaaDoor.Fixed
set_option linter.unusedVariables false
set_option linter.unusedSimpArgs false
theorem below_one {d : List Int} {x er c' : Int} (h : BelowR d 1 4 x er c') : x = 0 ∧ er = 0 ∧ c' = 5 := by
  unfold BelowR belowV at h
  rw [if_neg (by decide)] at h
  have h1 : belowF d 1 64 4 = if (4 : Int) = 9223372036854775807 then (0, 17, 4) else if numV d 4 < endOf 1 then (numV d 4 % 1, 0, 4 + 1) else belowF d 1 63 (4 + 1) := rfl
  rw [h1, if_neg (by decide), if_pos (by have := numV_range d 4; unfold endOf; omega)] at h
  have h2 := congrArg Prod.fst h
  have h3 := congrArg (fun p => p.2.1) h
  have h4 := congrArg (fun p => p.2.2) h
  simp only at h2 h3 h4
  exact ⟨by rw [← h2]; omega, h3.symm, h4.symm⟩
theorem chk399 : checkV [3, 9, 9] = 0 := by decide
theorem ord399 : ((insOut (ltOf (cfV [3, 9, 9])) 0 ([3, 9, 9] : List Int).length.pred (places ([3, 9, 9] : List Int).length)).take 1).getD 0 0 = 1 := by decide
def Lo' (w : World) : Prop := Lo w.heap.size w
set_option maxHeartbeats 4000000 in
set_option maxRecDepth 100000 in
theorem awake_calls (B : Nat) (w : World) (hLo : Lo B w) :
    Calls Tryd.prog 13 #[] w fun e w' => e = .returned (.bool true) ∧ Below w.heap.size w w' := by
  have HLo0 := Aside0.mk hLo
  have HLo : Aside0 (Lo w.heap.size w) := ⟨hLo.f, hLo.c, Nat.lt_of_lt_of_le hLo.gf hLo.le, Nat.lt_of_lt_of_le hLo.gc hLo.le, Nat.le_refl _⟩
  have HD : Aside0 ((List.replicate 32 0 : List Int).length = 32) := ⟨rfl⟩
  have HDy : Aside0 (∀ x ∈ (List.replicate 32 0 : List Int), 0 ≤ x ∧ x < 256) := ⟨fun x hx => by rw [(List.mem_replicate.1 hx).2]; decide⟩
  clear hLo
  go_enter Tryd.func13, Tryd.ntmps13
  go_wp2_with (fail)
  rw [z32_lit]
  generalize hdd : List.replicate 32 (0 : Int) = d at *
  clear hdd
  refine (new_calls d 4 w HD.out (by decide)).mono ?_
  rintro e w1 ⟨g, rfl, hg, hs, hb⟩
  have HG := Aside0.mk hg
  have HS := Aside0.mk hs
  have HB := Aside0.mk hb
  clear hg hs hb
  go_wp2_with (fail)
  refine (Below_calls d 1 4 g w.heap.size w1 HD.out HDy.out HS.out (by decide) (by decide) (by decide) HG.out (HLo.out.below HB.out)).mono ?_
  rintro e w2 ⟨x, er, c', hR, hh⟩
  obtain ⟨rfl, rfl, rfl⟩ := below_one hR
  rcases hh with ⟨_, rfl, hm⟩ | ⟨h, _⟩
  · have HM := Aside0.mk hm
    clear hm hR
    go_wp2_with (fail)
    have HB2 : Aside0 (Below w2.heap.size w2 (w2.alloc (.cells #[.int .i64 3, .int .i64 9, .int .i64 9] 3))) := ⟨bel_alloc (Below.refl _ _) _⟩
    have HBx : Aside0 (Below w.heap.size w (w2.alloc (.cells #[.int .i64 3, .int .i64 9, .int .i64 9] 3))) := ⟨(HB.out.trans HM.out.bel).trans (HB2.out.mono (Nat.le_trans HB.out.size HM.out.bel.size))⟩
    have HC : Aside0 (Kd.C (Kd.int .i64) (w2.alloc (.cells #[.int .i64 3, .int .i64 9, .int .i64 9] 3)) (some ⟨w2.heap.size, 0, none⟩) ([3, 9, 9] : List Int).length [3, 9, 9]) := ⟨C_int (reads_lit w2 .i64 3 [3, 9, 9] (by decide))⟩
    refine (pickone_calls d (some ⟨w2.heap.size, 0, none⟩) 3 [3, 9, 9] _ 5 g w.heap.size _ HD.out (HM.out.at_.below HB2.out) HG.out HBx.out.size HC.out chk399 (ord_small [3, 9, 9] (by decide))).mono ?_
    rintro e w3 ⟨x, er, c', ⟨hx, rfl, rfl⟩, hh⟩
    obtain rfl : x = 1 := hx.trans ord399
    rcases hh with ⟨_, rfl, hm⟩ | ⟨h, _⟩
    · have HM3 := Aside0.mk hm
      clear hm hx
      go_wp2_with (refine (count_calls d 5 g w3 HD.out HM3.out.at_).mono ?_; rintro e w4 ⟨rfl, rfl⟩)
      go_ret
      exact ⟨rfl, HBx.out.trans HM3.out.bel⟩
    · exact absurd rfl h
  · exact absurd rfl h
end Go.Proofs.YtdmeocoehahopaaDoor.Draw
namespace Go.Proofs.YtdmeocoehahopaaDoor.Ref
open Go.RowKit Go.Proofs.YtdmeocoehahopaaDoorW.PrintWords Go.Proofs.YtdmeocoehahopaaDoorW.PrintLast Go.Proofs.YtdmeocoehahopaaDoorW.PrintMore Go.Proofs.YtdmeocoehahopaaDoor.K Go.Proofs.YtdmeocoehahopaaDoor.Codec
set_option linter.unusedVariables false
set_option maxHeartbeats 1000000 in
set_option maxRecDepth 100000 in
theorem rjoin_calls (A0 : Option Addr) (c0 : Nat) (l0 : List (List Int)) (w : World) (hr0 : Kd.C (Kd.slice 5 (Kd.int .u8)) w A0 l0.length l0) (hb : (joinL l0).length ≤ 140737488355328) :
    Calls Tryd.prog 26 #[.slice A0 l0.length c0] w fun e w' => ∃ v0_ : Value, e = .returned (v0_) ∧ Kd.R (Kd.int .u8) 5 w' w.heap.size (fun _ => True) v0_ (joinL l0) ∧ Below w.heap.size w w' := by
  have HR0 := Aside0.mk hr0
  have HBd := Aside0.mk hb
  have hm := hr0.2.1
  clear hr0 hb
  go_enter Tryd.func26, Tryd.ntmps26
  go_wp2
  go_loopw [3, 4] (fun v3 v4 w' => ∃ (k : Nat), k ≤ l0.length ∧ v4 = .int .i64 k ∧ Aside0 (w'.ownsRow w.heap.size 5 1 v3 (joinL (l0.take k)).length (nums .u8 (joinL (l0.take k)))) ∧ Aside0 (Below w.heap.size w w')) (fun _ v4 _ => l0.length - (intOf v4).toNat)
  case atStart => exact ⟨0, Nat.zero_le _, rfl, ⟨own_nil _ _ _ _⟩, ⟨Below.refl _ _⟩⟩
  case round =>
    obtain ⟨k, hk, rfl, HO, HB⟩ := hrel
    by_cases hlt : k < l0.length
    · obtain ⟨ad, A1, c1, rfl, hxa, hl1, hi1⟩ := row_get HR0.out k hlt
      have HX := Aside0.mk hxa
      have hx := hxa wr HB.out
      clear hxa
      have HS := Aside0.mk (joinL_snoc l0 k hlt)
      have HLe := Aside0.mk (joinL_le l0 (k + 1))
      have hm1 := hi1.2.1
      obtain ⟨A3, c3, rfl⟩ := own_slice HO.out
      generalize l0.getD k [] = p at *
      generalize hxs : joinL (l0.take k) = xs at *
      clear hxs
      have HR1 := Aside0.mk (reads_int hi1)
      have HLim : Aside0 (xs.length + 4 + p.length ≤ 140737488355328) := ⟨by
        have h1 := congrArg List.length HS.out
        have h2 := HLe.out
        have h3 := HBd.out
        simp only [List.length_append, be4, List.length_cons, List.length_nil] at h1
        omega⟩
      clear hi1 hl1
      go_wp2_with (first
        | (at_builtin; refine print_append_row (w0 := w) w.heap.size rfl (.tmp 17) (.tmp 33) 57 5 .u8 1 rfl Tryd.underlying57 info_u8 (by decide) (.slice A3 xs.length c3) xs (be4 p.length) (some ⟨wr.heap.size, 0, none⟩) 4 4 rfl rfl (HO.out.alloc _) (reads_lit wr .u8 5 (be4 p.length) (by simp [be4])) (bel_alloc HB.out _) (bel_size HB.out _) (by have := HLim.out; omega) ?_; intro v1 w1 ho hb hg hat; have HO1 := Aside0.mk ho; have HB1 := Aside0.mk hb; have hx1 := HX.out w1 hb; clear ho hb hg hat HO)
        | (at_builtin; refine print_append_row (w0 := w) w.heap.size rfl (.tmp 35) (.tmp 39) 57 5 .u8 1 rfl Tryd.underlying57 info_u8 (by decide) v1 (xs ++ be4 p.length) p A1 p.length c1 rfl rfl HO1.out (HR1.out.below HB1.out) HB1.out HB1.out.size (by have := HLim.out; simp only [List.length_append, be4, List.length_cons, List.length_nil]; omega) ?_; intro v2 w2 ho hb hg hat; have HO2 := Aside0.mk ho; have HB2 := Aside0.mk hb; clear ho hb hg hat))
      go_roundw
      case measure => simp [intOf]; omega
      case rel => exact ⟨k + 1, by omega, by go_num, ⟨by rw [HS.out]; exact HO2.out⟩, HB2⟩
    · obtain rfl : k = l0.length := by omega
      go_wp2
      go_ret
      exact ⟨_, rfl, R_int (by rw [← List.take_length (l := l0)]; simpa using HO.out), HB.out⟩
theorem rjoin_n (A0 : Option Addr) (n c0 : Nat) (l0 : List (List Int)) (w : World) (hr0 : Kd.C (Kd.slice 5 (Kd.int .u8)) w A0 n l0) (hb : (joinL l0).length ≤ 140737488355328) :
    Calls Tryd.prog 26 #[.slice A0 n c0] w fun e w' => ∃ v0_ : Value, e = .returned (v0_) ∧ Kd.R (Kd.int .u8) 5 w' w.heap.size (fun _ => True) v0_ (joinL l0) ∧ Below w.heap.size w w' := by
  obtain rfl := hr0.1
  exact rjoin_calls A0 c0 l0 w hr0 hb
end Go.Proofs.YtdmeocoehahopaaDoor.Ref
namespace Go.Proofs.YtdmeocoehahopaaDoor.Sha
open Go.RowKit Go.Proofs.YtdmeocoehahopaaDoorW.PrintWords Go.Proofs.YtdmeocoehahopaaDoorW.PrintLast Go.Proofs.YtdmeocoehahopaaDoorW.PrintMore Go.Proofs.YtdmeocoehahopaaDoor.K Go.Proofs.YtdmeocoehahopaaDoor.PDrawNumbers
set_option linter.unusedVariables false
theorem w64_in (x : Int) (h0 : -9223372036854775808 ≤ x) (h1 : x < 9223372036854775808) : wrap64 x = x := by
  rw [wrap64]
  omega
theorem rotr_nat (x : W32) (k : Nat) (h1 : 0 < k) (h2 : k < 32) : (rotr x k).toNat = (x.toNat / 2 ^ k + x.toNat * 2 ^ (32 - k)) % 4294967296 := by
  have hx := x.isLt
  have hp : 2 ^ k * 2 ^ (32 - k) = 4294967296 := by rw [← Nat.pow_add, show k + (32 - k) = 32 by omega]
  have hlt : x.toNat / 2 ^ k < 2 ^ (32 - k) := Nat.div_lt_of_lt_mul (by rw [hp]; exact hx)
  have hm : x.toNat * 2 ^ (32 - k) % 4294967296 = (x.toNat % 2 ^ k) * 2 ^ (32 - k) := by rw [← hp, Nat.mul_mod_mul_right]
  have hlt2 : x.toNat % 2 ^ k < 2 ^ k := Nat.mod_lt _ (Nat.two_pow_pos k)
  have hb : (x.toNat % 2 ^ k) * 2 ^ (32 - k) + x.toNat / 2 ^ k < 4294967296 := by
    have h3 : (x.toNat % 2 ^ k + 1) * 2 ^ (32 - k) ≤ 2 ^ k * 2 ^ (32 - k) := Nat.mul_le_mul_right _ hlt2
    rw [hp, Nat.add_mul, Nat.one_mul] at h3
    omega
  unfold rotr
  rw [BitVec.toNat_or, BitVec.toNat_ushiftRight, BitVec.toNat_shiftLeft, Nat.shiftRight_eq_div_pow, Nat.shiftLeft_eq, show (2 : Nat) ^ 32 = 4294967296 from rfl, hm, Nat.or_comm, ← Nat.shiftLeft_eq, ← Nat.shiftLeft_add_eq_or_of_lt hlt, Nat.shiftLeft_eq, Nat.add_mod, hm,
    Nat.mod_eq_of_lt (show x.toNat / 2 ^ k < 4294967296 by omega), Nat.add_comm (x.toNat / 2 ^ k), Nat.mod_eq_of_lt hb]
theorem turned_f (x : W32) (k : Nat) (h1 : 2 ≤ k) (h2 : k < 32) : cupelref01_turned.f (wi x) (k : Int) = some (wi (rotr x k)) := by
  have hx := x.isLt
  have e1 : wrap64 (32 - (k : Int)) = ((32 - k : Nat) : Int) := by rw [w64_in _ (by omega) (by omega)]; omega
  have hle : 2 ^ (32 - k) ≤ 2 ^ 30 := Nat.pow_le_pow_right (by decide) (by omega)
  have hmul : x.toNat * 2 ^ (32 - k) ≤ 4294967296 * 2 ^ 30 := Nat.mul_le_mul (by omega) hle
  have hdv : x.toNat / 2 ^ k ≤ x.toNat := Nat.div_le_self _ _
  have hr := rotr_nat x k (by omega) h2
  have hk : min k IntKind.i64.bits = k := Nat.min_eq_left (by show k ≤ 64; omega)
  have hk2 : min (32 - k) IntKind.i64.bits = 32 - k := Nat.min_eq_left (by show 32 - k ≤ 64; omega)
  have e2 : shr .i64 (wi x) (k : Int) = ((x.toNat / 2 ^ k : Nat) : Int) := by
    unfold wi
    simp [shr, hk]
  have e3 : shl .i64 (wi x) ((32 - k : Nat) : Int) = IntKind.i64.wrap ((x.toNat * 2 ^ (32 - k) : Nat) : Int) := by
    unfold wi
    simp only [shl, Int.toNat_natCast, hk2]
    first
    | (push_cast; rfl)
    | simp
  rw [cupelref01_turned.f, e1, e2, e3]
  generalize x.toNat / 2 ^ k = q at *
  generalize x.toNat * 2 ^ (32 - k) = m at *
  have hm4 : m ≤ 4611686018427387904 := by omega
  have e5 : IntKind.i64.wrap (m : Int) = (m : Int) := by rw [IntKind.wrap_i64]; omega
  rw [e5, if_pos (by omega), if_pos (by omega), w64_in _ (by omega) (by omega)]
  congr 1
  rw [wi, hr, show (4294967296 : Int) = ((4294967296 : Nat) : Int) from rfl, ← Int.natCast_add, ← Int.ofNat_tmod]
theorem i64_xor (x y : W32) : Go.bits .xor .i64 (wi x) (wi y) = wi (x ^^^ y) := by
  have h1 := x.isLt
  have h2 := y.isLt
  have h3 := (x ^^^ y).isLt
  rw [BitVec.toNat_xor] at h3
  show IntKind.i64.wrap ((BitVec.ofInt 64 (wi x) ^^^ BitVec.ofInt 64 (wi y)).toNat : Int) = _
  have e : ∀ z : W32, (BitVec.ofInt 64 (wi z)).toNat = z.toNat := fun z => by
    have := z.isLt
    unfold wi
    rw [BitVec.toNat_ofInt]
    omega
  rw [BitVec.toNat_xor, e, e, IntKind.wrap_i64, wi, BitVec.toNat_xor]
  omega
theorem i64_and (x y : W32) : Go.bits .and .i64 (wi x) (wi y) = wi (x &&& y) := by
  have h1 := x.isLt
  have h2 := y.isLt
  have h3 := (x &&& y).isLt
  rw [BitVec.toNat_and] at h3
  show IntKind.i64.wrap ((BitVec.ofInt 64 (wi x) &&& BitVec.ofInt 64 (wi y)).toNat : Int) = _
  have e : ∀ z : W32, (BitVec.ofInt 64 (wi z)).toNat = z.toNat := fun z => by
    have := z.isLt
    unfold wi
    rw [BitVec.toNat_ofInt]
    omega
  rw [BitVec.toNat_and, e, e, IntKind.wrap_i64, wi, BitVec.toNat_and]
  omega
theorem wi_not (x : W32) : 4294967295 - wi x = wi (~~~x) := by
  have := x.isLt
  unfold wi
  rw [BitVec.toNat_not]
  omega
theorem wi_add (x y : W32) : wi (x + y) = (wi x + wi y) % 4294967296 := by
  unfold wi
  rw [BitVec.toNat_add]
  omega
theorem ch_eq (e f g : W32) : (e &&& f) ^^^ (~~~e &&& g) = g ^^^ e &&& (f ^^^ g) := by
  apply BitVec.eq_of_getLsbD_eq
  intro i hi
  simp only [BitVec.getLsbD_xor, BitVec.getLsbD_and, BitVec.getLsbD_not, hi, decide_true, Bool.true_and]
  cases e.getLsbD i <;> cases f.getLsbD i <;> cases g.getLsbD i <;> rfl
theorem maj_eq (a b c : W32) : (a &&& b) ^^^ (a &&& c) ^^^ (b &&& c) = a &&& b ||| c &&& (a ||| b) := by
  apply BitVec.eq_of_getLsbD_eq
  intro i hi
  simp only [BitVec.getLsbD_xor, BitVec.getLsbD_and, BitVec.getLsbD_or]
  cases a.getLsbD i <;> cases b.getLsbD i <;> cases c.getLsbD i <;> rfl
end Go.Proofs.YtdmeocoehahopaaDoor.Sha
namespace Go.Proofs.YtdmeocoehahopaaDoor.Sha
open Go.RowKit Go.Proofs.YtdmeocoehahopaaDoorW.PrintWords Go.Proofs.YtdmeocoehahopaaDoorW.PrintLast Go.Proofs.YtdmeocoehahopaaDoorW.PrintMore Go.Proofs.YtdmeocoehahopaaDoor.K Go.Proofs.YtdmeocoehahopaaDoor.PDrawNumbers
set_option linter.unusedVariables false
theorem turned_q (x : W32) (k : Int) (w : World) (n : Nat) (h1 : 2 ≤ k) (h2 : k < 32) :
    Calls Tryd.prog 65 #[.int .i64 (wi x), .int .i64 k] (w.drewN n) fun e w' => e = .returned (.int .i64 (wi (rotr x k.toNat))) ∧ ∃ m, w' = w.drewN m := by
  obtain ⟨j, rfl⟩ := Int.eq_ofNat_of_zero_le (show 0 ≤ k by omega)
  refine (cupelref01_turned.calls (wi x) (j : Int) _ _ (turned_f x j (by omega) (by omega))).mono ?_
  rintro e w' ⟨he, m, hm⟩
  exact ⟨he, n + m, by rw [hm, World.drewN_drewN]⟩
theorem turned_p (x : W32) (k : Int) (w : World) (h1 : 2 ≤ k) (h2 : k < 32) :
    Calls Tryd.prog 65 #[.int .i64 (wi x), .int .i64 k] w fun e w' => e = .returned (.int .i64 (wi (rotr x k.toNat))) ∧ Drawn0 w w' := by
  obtain ⟨j, rfl⟩ := Int.eq_ofNat_of_zero_le (show 0 ≤ k by omega)
  exact cupelref01_turned.calls (wi x) (j : Int) _ _ (turned_f x j (by omega) (by omega))
def threeV (x : W32) (k0 k1 k2 : Nat) (down : Bool) : W32 := rotr x k0 ^^^ rotr x k1 ^^^ if down then x >>> k2 else rotr x k2
set_option maxHeartbeats 1000000 in
theorem three_calls (x : W32) (k0 k1 k2 : Nat) (down : Bool) (w : World) (h0 : 2 ≤ k0 ∧ k0 < 32) (h1 : 2 ≤ k1 ∧ k1 < 32) (h2 : 2 ≤ k2 ∧ k2 < 32) :
    Calls Tryd.prog 55 #[.int .i64 (wi x), .agg #[.int .i64 (k0 : Int), .int .i64 (k1 : Int), .int .i64 (k2 : Int)], .bool down] w fun e w' => e = .returned (.int .i64 (wi (threeV x k0 k1 k2 down))) ∧ Below w.heap.size w w' := by
  obtain ⟨a0, b0⟩ := h0
  obtain ⟨a1, b1⟩ := h1
  obtain ⟨a2, b2⟩ := h2
  have c0 : (2 : Int) ≤ k0 := by omega
  have c1 : (2 : Int) ≤ k1 := by omega
  have c2 : (2 : Int) ≤ k2 := by omega
  have d0 : (k0 : Int) < 32 := by omega
  have d1 : (k1 : Int) < 32 := by omega
  have d2 : (k2 : Int) < 32 := by omega
  have hsh : wi x / 2 ^ k2 = wi (x >>> k2) := u32_shr x k2
  have hk : min k2 IntKind.i64.bits = k2 := Nat.min_eq_left (by show k2 ≤ 64; omega)
  have HB : Aside0 (Below w.heap.size w (w.alloc (.cells #[.int .i64 (k0 : Int), .int .i64 (k1 : Int), .int .i64 (k2 : Int)] 92))) := ⟨bel_alloc (Below.refl _ _) _⟩
  have HT : Aside0 (∀ d, threeV x k0 k1 k2 d = rotr x k0 ^^^ rotr x k1 ^^^ if d then x >>> k2 else rotr x k2) := ⟨fun _ => rfl⟩
  go_enter Tryd.func55, Tryd.ntmps55
  go_wp2_with (fail)
  refine (turned_p x (k2 : Int) _ c2 d2).mono ?_
  rintro e w1 ⟨rfl, hd⟩
  rw [Int.toNat_natCast]
  have HB1 : Aside0 (Below w.heap.size w w1) := ⟨below_step HB.out hd.below⟩
  have g0 : w1.cell? ⟨w.heap.size, 0, none⟩ = some (.int .i64 (k0 : Int)) := by rw [drawn_cell hd, World.cell?, heap_alloc_new]; rfl
  have g1 : w1.cell? ⟨w.heap.size, 1, none⟩ = some (.int .i64 (k1 : Int)) := by rw [drawn_cell hd, World.cell?, heap_alloc_new]; rfl
  have g2 : w1.cell? ⟨w.heap.size, 2, none⟩ = some (.int .i64 (k2 : Int)) := by rw [drawn_cell hd, World.cell?, heap_alloc_new]; rfl
  clear hd
  have ax : ∀ p q : W32, Go.bits .xor .i64 (wi p) (wi q) = wi (p ^^^ q) := i64_xor
  cases down with
  | true =>
    go_wp2
    go_quiet ((go_at_call 65; exact turned_q _ _ _ _ (by assumption) (by assumption)))
    rw [Int.toNat_natCast, Int.toNat_natCast]
    go_wp2
    go_ret
    exact ⟨by rw [HT.out]; rfl, pw_below_drewN HB1.out _⟩
  | false =>
    go_wp2
    go_quiet ((go_at_call 65; exact turned_q _ _ _ _ (by assumption) (by assumption)))
    rw [Int.toNat_natCast, Int.toNat_natCast]
    go_wp2
    go_ret
    exact ⟨by rw [HT.out]; rfl, pw_below_drewN HB1.out _⟩
def nArr (l : List W32) : Array Value := (nums .i64 (l.map wi)).toArray
theorem nArr_one (l : List W32) : (nArr l).all (·.oneCell') = true := by
  rw [Array.all_eq_true_iff_forall_mem]
  intro v hv
  simp only [nArr, nums, List.mem_toArray, List.mem_map] at hv
  obtain ⟨x, _, rfl⟩ := hv
  rfl
theorem nArr_size (l : List W32) : (nArr l).size = l.length := by simp [nArr, nums]
theorem z64_lit : (#[.int .i64 0, .int .i64 0, .int .i64 0, .int .i64 0, .int .i64 0, .int .i64 0, .int .i64 0, .int .i64 0, .int .i64 0, .int .i64 0, .int .i64 0, .int .i64 0, .int .i64 0, .int .i64 0, .int .i64 0, .int .i64 0, .int .i64 0, .int .i64 0, .int .i64 0, .int .i64 0, .int .i64 0, .int .i64 0, .int .i64 0, .int .i64 0, .int .i64 0, .int .i64 0, .int .i64 0, .int .i64 0, .int .i64 0, .int .i64 0, .int .i64 0, .int .i64 0, .int .i64 0, .int .i64 0, .int .i64 0, .int .i64 0, .int .i64 0, .int .i64 0, .int .i64 0, .int .i64 0, .int .i64 0, .int .i64 0, .int .i64 0, .int .i64 0, .int .i64 0, .int .i64 0, .int .i64 0, .int .i64 0, .int .i64 0, .int .i64 0, .int .i64 0, .int .i64 0, .int .i64 0, .int .i64 0, .int .i64 0, .int .i64 0, .int .i64 0, .int .i64 0, .int .i64 0, .int .i64 0, .int .i64 0, .int .i64 0, .int .i64 0, .int .i64 0] : Array Value) = nArr (List.replicate 64 0) := by kernel_rfl
theorem kA_info : (Tryd.prog.info? 90).map (·.size) = some (nArr kL).size := by rw [nArr_size]; kernel_rfl
set_option maxRecDepth 100000 in
set_option maxHeartbeats 1000000 in
theorem constants_calls (w : World) :
    Calls Tryd.prog 56 #[] w fun e w' => e = .returned (.agg (nArr kL)) ∧ Below w.heap.size w w' := by
  have HK1 := Aside0.mk kA_info
  have HK2 := Aside0.mk (nArr_one kL)
  have HK3 : Aside0 ((nArr (List.replicate 64 0)).size = (nArr kL).size) := ⟨by rw [nArr_size, nArr_size]; rfl⟩
  go_enter Tryd.func56, Tryd.ntmps56
  go_wp2_with (first
    | (refine wpList_buildTo rfl 90 _ rfl (some 1) rfl (nArr kL) (by kernel_rfl) ?_; simp only [Act.put, List.setIfInBounds_toArray, List.set_cons_zero, List.set_cons_succ])
    | (rw [z64_lit]; with_reducible refine wpList_store_rowTo rfl 90 (.tmp 0) (.tmp 1) rfl rfl w.heap.size (nArr kL) rfl rfl 90 (nArr (List.replicate 64 0)) (heap_alloc_new _ _) HK1.out HK3.out HK2.out ?_; rw [World.setRow_alloc_new]; have HB : Aside0 (Below w.heap.size w (w.alloc (.cells (nArr kL) 90))) := ⟨bel_alloc (Below.refl _ _) _⟩; have HR : Aside0 ((w.alloc (.cells (nArr kL) 90)).heap[w.heap.size]? = some (.cells (nArr kL) 90 (0, 0))) := ⟨heap_alloc_new _ _⟩; generalize w.alloc (.cells (nArr kL) 90) = w1 at *))
  exact bodyPost_ret (results_cell_row Tryd.results56 _ _ w.heap.size 90 (nArr kL) (0, 0) _ rfl HR.out Tryd.underlying90 rfl HK1.out) rfl ⟨rfl, HB.out⟩
end Go.Proofs.YtdmeocoehahopaaDoor.Sha
