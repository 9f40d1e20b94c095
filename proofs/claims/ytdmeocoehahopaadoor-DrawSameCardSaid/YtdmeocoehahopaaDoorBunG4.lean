/- Texts put together: DrawS, DrawNext, DrawBack, DrawBelow, PickOne, DrawAwake, BelowC, ShaTab, OpenDig, Open, Laid, SumV, ChooseP, SymP, SymQ. -/
import Derived.Test.YtdmeocoehahopaaDoorBunG3
import Derived.Deep.MidRow
import Derived.OpenShut
import Derived.ChangeOld
import Derived.Deep.Matrix
import Derived.WalkKit
import Derived.ChangeAt
import Derived.ProofKit
import Derived.ShutString
import Derived.Below
import Derived.SizedLaws
import Derived.Test.YtdmeocoehahopaaDoorRows
import Derived.LaidMore
import Derived.MakeChecks
set_option linter.unusedVariables false
set_option linter.unusedSimpArgs false
namespace Go.Proofs.YtdmeocoehahopaaDoor.Draw
open Go.RowKit Go.Proofs.YtdmeocoehahopaaDoorW.PrintWords Go.Proofs.YtdmeocoehahopaaDoorW.PrintLast Go.Proofs.YtdmeocoehahopaaDoorW.PrintMore Go.Proofs.YtdmeocoehahopaaDoor.K Go.Proofs.YtdmeocoehahopaaDoor.Sha Go.Proofs.YtdmeocoehahopaaDoor.Codec Go.Proofs.YtdmeocoehahopaaDoor.RI
set_option linter.unusedVariables false
set_option linter.unusedSimpArgs false
/-- The tables lie where the program laid them, below B. -/
structure Lo (B : Nat) (W : World) : Prop where
  f : LaidAt W 1 firstA
  c : LaidAt W 2 constA
  gf : 1 < B
  gc : 2 < B
  le : B ≤ W.heap.size
theorem laid_below {B g : Nat} {W W' : World} {cs : Array Value} (h : LaidAt W g cs) (hg : g < B) (hb : Below B W W') : LaidAt W' g cs := by
  obtain ⟨t, fr, h1⟩ := h
  exact ⟨t, fr, (hb.block g hg).trans h1⟩
theorem Lo.below {B : Nat} {W W' : World} (h : Lo B W) (hb : Below B W W') : Lo B W' := ⟨laid_below h.f h.gf hb, laid_below h.c h.gc hb, h.gf, h.gc, Nat.le_trans h.le (by have := hb.size; omega)⟩
def strA (d : List Int) (c : Int) : Array Value := dA d ++ #[.int .i64 c]
def StrAt (W : World) (g : Nat) (d : List Int) (c : Int) : Prop := W.heap[g]? = some (.cells (strA d c) 55 (0, 0))
theorem len32 {d : List Int} (h : d.length = 32) : ∃ x0 x1 x2 x3 x4 x5 x6 x7 x8 x9 x10 x11 x12 x13 x14 x15 x16 x17 x18 x19 x20 x21 x22 x23 x24 x25 x26 x27 x28 x29 x30 x31 : Int, d = [x0, x1, x2, x3, x4, x5, x6, x7, x8, x9, x10, x11, x12, x13, x14, x15, x16, x17, x18, x19, x20, x21, x22, x23, x24, x25, x26, x27, x28, x29, x30, x31] := by
  iterate 32 (obtain ⟨_, d, rfl⟩ := List.exists_cons_of_length_eq_add_one h; replace h := Nat.succ.inj h)
  obtain rfl := List.length_eq_zero_iff.1 h
  exact ⟨_, _, _, _, _, _, _, _, _, _, _, _, _, _, _, _, _, _, _, _, _, _, _, _, _, _, _, _, _, _, _, _, rfl⟩
set_option maxRecDepth 100000 in
theorem run_build_str {d : List Int} (h : d.length = 32) (c : Int) (W : World) : (Instr.build 55 #[(0, .agg (dA d)), (1, .int .i64 c)]).run Tryd.prog W = .ok (.agg (strA d c)) W := by
  obtain ⟨x0, x1, x2, x3, x4, x5, x6, x7, x8, x9, x10, x11, x12, x13, x14, x15, x16, x17, x18, x19, x20, x21, x22, x23, x24, x25, x26, x27, x28, x29, x30, x31, rfl⟩ := len32 h
  kernel_rfl
def NumEnd (d : List Int) (c : Int) (e : Ending) : Prop := e = if c < 0 then .returned (.tuple #[.int .i64 0, .int .i64 10]) else .returned (.tuple #[.int .i64 (numV d c), .int .i64 0])
theorem numEnd_neg {d : List Int} {c : Int} (h : c < 0) : NumEnd d c (.returned (.tuple #[.int .i64 0, .int .i64 10])) := by unfold NumEnd; rw [if_pos h]
theorem numEnd_pos {d : List Int} {c : Int} (h : 0 ≤ c) : NumEnd d c (.returned (.tuple #[.int .i64 (numV d c), .int .i64 0])) := by unfold NumEnd; rw [if_neg (by omega)]
set_option maxHeartbeats 4000000 in
set_option maxRecDepth 100000 in
theorem Number_calls (d : List Int) (c : Int) (w : World) (hd : d.length = 32) (hby : ∀ x ∈ d, 0 ≤ x ∧ x < 256)
    (hLf : LaidAt w 1 firstA) (hL : LaidAt w 2 constA) :
    Calls Tryd.prog 11 #[.agg (dA d), .int .i64 c] w fun e w' => NumEnd d c e ∧ Below w.heap.size w w' := by
  have HBy := Aside0.mk hby
  have HDl := Aside0.mk hd
  have HLf := Aside0.mk hLf
  have HL := Aside0.mk hL
  have HI := Aside0.mk (dig_info hd)
  clear hLf hL hby hd
  by_cases hc : c < 0
  · go_enter Tryd.func11, Tryd.ntmps11
    go_wp2
    go_ret2
    exact ⟨numEnd_neg hc, bel_alloc (Below.refl _ _) _⟩
  · have HC : Aside0 (0 ≤ c) := ⟨by omega⟩
    go_enter Tryd.func11, Tryd.ntmps11
    have HB1 : Aside0 (Below w.heap.size w (w.alloc (.cells (dA d) 23))) := ⟨bel_alloc (Below.refl _ _) _⟩
    have HR1 : Aside0 ((w.alloc (.cells (dA d) 23)).heap[w.heap.size]? = some (.cells (dA d) 23 (0, 0))) := ⟨heap_alloc_new _ _⟩
    go_wp2_with (with_reducible refine wpList_load_row rfl 23 (.tmp 2) rfl w.heap.size rfl 23 (dA d) (0, 0) _ HR1.out Tryd.underlying23 rfl HI.out ?_)
    generalize w.alloc (.cells (dA d) 23) = w1 at *
    refine (number_calls d c w1 HDl.out HBy.out (HLf.out.below HB1.out) (HL.out.below HB1.out)).mono ?_
    rintro e w2 ⟨rfl, hb⟩
    have HB := Aside0.mk hb
    clear hb
    go_wp2_with (fail)
    go_ret2
    exact ⟨numEnd_pos HC.out, below_step HB1.out HB.out⟩
set_option maxHeartbeats 4000000 in
set_option maxRecDepth 100000 in
theorem new_neg_calls (d : List Int) (c : Int) (w : World) (hc : c < 0) :
    Calls Tryd.prog 12 #[.agg (dA d), .int .i64 c] w fun e w' => e = .returned (.tuple #[.pointer none, .int .i64 10]) ∧ Below w.heap.size w w' := by
  go_enter Tryd.func12, Tryd.ntmps12
  go_wp2
  go_ret2
  exact ⟨rfl, bel_alloc (Below.refl _ _) _⟩
set_option maxHeartbeats 4000000 in
set_option maxRecDepth 100000 in
theorem new_calls (d : List Int) (c : Int) (w : World) (hd : d.length = 32) (hc : ¬ c < 0) :
    Calls Tryd.prog 12 #[.agg (dA d), .int .i64 c] w fun e w' => ∃ g, e = .returned (.tuple #[.pointer (some ⟨g, 0, none⟩), .int .i64 0]) ∧ w.heap.size ≤ g ∧ StrAt w' g d c ∧ Below w.heap.size w w' := by
  have HI := Aside0.mk (dig_info hd)
  have HB1 : Aside0 (Below w.heap.size w (w.alloc (.cells (dA d) 23))) := ⟨bel_alloc (Below.refl _ _) _⟩
  have HR1 : Aside0 ((w.alloc (.cells (dA d) 23)).heap[w.heap.size]? = some (.cells (dA d) 23 (0, 0))) := ⟨heap_alloc_new _ _⟩
  obtain ⟨x0, x1, x2, x3, x4, x5, x6, x7, x8, x9, x10, x11, x12, x13, x14, x15, x16, x17, x18, x19, x20, x21, x22, x23, x24, x25, x26, x27, x28, x29, x30, x31, rfl⟩ := len32 hd
  have e : dA [x0, x1, x2, x3, x4, x5, x6, x7, x8, x9, x10, x11, x12, x13, x14, x15, x16, x17, x18, x19, x20, x21, x22, x23, x24, x25, x26, x27, x28, x29, x30, x31] = #[.int .u8 x0, .int .u8 x1, .int .u8 x2, .int .u8 x3, .int .u8 x4, .int .u8 x5, .int .u8 x6, .int .u8 x7, .int .u8 x8, .int .u8 x9, .int .u8 x10, .int .u8 x11, .int .u8 x12, .int .u8 x13, .int .u8 x14, .int .u8 x15, .int .u8 x16, .int .u8 x17, .int .u8 x18, .int .u8 x19, .int .u8 x20, .int .u8 x21, .int .u8 x22, .int .u8 x23, .int .u8 x24, .int .u8 x25, .int .u8 x26, .int .u8 x27, .int .u8 x28, .int .u8 x29, .int .u8 x30, .int .u8 x31] := rfl
  rw [e] at HI HB1 HR1 ⊢
  clear hd e
  have HE : Aside0 (StrAt ((w.alloc (.cells #[.int .u8 x0, .int .u8 x1, .int .u8 x2, .int .u8 x3, .int .u8 x4, .int .u8 x5, .int .u8 x6, .int .u8 x7, .int .u8 x8, .int .u8 x9, .int .u8 x10, .int .u8 x11, .int .u8 x12, .int .u8 x13, .int .u8 x14, .int .u8 x15, .int .u8 x16, .int .u8 x17, .int .u8 x18, .int .u8 x19, .int .u8 x20, .int .u8 x21, .int .u8 x22, .int .u8 x23, .int .u8 x24, .int .u8 x25, .int .u8 x26, .int .u8 x27, .int .u8 x28, .int .u8 x29, .int .u8 x30, .int .u8 x31] 23)).alloc (.cells #[.int .u8 x0, .int .u8 x1, .int .u8 x2, .int .u8 x3, .int .u8 x4, .int .u8 x5, .int .u8 x6, .int .u8 x7, .int .u8 x8, .int .u8 x9, .int .u8 x10, .int .u8 x11, .int .u8 x12, .int .u8 x13, .int .u8 x14, .int .u8 x15, .int .u8 x16, .int .u8 x17, .int .u8 x18, .int .u8 x19, .int .u8 x20, .int .u8 x21, .int .u8 x22, .int .u8 x23, .int .u8 x24, .int .u8 x25, .int .u8 x26, .int .u8 x27, .int .u8 x28, .int .u8 x29, .int .u8 x30, .int .u8 x31, .int .i64 c] 55)) (w.heap.size + 1) [x0, x1, x2, x3, x4, x5, x6, x7, x8, x9, x10, x11, x12, x13, x14, x15, x16, x17, x18, x19, x20, x21, x22, x23, x24, x25, x26, x27, x28, x29, x30, x31] c) := ⟨by
    have h := heap_alloc_new (w.alloc (.cells #[.int .u8 x0, .int .u8 x1, .int .u8 x2, .int .u8 x3, .int .u8 x4, .int .u8 x5, .int .u8 x6, .int .u8 x7, .int .u8 x8, .int .u8 x9, .int .u8 x10, .int .u8 x11, .int .u8 x12, .int .u8 x13, .int .u8 x14, .int .u8 x15, .int .u8 x16, .int .u8 x17, .int .u8 x18, .int .u8 x19, .int .u8 x20, .int .u8 x21, .int .u8 x22, .int .u8 x23, .int .u8 x24, .int .u8 x25, .int .u8 x26, .int .u8 x27, .int .u8 x28, .int .u8 x29, .int .u8 x30, .int .u8 x31] 23)) (.cells #[.int .u8 x0, .int .u8 x1, .int .u8 x2, .int .u8 x3, .int .u8 x4, .int .u8 x5, .int .u8 x6, .int .u8 x7, .int .u8 x8, .int .u8 x9, .int .u8 x10, .int .u8 x11, .int .u8 x12, .int .u8 x13, .int .u8 x14, .int .u8 x15, .int .u8 x16, .int .u8 x17, .int .u8 x18, .int .u8 x19, .int .u8 x20, .int .u8 x21, .int .u8 x22, .int .u8 x23, .int .u8 x24, .int .u8 x25, .int .u8 x26, .int .u8 x27, .int .u8 x28, .int .u8 x29, .int .u8 x30, .int .u8 x31, .int .i64 c] 55)
    rw [World.size_alloc] at h
    exact h⟩
  go_enter Tryd.func12, Tryd.ntmps12
  go_wp2_with (with_reducible refine wpList_load_row rfl 23 (.tmp 2) rfl w.heap.size rfl 23 _ (0, 0) _ HR1.out Tryd.underlying23 rfl HI.out ?_)
  go_ret2
  exact ⟨_, rfl, Nat.le_succ _, HE.out, bel_alloc HB1.out _⟩
theorem StrAt.below {W W' : World} {g : Nat} {d : List Int} {c : Int} (h : StrAt W g d c) (hb : Below W.heap.size W W') : StrAt W' g d c := (hb.block _ (blk_lt h)).trans h
theorem strA_last {d : List Int} (hd : d.length = 32) (c : Int) : (strA d c)[32]? = some (.int .i64 c) := by
  rw [strA, Array.getElem?_append_right (by rw [dA_size, hd]; exact Nat.le_refl _), dA_size, hd]
  rfl
theorem StrAt.count {W : World} {g : Nat} {d : List Int} {c : Int} (h : StrAt W g d c) (hd : d.length = 32) : W.cell? ⟨g, 32, none⟩ = some (.int .i64 c) := (blk_cell h 32).trans (strA_last hd c)
theorem StrAt.free {W : World} {g : Nat} {d : List Int} {c : Int} (h : StrAt W g d c) (j : Nat) : W.frozen? ⟨g, j, none⟩ = false := blk_frozen h j
theorem strA_set {d : List Int} (hd : d.length = 32) (c c' : Int) : (strA d c).setIfInBounds 32 (.int .i64 c') = strA d c' := by
  have e : (dA d).size = 32 := by rw [dA_size, hd]
  rw [strA, strA, ← e, Array.setIfInBounds_append_right (Nat.le_refl _), Nat.sub_self]
  rfl
theorem StrAt.set {W : World} {g : Nat} {d : List Int} {c : Int} (h : StrAt W g d c) (hd : d.length = 32) (c' : Int) : StrAt (W.setCell ⟨g, 32, none⟩ (.int .i64 c')) g d c' := by
  have h1 := blk_set h 32 (.int .i64 c')
  rw [strA_set hd] at h1
  exact h1
theorem StrAt.row {W : World} {g : Nat} {d : List Int} {c : Int} (h : StrAt W g d c) (hd : d.length = 32) : W.rangeAt g 0 (dA d).toList := fun j v hv => by
  rw [Nat.zero_add]
  have hj : j < 32 := by
    have := (List.getElem?_eq_some_iff.1 hv).1
    rw [Array.length_toList, dA_size, hd] at this
    exact this
  refine (blk_cell h j).trans ?_
  rw [strA, Array.getElem?_append_left (by rw [dA_size, hd]; exact hj)]
  simpa using hv
set_option maxHeartbeats 4000000 in
set_option maxRecDepth 100000 in
theorem count_calls (d : List Int) (c : Int) (g : Nat) (w : World) (hd : d.length = 32) (hS : StrAt w g d c) :
    Calls Tryd.prog 15 #[.pointer (some ⟨g, 0, none⟩)] w fun e w' => e = .returned (.int .i64 c) ∧ w = w' := by
  have h1 := hS.count hd
  clear hS hd
  go_enter Tryd.func15, Tryd.ntmps15
  go_wp2
  go_ret
  exact ⟨rfl, rfl⟩
set_option maxHeartbeats 4000000 in
theorem count_nil_calls (w : World) :
    Calls Tryd.prog 15 #[.pointer none] w fun e w' => e = .returned (.int .i64 0) ∧ w = w' := by
  go_enter Tryd.func15, Tryd.ntmps15
  go_wp2
  go_ret
  exact ⟨rfl, rfl⟩
set_option maxHeartbeats 4000000 in
set_option maxRecDepth 100000 in
theorem next_over_calls (d : List Int) (g : Nat) (w : World) (hd : d.length = 32) (hS : StrAt w g d 9223372036854775807) :
    Calls Tryd.prog 29 #[.pointer (some ⟨g, 0, none⟩)] w fun e w' => e = .returned (.tuple #[.int .i64 0, .int .i64 17]) ∧ w = w' := by
  have h1 := hS.count hd
  clear hS hd
  go_enter Tryd.func29, Tryd.ntmps29
  go_wp2
  go_ret2
  exact ⟨rfl, rfl⟩
end Go.Proofs.YtdmeocoehahopaaDoor.Draw
namespace Go.Proofs.YtdmeocoehahopaaDoor.Draw
open Go.RowKit Go.Proofs.YtdmeocoehahopaaDoorW.PrintWords Go.Proofs.YtdmeocoehahopaaDoorW.PrintLast Go.Proofs.YtdmeocoehahopaaDoorW.PrintMore Go.Proofs.YtdmeocoehahopaaDoor.K Go.Proofs.YtdmeocoehahopaaDoor.Sha Go.Proofs.YtdmeocoehahopaaDoor.Codec Go.Proofs.YtdmeocoehahopaaDoor.RI
set_option linter.unusedVariables false
set_option linter.unusedSimpArgs false
def NextF (d : List Int) (c : Int) (g : Nat) (iv : Nat) (xv : Value) (W : World) : Prop := match iv with
  | 0 => xv = .pointer (some ⟨g, 0, none⟩)
  | 1 => xv = .pointer (some ⟨g, 0, none⟩)
  | 2 => xv = .pointer (some ⟨g, 0, none⟩)
  | 3 => xv = .agg (dA d)
  | 4 => xv = .pointer (some ⟨g, 0, none⟩)
  | 5 => xv = .pointer (some ⟨g, 0, none⟩)
  | 6 => xv = .pointer (some ⟨g, 32, none⟩)
  | 7 => xv = .int .i64 (c + 1)
  | 8 => xv = .int .i64 c
  | 9 => xv = .int .i64 (numV d c)
  | 10 => xv = .int .i64 (numV d c)
  | 11 => xv = .int .i64 0
  | _ => True
theorem NextF.step (d : List Int) (c : Int) (g : Nat) (i : Nat) (x : Value) (W W' : World) (hb : Below W.heap.size W W') (h : NextF d c g i x W) : NextF d c g i x W' := by
  unfold NextF at *
  split <;> simp only at h ⊢
  · exact h
  · exact h
  · exact h
  · exact h
  · exact h
  · exact h
  · exact h
  · exact h
  · exact h
  · exact h
  · exact h
  · exact h
set_option maxHeartbeats 4000000 in
set_option maxRecDepth 100000 in
theorem next_calls (d : List Int) (c : Int) (g B : Nat) (w : World) (hd : d.length = 32) (hby : ∀ x ∈ d, 0 ≤ x ∧ x < 256) (hS : StrAt w g d c) (h0 : 0 ≤ c) (h1 : c < 9223372036854775807) (hB : B ≤ g) (hLo : Lo B w) :
    Calls Tryd.prog 29 #[.pointer (some ⟨g, 0, none⟩)] w fun e w' => e = .returned (.tuple #[.int .i64 (numV d c), .int .i64 0]) ∧ StrAt w' g d (c + 1) ∧ KeepBut w w' g none ∧ Below B w w' := by
  have HBy := Aside0.mk hby
  have HDl := Aside0.mk hd
  have HI : Aside0 ((Tryd.prog.info? 23).map (·.size) = some (dA d).toList.length) := ⟨by rw [Array.length_toList]; exact dig_info hd⟩
  have hc := hS.count hd
  have hf := hS.free 32
  have hne : (c == 9223372036854775807) = false := by simp; omega
  have hw : IntKind.i64.wrap (c + 1) = c + 1 := by rw [IntKind.wrap_i64]; omega
  have hw2 : wrap64 c = c := by unfold wrap64; omega
  have HW2 := Aside0.mk hw2
  have HS1 : Aside0 (StrAt (w.setCell ⟨g, 32, none⟩ (.int .i64 (c + 1))) g d (c + 1)) := ⟨hS.set hd _⟩
  have HKb : Aside0 (KeepBut w (w.setCell ⟨g, 32, none⟩ (.int .i64 (c + 1))) g none) := ⟨KeepBut.set_ (KeepBut.refl _ _ _) _ _⟩
  have HBb : Aside0 (Below B w (w.setCell ⟨g, 32, none⟩ (.int .i64 (c + 1)))) := ⟨Below.setCell (Below.refl _ _) hB _⟩
  have HLo : Aside0 (Lo B (w.setCell ⟨g, 32, none⟩ (.int .i64 (c + 1)))) := ⟨hLo.below HBb.out⟩
  clear hby hd hS h0 h1 hw2 hLo hB
  go_enter Tryd.func29, Tryd.ntmps29
  go_upto_region 4 with (fail)
  clear hc hf hne hw
  generalize w.setCell ⟨g, 32, none⟩ (.int .i64 (c + 1)) = w1 at *
  have HRow : Aside0 (∀ W, Below w1.heap.size w1 W → W.rangeAt g 0 (dA d).toList) := ⟨fun W hb => (HS1.out.below hb).row HDl.out⟩
  have HCell : Aside0 (∀ W, Below w1.heap.size w1 W → W.cell? ⟨g, 32, none⟩ = some (.int .i64 (c + 1))) := ⟨fun W hb => (HS1.out.below hb).count HDl.out⟩
  refine wp_region_fin [false, false, true, true, false, false, false, false, false, false, false, false, false, false, false, false, true, true, true, true, true, true, true, true, true, true] (by kernel_rfl) (by kernel_rfl) (fun W => Below w1.heap.size w1 W) (fun W W' => Below W.heap.size W W') (NextF d c g) (fun iv xv W W' _ hb h => NextF.step d c g iv xv W W' hb h) (below_drew (Below.refl _ _)) ?_ ?_
  · refine ⟨?_, ?_, ?_, ?_, ?_, ?_, ?_, ?_, ?_, ?_, ?_, ?_, trivial⟩
    · intro v W hb hd
      refine step_list fun K hK => ?_
      simp only [fill_lit, fillL, Act.put, List.setIfInBounds_toArray, List.set_cons_zero, List.set_cons_succ, Nat.reduceAdd] at hK ⊢
      clear hd
      go_wp2
      exact ⟨hb, Below.refl _ _, rfl⟩
    · intro v W hb hd
      have h0 : v 16 = .pointer (some ⟨g, 0, none⟩) := hd 0 (by kernel_rfl)
      refine step_list fun K hK => ?_
      simp only [fill_lit, fillL, Act.put, List.setIfInBounds_toArray, List.set_cons_zero, List.set_cons_succ, Nat.reduceAdd] at hK ⊢
      rw [h0] at hK ⊢
      clear hd h0
      go_wp2
      exact ⟨hb, Below.refl _ _, rfl⟩
    · intro v W hb hd
      have h1 : v 17 = .pointer (some ⟨g, 0, none⟩) := hd 1 (by kernel_rfl)
      refine step_list fun K hK => ?_
      simp only [fill_lit, fillL, Act.put, List.setIfInBounds_toArray, List.set_cons_zero, List.set_cons_succ, Nat.reduceAdd] at hK ⊢
      rw [h1] at hK ⊢
      clear hd h1
      go_wp2
      exact ⟨hb, Below.refl _ _, rfl⟩
    · intro v W hb hd
      have hrow := HRow.out W hb
      have h2 : v 18 = .pointer (some ⟨g, 0, none⟩) := hd 2 (by kernel_rfl)
      refine step_list fun K hK => ?_
      simp only [fill_lit, fillL, Act.put, List.setIfInBounds_toArray, List.set_cons_zero, List.set_cons_succ, Nat.reduceAdd] at hK ⊢
      rw [h2] at hK ⊢
      clear hd h2
      go_wp2_with (refine wpList_load_mid rfl 23 (.tmp 18) rfl g 0 rfl (dA d).toList _ hrow Tryd.underlying23 rfl HI.out ?_; rw [Array.toArray_toList])
      exact ⟨hb, Below.refl _ _, rfl⟩
    · intro v W hb hd
      refine step_list fun K hK => ?_
      simp only [fill_lit, fillL, Act.put, List.setIfInBounds_toArray, List.set_cons_zero, List.set_cons_succ, Nat.reduceAdd] at hK ⊢
      clear hd
      go_wp2
      exact ⟨hb, Below.refl _ _, rfl⟩
    · intro v W hb hd
      have h4 : v 20 = .pointer (some ⟨g, 0, none⟩) := hd 4 (by kernel_rfl)
      refine step_list fun K hK => ?_
      simp only [fill_lit, fillL, Act.put, List.setIfInBounds_toArray, List.set_cons_zero, List.set_cons_succ, Nat.reduceAdd] at hK ⊢
      rw [h4] at hK ⊢
      clear hd h4
      go_wp2
      exact ⟨hb, Below.refl _ _, rfl⟩
    · intro v W hb hd
      have h5 : v 21 = .pointer (some ⟨g, 0, none⟩) := hd 5 (by kernel_rfl)
      refine step_list fun K hK => ?_
      simp only [fill_lit, fillL, Act.put, List.setIfInBounds_toArray, List.set_cons_zero, List.set_cons_succ, Nat.reduceAdd] at hK ⊢
      rw [h5] at hK ⊢
      clear hd h5
      go_wp2
      exact ⟨hb, Below.refl _ _, rfl⟩
    · intro v W hb hd
      have hcell := HCell.out W hb
      have h6 : v 22 = .pointer (some ⟨g, 32, none⟩) := hd 6 (by kernel_rfl)
      refine step_list fun K hK => ?_
      simp only [fill_lit, fillL, Act.put, List.setIfInBounds_toArray, List.set_cons_zero, List.set_cons_succ, Nat.reduceAdd] at hK ⊢
      rw [h6] at hK ⊢
      clear hd h6
      go_wp2
      exact ⟨hb, Below.refl _ _, rfl⟩
    · intro v W hb hd
      have h7 : v 23 = .int .i64 (c + 1) := hd 7 (by kernel_rfl)
      refine step_list fun K hK => ?_
      simp only [fill_lit, fillL, Act.put, List.setIfInBounds_toArray, List.set_cons_zero, List.set_cons_succ, Nat.reduceAdd] at hK ⊢
      rw [h7] at hK ⊢
      clear hd h7
      go_wp2
      exact ⟨hb, Below.refl _ _, congrArg (Value.int .i64) HW2.out⟩
    · intro v W hb hd
      have h3 : v 19 = .agg (dA d) := hd 3 (by kernel_rfl)
      have h8 : v 24 = .int .i64 c := hd 8 (by kernel_rfl)
      refine step_list fun K hK => ?_
      simp only [fill_lit, fillL, Act.put, List.setIfInBounds_toArray, List.set_cons_zero, List.set_cons_succ, Nat.reduceAdd] at hK ⊢
      rw [h3, h8] at hK ⊢
      clear hd h3 h8
      go_wp2_with (fail)
      refine (number_calls d c W HDl.out HBy.out (HLo.out.f.below hb) (HLo.out.c.below hb)).mono ?_
      rintro e W' ⟨rfl, hb'⟩
      have HB' := Aside0.mk hb'
      clear hb'
      go_wp2_with (fail)
      exact ⟨below_step hb HB'.out, HB'.out, rfl⟩
    · intro v W hb hd
      have h9 : v 25 = .int .i64 (numV d c) := hd 9 (by kernel_rfl)
      refine step_list fun K hK => ?_
      simp only [fill_lit, fillL, Act.put, List.setIfInBounds_toArray, List.set_cons_zero, List.set_cons_succ, Nat.reduceAdd] at hK ⊢
      rw [h9] at hK ⊢
      clear hd h9
      go_wp2
      exact ⟨hb, Below.refl _ _, rfl⟩
    · intro v W hb hd
      refine step_list fun K hK => ?_
      simp only [fill_lit, fillL, Act.put, List.setIfInBounds_toArray, List.set_cons_zero, List.set_cons_succ, Nat.reduceAdd] at hK ⊢
      clear hd
      go_wp2
      exact ⟨hb, Below.refl _ _, rfl⟩
  · intro v W hb hF
    have h10 : v 2 = .int .i64 (numV d c) := hF 10 (of_decide_eq_true (by kernel_rfl))
    have h11 : v 3 = .int .i64 0 := hF 11 (of_decide_eq_true (by kernel_rfl))
    simp only [fill_lit, fillL, Nat.reduceAdd]
    rw [h10, h11]
    clear hF h10 h11
    go_wp2
    go_ret2
    exact ⟨rfl, HS1.out.below hb, HKb.out.trans (KeepBut.of_below hb g none) (.inl rfl), HBb.out.trans (hb.mono (HLo.out.le))⟩
end Go.Proofs.YtdmeocoehahopaaDoor.Draw
namespace Go.Proofs.YtdmeocoehahopaaDoor.Draw
open Go.RowKit Go.Proofs.YtdmeocoehahopaaDoorW.PrintWords Go.Proofs.YtdmeocoehahopaaDoorW.PrintLast Go.Proofs.YtdmeocoehahopaaDoorW.PrintMore Go.Proofs.YtdmeocoehahopaaDoor.K Go.Proofs.YtdmeocoehahopaaDoor.Sha Go.Proofs.YtdmeocoehahopaaDoor.Codec Go.Proofs.YtdmeocoehahopaaDoor.RI
set_option linter.unusedVariables false
set_option linter.unusedSimpArgs false
set_option maxHeartbeats 4000000 in
theorem back_nil_calls (f : Value) (w : World) :
    Calls Tryd.prog 28 #[.pointer none, f] w fun e w' => e = .returned (.tuple #[.int .i64 0, .int .i64 2]) ∧ w = w' := by
  go_enter Tryd.func28, Tryd.ntmps28
  go_wp2
  go_ret2
  exact ⟨rfl, rfl⟩
/-- A stream has moved, and nothing else but what is new. -/
structure Moved (B g : Nat) (d : List Int) (w w' : World) (c : Int) : Prop where
  at_ : StrAt w' g d c
  keep : KeepBut w w' g none
  bel : Below B w w'
theorem Moved.refl {B g : Nat} {d : List Int} {w : World} {c : Int} (h : StrAt w g d c) : Moved B g d w w c := ⟨h, KeepBut.refl _ _ _, Below.refl _ _⟩
theorem Moved.trans {B g : Nat} {d : List Int} {w w1 w2 : World} {c1 c2 : Int} (h : Moved B g d w w1 c1) (k : Moved B g d w1 w2 c2) : Moved B g d w w2 c2 := ⟨k.at_, h.keep.trans k.keep (.inl rfl), h.bel.trans k.bel⟩
theorem Moved.below {B g : Nat} {d : List Int} {w w1 w2 : World} {c : Int} (h : Moved B g d w w1 c) (hB : B ≤ w.heap.size) (k : Below w1.heap.size w1 w2) : Moved B g d w w2 c :=
  ⟨h.at_.below k, h.keep.trans (KeepBut.of_below k g none) (.inl rfl), h.bel.trans (k.mono (Nat.le_trans hB h.bel.size))⟩
theorem Moved.of_below {B g : Nat} {d : List Int} {w w1 : World} {c : Int} (h : StrAt w g d c) (hB : B ≤ w.heap.size) (k : Below w.heap.size w w1) : Moved B g d w w1 c := (Moved.refl h).below hB k
theorem Moved.start {B g : Nat} {d : List Int} {w0 w w1 : World} {c : Int} (h : Moved B g d w w1 c) (hb : Below w0.heap.size w0 w) (hB : B ≤ w0.heap.size) : Moved B g d w0 w1 c :=
  ⟨h.at_, (KeepBut.of_below hb g none).trans h.keep (.inl rfl), (hb.mono hB).trans h.bel⟩
theorem Moved.set {B g : Nat} {d : List Int} {w w1 : World} {c : Int} (h : Moved B g d w w1 c) (hd : d.length = 32) (hB : B ≤ g) (c' : Int) : Moved B g d w (w1.setCell ⟨g, 32, none⟩ (.int .i64 c')) c' :=
  ⟨h.at_.set hd c', h.keep.set_ _ _, h.bel.setCell hB _⟩
def BackEnd (B g : Nat) (d : List Int) (c : Int) (R : Int → Int → Int → Prop) (w : World) (e : Ending) (w' : World) : Prop :=
  ∃ x er c', R x er c' ∧ ((er = 0 ∧ e = .returned (.tuple #[.int .i64 x, .int .i64 0]) ∧ Moved B g d w w' c') ∨ (er ≠ 0 ∧ e = .returned (.tuple #[.int .i64 0, .int .i64 er]) ∧ Moved B g d w w' c))
set_option maxHeartbeats 4000000 in
set_option maxRecDepth 100000 in
theorem back_calls (fid : Nat) (fa lb : Array Value) (B : Nat) (d : List Int) (c : Int) (g : Nat) (w : World) (hd : d.length = 32) (hS : StrAt w g d c) (hB : B ≤ g) (eg : ∀ args w, (callFunc fid args).run Tryd.prog w = .ok (.enter fid args) w)
    (R : Int → Int → Int → Prop) (hcall : Calls Tryd.prog fid (fa ++ lb) w fun e w' => ∃ x er c', R x er c' ∧ e = .returned (.tuple #[.int .i64 x, .int .i64 er]) ∧ Moved B g d w w' c') :
    Calls Tryd.prog 28 #[.pointer (some ⟨g, 0, none⟩), .func (.func fid) fa lb] w (BackEnd B g d c R w) := by
  have h1 := hS.count hd
  have HC := Aside0.mk hcall
  have HD := Aside0.mk hd
  have HB := Aside0.mk hB
  clear hS hcall hd hB
  go_enter Tryd.func28, Tryd.ntmps28
  go_wp2_with (fail)
  refine HC.out.mono ?_
  rintro e w' ⟨x, er, c', hR, rfl, hm⟩
  have HR := Aside0.mk hR
  have HM := Aside0.mk hm
  have h2 := hm.at_.count HD.out
  have h3 := hm.at_.free 32
  clear hR hm h1
  by_cases h0 : er = 0
  · subst h0
    go_wp2
    go_ret2
    exact ⟨x, 0, c', HR.out, .inl ⟨rfl, rfl, HM.out⟩⟩
  · have h4 : (er != 0) = true := by simpa using h0
    have H0 := Aside0.mk h0
    clear h0
    go_wp2
    go_ret2
    exact ⟨x, er, c', HR.out, .inr ⟨H0.out, rfl, HM.out.set HD.out HB.out c⟩⟩
/-- The next number, or that there is none. -/
def nextV (d : List Int) (c x er c' : Int) : Prop := if c = 9223372036854775807 then x = 0 ∧ er = 17 ∧ c' = c else x = numV d c ∧ er = 0 ∧ c' = c + 1
theorem nextm_calls (d : List Int) (c : Int) (g B : Nat) (w : World) (hd : d.length = 32) (hby : ∀ x ∈ d, 0 ≤ x ∧ x < 256) (hS : StrAt w g d c) (h0 : 0 ≤ c) (h1 : c ≤ 9223372036854775807) (hB : B ≤ g) (hLo : Lo B w) :
    Calls Tryd.prog 29 #[.pointer (some ⟨g, 0, none⟩)] w fun e w' => ∃ x er c', nextV d c x er c' ∧ e = .returned (.tuple #[.int .i64 x, .int .i64 er]) ∧ Moved B g d w w' c' := by
  by_cases hc : c = 9223372036854775807
  · subst hc
    refine (next_over_calls d g w hd hS).mono ?_
    rintro e w' ⟨rfl, rfl⟩
    exact ⟨_, _, _, by unfold nextV; rw [if_pos rfl]; exact ⟨rfl, rfl, rfl⟩, rfl, Moved.refl hS⟩
  · refine (next_calls d c g B w hd hby hS h0 (by omega) hB hLo).mono ?_
    rintro e w' ⟨rfl, h2, h3, h4⟩
    exact ⟨_, _, _, by unfold nextV; rw [if_neg hc]; exact ⟨rfl, rfl, rfl⟩, rfl, h2, h3, h4⟩
set_option maxHeartbeats 4000000 in
set_option maxRecDepth 100000 in
theorem Next_calls (d : List Int) (c : Int) (g B : Nat) (w : World) (hd : d.length = 32) (hby : ∀ x ∈ d, 0 ≤ x ∧ x < 256) (hS : StrAt w g d c) (h0 : 0 ≤ c) (h1 : c ≤ 9223372036854775807) (hB : B ≤ g) (hLo : Lo B w) :
    Calls Tryd.prog 16 #[.pointer (some ⟨g, 0, none⟩)] w (BackEnd B g d c (nextV d c) w) := by
  have HC := Aside0.mk (back_calls 29 #[.pointer (some ⟨g, 0, none⟩)] #[] B d c g w hd hS hB (enters_ Tryd.func29 (by kernel_rfl) rfl) (nextV d c) (nextm_calls d c g B w hd hby hS h0 h1 hB hLo))
  clear hd hby hS h0 h1 hB hLo
  go_enter Tryd.func16, Tryd.ntmps16
  go_wp2_with (fail)
  refine HC.out.mono ?_
  rintro e w' ⟨x, er, c', hR, ⟨h0, rfl, hm⟩ | ⟨h0, rfl, hm⟩⟩
  · have H := Aside0.mk (And.intro h0 (And.intro hR hm))
    clear h0 hR hm
    go_wp2
    go_ret2
    exact ⟨x, er, c', H.out.2.1, .inl ⟨H.out.1, rfl, H.out.2.2⟩⟩
  · have H := Aside0.mk (And.intro h0 (And.intro hR hm))
    clear h0 hR hm
    go_wp2
    go_ret2
    exact ⟨x, er, c', H.out.2.1, .inr ⟨H.out.1, rfl, H.out.2.2⟩⟩
set_option maxHeartbeats 4000000 in
theorem Next_nil_calls (w : World) :
    Calls Tryd.prog 16 #[.pointer none] w fun e w' => e = .returned (.tuple #[.int .i64 0, .int .i64 2]) ∧ w = w' := by
  go_enter Tryd.func16, Tryd.ntmps16
  go_wp2_with (fail)
  refine (back_nil_calls _ w).mono ?_
  rintro e w' ⟨rfl, rfl⟩
  go_wp2
  go_ret2
  exact ⟨rfl, rfl⟩
end Go.Proofs.YtdmeocoehahopaaDoor.Draw
namespace Go.Proofs.YtdmeocoehahopaaDoor.Draw
open Go.RowKit Go.Proofs.YtdmeocoehahopaaDoorW.PrintWords Go.Proofs.YtdmeocoehahopaaDoorW.PrintLast Go.Proofs.YtdmeocoehahopaaDoorW.PrintMore Go.Proofs.YtdmeocoehahopaaDoor.K Go.Proofs.YtdmeocoehahopaaDoor.Sha Go.Proofs.YtdmeocoehahopaaDoor.Codec Go.Proofs.YtdmeocoehahopaaDoor.RI
set_option linter.unusedVariables false
set_option linter.unusedSimpArgs false
def endOf (n : Int) : Int := 9223372036854775808 - 9223372036854775808 % n
/-- What is drawn below a number: the number, what is wrong, how far the stream stands behind it. -/
def belowF (d : List Int) (n : Int) : Nat → Int → Int × Int × Int
  | 0, c => (0, 14, c)
  | k + 1, c => if c = 9223372036854775807 then (0, 17, c) else if numV d c < endOf n then (numV d c % n, 0, c + 1) else belowF d n k (c + 1)
def belowV (d : List Int) (n c : Int) : Int × Int × Int := if n < 1 then (0, 10, c) else belowF d n 64 c
def BelowR (d : List Int) (n c x er c' : Int) : Prop := belowV d n c = (x, er, c')
set_option maxHeartbeats 4000000 in
set_option maxRecDepth 100000 in
theorem below1_calls (d : List Int) (n c : Int) (g B Bn Bs : Nat) (w : World) (hd : d.length = 32) (hby : ∀ x ∈ d, 0 ≤ x ∧ x < 256) (hS : StrAt w g d c) (h0 : 0 ≤ c) (h1 : c ≤ 9223372036854775807) (hn : n ≤ 9223372036854775807) (hB : B ≤ g) (hLo : Lo B w)
    (hbn : w.heap[Bn]? = some (.cells #[.int .i64 n] 3 (0, 0))) (hbs : w.heap[Bs]? = some (.cells #[.pointer (some ⟨g, 0, none⟩)] 27 (0, 0))) :
    Calls Tryd.prog 30 #[.pointer (some ⟨Bn, 0, none⟩), .pointer (some ⟨Bs, 0, none⟩)] w fun e w' => ∃ x er c', BelowR d n c x er c' ∧ e = .returned (.tuple #[.int .i64 x, .int .i64 er]) ∧ Moved B g d w w' c' := by
  have hcn := blk_cell hbn 0
  have hcs := blk_cell hbs 0
  simp only [List.getElem?_toArray, List.getElem?_cons_zero] at hcn hcs
  by_cases hlt : n < 1
  · have H := Aside0.mk (Moved.refl (B := B) hS)
    have H2 : Aside0 (BelowR d n c 0 10 c) := ⟨by unfold BelowR belowV; rw [if_pos hlt]⟩
    have hltD : decide (n < 1) = true := by simpa using hlt
    clear hd hby hS h0 h1 hn hB hLo hbn hbs
    go_enter Tryd.func30, Tryd.ntmps30
    go_wp2
    go_step3
    go_wp2
    rw [Exit.noGoto_ret]
    go_ret2
    exact ⟨_, _, _, H2.out, rfl, H.out⟩
  · have hltD : decide (n < 1) = false := by simpa using hlt
    have hwn : IntKind.u64.wrap n = n := by rw [IntKind.wrap_u64]; omega
    have hge : ∃ E, E = endOf n := ⟨_, rfl⟩
    obtain ⟨E, hE⟩ := hge
    have he0 : (0 : Int) ≤ 9223372036854775808 % n ∧ 9223372036854775808 % n ≤ 9223372036854775808 := ⟨Int.emod_nonneg _ (by omega), by have := Int.emod_lt_of_pos (9223372036854775808 : Int) (show 0 < n by omega); omega⟩
    have hwe : IntKind.u64.wrap (9223372036854775808 - 9223372036854775808 % n) = E := by rw [hE, endOf, IntKind.wrap_u64]; omega
    have HD := Aside0.mk hd
    have HBy := Aside0.mk hby
    have HS := Aside0.mk hS
    have H0 := Aside0.mk h0
    have H1 := Aside0.mk h1
    have HB := Aside0.mk hB
    have HLo := Aside0.mk hLo
    have HBn := Aside0.mk hbn
    have HBs := Aside0.mk hbs
    have HE := Aside0.mk hE
    have HN : Aside0 (0 < n) := ⟨by omega⟩
    have HV : Aside0 (∀ x er c', belowF d n 64 c = (x, er, c') → BelowR d n c x er c') := ⟨fun x er c' h => by unfold BelowR belowV; rw [if_neg hlt]; exact h⟩
    have HNn : Aside0 (Bn ≠ g) := ⟨blk_ne hbn hS (by decide)⟩
    have HNs : Aside0 (Bs ≠ g) := ⟨blk_ne hbs hS (by decide)⟩
    have hn1 : 1 ≤ n := by omega
    clear hd hby hS h0 h1 hn hB hLo hbn hbs hE hlt
    go_enter Tryd.func30, Tryd.ntmps30
    go_wp2_with (fail)
    go_step3
    go_wp2_with (fail)
    go_step3
    go_wp2_with (fail)
    clear hwn hwe hltD he0 hcn hcs
    go_loopw [16] (fun i wr => ∃ k : Nat, k ≤ 64 ∧ i = .int .i64 k ∧ Aside0 (belowF d n 64 c = belowF d n (64 - k) (c + k) ∧ c + k ≤ 9223372036854775807 ∧ Moved B g d w wr (c + k))) (fun i _ => 64 - (intOf i).toNat)
    case atStart => exact ⟨0, by decide, rfl, ⟨by simp, by have := H1.out; omega, by simpa using Moved.refl HS.out⟩⟩
    case round =>
      obtain ⟨k, hk, rfl, HR⟩ := hrel
      have hcn := blk_cell (HR.out.2.2.keep.blk HBn.out HNn.out (by simp)) 0
      have hcs := blk_cell (HR.out.2.2.keep.blk HBs.out HNs.out (by simp)) 0
      simp only [List.getElem?_toArray, List.getElem?_cons_zero] at hcn hcs
      by_cases hk64 : k < 64
      · go_wp2_with (fail)
        refine (nextm_calls d (c + k) g B wr HD.out HBy.out HR.out.2.2.at_ (by have := H0.out; omega) HR.out.2.1 HB.out (HLo.out.below HR.out.2.2.bel)).mono ?_
        rintro e w1 ⟨x, er, c', hnx, rfl, hm⟩
        have HM := Aside0.mk (HR.out.2.2.trans hm)
        have HX := Aside0.mk hnx
        have hcn1 := blk_cell (HM.out.keep.blk HBn.out HNn.out (by simp)) 0
        simp only [List.getElem?_toArray, List.getElem?_cons_zero] at hcn1
        have HJ : Aside0 (belowF d n (64 - k) (c + k) = if c + k = 9223372036854775807 then (0, 17, c + k) else if numV d (c + k) < endOf n then (numV d (c + k) % n, 0, c + k + 1) else belowF d n (64 - (k + 1)) (c + k + 1)) := ⟨by
          rw [show 64 - k = (64 - (k + 1)) + 1 by omega]
          rfl⟩
        clear hm hnx hcn hcs
        by_cases hmx : c + k = 9223372036854775807
        · obtain ⟨rfl, rfl, rfl⟩ : x = 0 ∧ er = 17 ∧ c' = c + k := by
            have := HX.out
            unfold nextV at this
            rwa [if_pos hmx] at this
          have HF : Aside0 (BelowR d n c 0 17 (c + k)) := ⟨HV.out _ _ _ (by rw [HR.out.1, HJ.out, if_pos hmx])⟩
          clear hmx
          go_wp2
          rw [Exit.noGoto_ret]
          go_ret2
          exact ⟨_, _, _, HF.out, rfl, HM.out⟩
        · obtain ⟨hx, rfl, rfl⟩ : x = numV d (c + k) ∧ er = 0 ∧ c' = c + k + 1 := by
            have := HX.out
            unfold nextV at this
            rwa [if_neg hmx] at this
          have hr := numV_range d (c + k)
          rw [← hx] at hr
          have hy0 := hr.1
          have hwy : IntKind.u64.wrap x = x := by rw [IntKind.wrap_u64]; omega
          have HMx : Aside0 (c + k + 1 ≤ 9223372036854775807) := ⟨by have := HR.out.2.1; omega⟩
          by_cases hle : x < E
          · have hgeD : decide (E ≤ x) = false := by simpa using hle
            have HF : Aside0 (BelowR d n c (x % n) 0 (c + k + 1)) := ⟨HV.out _ _ _ (by rw [HR.out.1, HJ.out, if_neg hmx, ← hx, ← HE.out, if_pos hle])⟩
            clear hmx hx hr hle HX
            go_wp2
            rw [Exit.noGoto_ret]
            go_ret2
            exact ⟨_, _, _, HF.out, rfl, HM.out⟩
          · have hgeD : decide (E ≤ x) = true := by simp; omega
            have HF : Aside0 (belowF d n 64 c = belowF d n (64 - (k + 1)) (c + (k + 1 : Nat))) := ⟨by rw [HR.out.1, HJ.out, if_neg hmx, ← hx, ← HE.out, if_neg hle, Int.natCast_add, ← Int.add_assoc]; rfl⟩
            clear hmx hx hr hle HX
            go_wp2
            go_roundw
            case rel => exact ⟨k + 1, by omega, by go_num, ⟨HF.out, by have := HMx.out; omega, by have := HM.out; rw [Int.natCast_add, ← Int.add_assoc]; exact this⟩⟩
            case measure => simp [intOf]; omega
      · obtain rfl : k = 64 := by omega
        have HF : Aside0 (BelowR d n c 0 14 (c + (64 : Nat))) := ⟨HV.out _ _ _ (by rw [HR.out.1]; rfl)⟩
        have HM := Aside0.mk HR.out.2.2
        clear hcn hcs
        go_wp2
        rw [Exit.noGoto_ret]
        go_ret2
        exact ⟨_, _, _, HF.out, rfl, HM.out⟩
set_option maxHeartbeats 4000000 in
set_option maxRecDepth 100000 in
theorem Below_calls (d : List Int) (n c : Int) (g B : Nat) (w : World) (hd : d.length = 32) (hby : ∀ x ∈ d, 0 ≤ x ∧ x < 256) (hS : StrAt w g d c) (h0 : 0 ≤ c) (h1 : c ≤ 9223372036854775807) (hn : n ≤ 9223372036854775807) (hB : B ≤ g) (hLo : Lo B w) :
    Calls Tryd.prog 17 #[.pointer (some ⟨g, 0, none⟩), .int .i64 n] w (BackEnd B g d c (BelowR d n c) w) := by
  have HB0 : Aside0 (Below w.heap.size w ((w.alloc (.cells #[.pointer (some ⟨g, 0, none⟩)] 27)).alloc (.cells #[.int .i64 n] 3))) := ⟨bel_alloc (bel_alloc (Below.refl _ _) _) _⟩
  have hb1 : ((w.alloc (.cells #[.pointer (some ⟨g, 0, none⟩)] 27)).alloc (.cells #[.int .i64 n] 3)).heap[w.heap.size]? = some (.cells #[.pointer (some ⟨g, 0, none⟩)] 27 (0, 0)) := blk_alloc (heap_alloc_new _ _) _
  have hb2 : ((w.alloc (.cells #[.pointer (some ⟨g, 0, none⟩)] 27)).alloc (.cells #[.int .i64 n] 3)).heap[w.heap.size + 1]? = some (.cells #[.int .i64 n] 3 (0, 0)) := by
    have h := heap_alloc_new (w.alloc (.cells #[.pointer (some ⟨g, 0, none⟩)] 27)) (.cells #[.int .i64 n] 3)
    rw [World.size_alloc] at h
    exact h
  have HLo := Aside0.mk hLo
  have HC := Aside0.mk (back_calls 30 #[] #[.pointer (some ⟨w.heap.size + 1, 0, none⟩), .pointer (some ⟨w.heap.size, 0, none⟩)] B d c g _ hd (hS.below HB0.out) hB (enters_ Tryd.func30 (by kernel_rfl) rfl) (BelowR d n c)
    (below1_calls d n c g B (w.heap.size + 1) w.heap.size _ hd hby (hS.below HB0.out) h0 h1 hn hB (hLo.below (HB0.out.mono hLo.le)) hb2 hb1))
  clear hd hby hS h0 h1 hB hLo hb1 hb2 hn
  go_enter Tryd.func17, Tryd.ntmps17
  go_wp2_with (fail)
  refine HC.out.mono ?_
  rintro e w' ⟨x, er, c', hR, ⟨h0, rfl, hm⟩ | ⟨h0, rfl, hm⟩⟩
  · have H := Aside0.mk (And.intro h0 (And.intro hR hm))
    clear h0 hR hm
    go_wp2
    go_ret2
    exact ⟨x, er, c', H.out.2.1, .inl ⟨H.out.1, rfl, H.out.2.2.start HB0.out HLo.out.le⟩⟩
  · have H := Aside0.mk (And.intro h0 (And.intro hR hm))
    clear h0 hR hm
    go_wp2
    go_ret2
    exact ⟨x, er, c', H.out.2.1, .inr ⟨H.out.1, rfl, H.out.2.2.start HB0.out HLo.out.le⟩⟩
end Go.Proofs.YtdmeocoehahopaaDoor.Draw
namespace Go.Proofs.YtdmeocoehahopaaDoor.Draw
open Go.RowKit Go.Proofs.YtdmeocoehahopaaDoorW.PrintWords Go.Proofs.YtdmeocoehahopaaDoorW.PrintLast Go.Proofs.YtdmeocoehahopaaDoorW.PrintMore Go.Proofs.YtdmeocoehahopaaDoor.K Go.Proofs.YtdmeocoehahopaaDoor.Sha Go.Proofs.YtdmeocoehahopaaDoor.Codec Go.Proofs.YtdmeocoehahopaaDoor.RI Go.Proofs.YtdmeocoehahopaaDoor.Sort Go.Proofs.YtdmeocoehahopaaDoor.Top Go.Proofs.YtdmeocoehahopaaDoor.Ten Go.Proofs.YtdmeocoehahopaaDoor.Fixed
set_option linter.unusedVariables false
set_option linter.unusedSimpArgs false
theorem sorts_small (fid : Nat) (fa lb : Array Value) (cf : Int → Int → Int) (D : Int → Prop) (B : Nat) (xs : List Int) (h : xs.length < 20) (hD : ∀ x ∈ xs, D x) : Sorts fid fa lb cf D B xs (insOut (ltOf cf) 0 (xs.length - 1) xs) := fun g c w hc hd hB =>
  sortstable_small_calls fid fa lb cf D g xs.length c B xs w hc hd rfl hD hB h
def Ord (l ys : List Int) : Prop := ys.length = l.length ∧ ∀ lb B, Sorts 46 #[] lb (cfV l) (Top.Place l.length) B (places l.length) ys
theorem ord_small (l : List Int) (h : l.length < 20) : Ord l (insOut (ltOf (cfV l)) 0 (l.length - 1) (places l.length)) := by
  refine ⟨by rw [insOut_length, places_length], fun lb B => ?_⟩
  have h1 := sorts_small 46 #[] lb (cfV l) (Top.Place l.length) B (places l.length) (by rw [places_length]; exact h) (places_in _)
  rwa [places_length] at h1
set_option maxHeartbeats 4000000 in
set_option maxRecDepth 100000 in
theorem pickone1_calls (d : List Int) (A : Option Addr) (cc : Nat) (l ys : List Int) (c : Int) (g B Bv Bk Bs : Nat) (w : World) (hS : StrAt w g d c) (hB : B ≤ w.heap.size) (hC : Kd.C (Kd.int .i64) w A l.length l) (hl : checkV l = 0) (hO : Ord l ys)
    (hbv : w.heap[Bv]? = some (.cells #[.slice A l.length cc] 41 (0, 0))) (hbk : w.heap[Bk]? = some (.cells #[.int .i64 1] 3 (0, 0))) :
    Calls Tryd.prog 32 #[.pointer (some ⟨Bv, 0, none⟩), .pointer (some ⟨Bk, 0, none⟩), .pointer (some ⟨Bs, 0, none⟩)] w fun e w' => ∃ x er c', (x = (ys.take 1).getD 0 0 ∧ er = 0 ∧ c' = c) ∧ e = .returned (.tuple #[.int .i64 x, .int .i64 er]) ∧ Moved B g d w w' c' := by
  have hcv := blk_cell hbv 0
  have hck := blk_cell hbk 0
  simp only [List.getElem?_toArray, List.getElem?_cons_zero] at hcv hck
  have hp : 1 ≤ l.length := by
    unfold checkV at hl
    split at hl
    · cases hl
    · omega
  have HT := Aside0.mk (top_ok_calls A cc 1 l ys w hC hl (Nat.le_refl _) hp hO.1 (hO.2 _ _))
  have HS := Aside0.mk hS
  have HB := Aside0.mk hB
  have HK := Aside0.mk hbk
  have HY : Aside0 ((ys.take 1).length = 1) := ⟨by rw [List.length_take, hO.1]; omega⟩
  have HG0 := Aside0.mk (show (ys.take 1).getD 0 0 = (ys.take 1).getD 0 0 from rfl)
  clear hS hB hC hl hO hbv hbk hp HG0
  generalize ys.take 1 = zs at *
  obtain ⟨z, rfl⟩ : ∃ z, zs = [z] := by
    match zs, HY.out with
    | [z], _ => exact ⟨z, rfl⟩
  go_enter Tryd.func32, Tryd.ntmps32
  go_wp2_with (fail)
  refine HT.out.mono ?_
  rintro e w2 ⟨A', c', rfl, hQ, hb⟩
  have hck2 := blk_cell ((hb.block _ (blk_lt HK.out)).trans HK.out) 0
  simp only [List.getElem?_toArray, List.getElem?_cons_zero] at hck2
  have HQ := Aside0.mk hQ
  have HBb := Aside0.mk hb
  clear hQ hb hcv hck
  go_wp2_with (at_builtin; refine append_q (w0 := w) (W := w2.alloc (.cells #[.int .i64 0] 3)) w.heap.size rfl (.tmp 24) (.tmp 25) 41 3 .i64 8 rfl Tryd.underlying41 info_int (by decide) (.slice A' 1 c') [z] [0] (some ⟨w2.heap.size, 0, none⟩) 1 1 rfl rfl (Kd.Q_below HQ.out (bel_alloc (Below.refl _ _) _)) (C_int (reads_lit w2 .i64 3 [0] (by decide))) (bel_alloc HBb.out _) (bel_size HBb.out _) (by simp) ?_; intro v1 w3 hq hbw _ _; obtain ⟨A9, c9, rfl, hc9⟩ := Kd.Q_slice hq; obtain ⟨ad, rfl, hz⟩ := int_at (Kd.Q_reads' hq).2.2 0 (by simp); rw [show ad.add 0 = ad by simp [Addr.add]] at hz; replace hz : w3.cell? ad = some (.int .i64 z) := hz; have HQ3 := Aside0.mk hbw; clear hq hbw)
  go_ret2
  exact ⟨z, 0, c, ⟨rfl, rfl, rfl⟩, rfl, Moved.of_below HS.out HB.out HQ3.out⟩
/-- Pick of one number: the greatest. -/
def OneR (ys : List Int) (c x er c' : Int) : Prop := x = (ys.take 1).getD 0 0 ∧ er = 0 ∧ c' = c
set_option maxHeartbeats 4000000 in
set_option maxRecDepth 100000 in
theorem pickone_calls (d : List Int) (A : Option Addr) (cc : Nat) (l ys : List Int) (c : Int) (g B : Nat) (w : World) (hd : d.length = 32) (hS : StrAt w g d c) (hg : B ≤ g) (hB : B ≤ w.heap.size) (hC : Kd.C (Kd.int .i64) w A l.length l) (hl : checkV l = 0) (hO : Ord l ys) :
    Calls Tryd.prog 21 #[.pointer (some ⟨g, 0, none⟩), .slice A l.length cc, .int .i64 1] w (BackEnd B g d c (OneR ys c) w) := by
  have HB0 : Aside0 (Below w.heap.size w (((w.alloc (.cells #[.pointer (some ⟨g, 0, none⟩)] 27)).alloc (.cells #[.slice A l.length cc] 41)).alloc (.cells #[.int .i64 1] 3))) := ⟨bel_alloc (bel_alloc (bel_alloc (Below.refl _ _) _) _) _⟩
  have hb1 : (((w.alloc (.cells #[.pointer (some ⟨g, 0, none⟩)] 27)).alloc (.cells #[.slice A l.length cc] 41)).alloc (.cells #[.int .i64 1] 3)).heap[w.heap.size + 1]? = some (.cells #[.slice A l.length cc] 41 (0, 0)) := by
    refine blk_alloc ?_ _
    have h := heap_alloc_new (w.alloc (.cells #[.pointer (some ⟨g, 0, none⟩)] 27)) (.cells #[.slice A l.length cc] 41)
    rw [World.size_alloc] at h
    exact h
  have hb2 : (((w.alloc (.cells #[.pointer (some ⟨g, 0, none⟩)] 27)).alloc (.cells #[.slice A l.length cc] 41)).alloc (.cells #[.int .i64 1] 3)).heap[w.heap.size + 1 + 1]? = some (.cells #[.int .i64 1] 3 (0, 0)) := by
    have h := heap_alloc_new ((w.alloc (.cells #[.pointer (some ⟨g, 0, none⟩)] 27)).alloc (.cells #[.slice A l.length cc] 41)) (.cells #[.int .i64 1] 3)
    rw [World.size_alloc, World.size_alloc] at h
    exact h
  have HBs := Aside0.mk hB
  have HC := Aside0.mk (back_calls 32 #[] #[.pointer (some ⟨w.heap.size + 1, 0, none⟩), .pointer (some ⟨w.heap.size + 1 + 1, 0, none⟩), .pointer (some ⟨w.heap.size, 0, none⟩)] B d c g _ hd (hS.below HB0.out) hg (enters_ Tryd.func32 (by kernel_rfl) rfl) (OneR ys c)
    (pickone1_calls d A cc l ys c g B (w.heap.size + 1) (w.heap.size + 1 + 1) w.heap.size _ (hS.below HB0.out) (Nat.le_trans hB HB0.out.size) (Kd.C_below hC HB0.out) hl hO hb1 hb2))
  clear hd hS hB hC hl hO hb1 hb2 hg
  go_enter Tryd.func21, Tryd.ntmps21
  go_wp2_with (fail)
  refine HC.out.mono ?_
  rintro e w' ⟨x, er, c', hR, ⟨h0, rfl, hm⟩ | ⟨h0, rfl, hm⟩⟩
  · have H := Aside0.mk (And.intro h0 (And.intro hR hm))
    clear h0 hR hm
    go_wp2
    go_ret2
    exact ⟨x, er, c', H.out.2.1, .inl ⟨H.out.1, rfl, H.out.2.2.start HB0.out HBs.out⟩⟩
  · have H := Aside0.mk (And.intro h0 (And.intro hR hm))
    clear h0 hR hm
    go_wp2
    go_ret2
    exact ⟨x, er, c', H.out.2.1, .inr ⟨H.out.1, rfl, H.out.2.2.start HB0.out HBs.out⟩⟩
end Go.Proofs.YtdmeocoehahopaaDoor.Draw
namespace Go.Proofs.YtdmeocoehahopaaDoor.Draw
open Go.RowKit Go.Proofs.YtdmeocoehahopaaDoorW.PrintWords Go.Proofs.YtdmeocoehahopaaDoorW.PrintLast Go.Proofs.YtdmeocoehahopaaDoorW.PrintMore Go.Proofs.YtdmeocoehahopaaDoor.K Go.Proofs.YtdmeocoehahopaaDoor.Sha Go.Proofs.YtdmeocoehahopaaDoor.Codec Go.Proofs.YtdmeocoehahopaaDoor.RI Go.Proofs.YtdmeocoehahopaaDoor.Sort Go.Proofs.YtdmeocoehahopaaDoor.Top Go.Proofs.YtdmeocoehahopaaDoor.Ten Go.Proofs.YtdmeocoehahopaaDoor.Fixed
set_option linter.unusedVariables false
set_option linter.unusedSimpArgs false
theorem below_one {d : List Int} {x er c' : Int} (h : BelowR d 1 4 x er c') : x = 0 ∧ er = 0 ∧ c' = 5 := by
  unfold BelowR belowV at h
  rw [if_neg (by decide)] at h
  have h1 : belowF d 1 64 4 = if (4 : Int) = 9223372036854775807 then (0, 17, 4) else if numV d 4 < endOf 1 then (numV d 4 % 1, 0, 4 + 1) else belowF d 1 63 (4 + 1) := rfl
  rw [h1, if_neg (by decide), if_pos (by have := numV_range d 4; unfold endOf; omega)] at h
  have h2 := congrArg Prod.fst h
  have h3 := congrArg (fun p => p.2.1) h
  have h4 := congrArg (fun p => p.2.2) h
  simp only at h2 h3 h4
  exact ⟨by rw [← h2]; omega, h3.symm, h4.symm⟩
theorem chk399 : checkV [3, 9, 9] = 0 := by decide
theorem ord399 : ((insOut (ltOf (cfV [3, 9, 9])) 0 ([3, 9, 9] : List Int).length.pred (places ([3, 9, 9] : List Int).length)).take 1).getD 0 0 = 1 := by decide
def Lo' (w : World) : Prop := Lo w.heap.size w
set_option maxHeartbeats 4000000 in
set_option maxRecDepth 100000 in
theorem awake_calls (B : Nat) (w : World) (hLo : Lo B w) :
    Calls Tryd.prog 13 #[] w fun e w' => e = .returned (.bool true) ∧ Below w.heap.size w w' := by
  have HLo0 := Aside0.mk hLo
  have HLo : Aside0 (Lo w.heap.size w) := ⟨hLo.f, hLo.c, Nat.lt_of_lt_of_le hLo.gf hLo.le, Nat.lt_of_lt_of_le hLo.gc hLo.le, Nat.le_refl _⟩
  have HD : Aside0 ((List.replicate 32 0 : List Int).length = 32) := ⟨rfl⟩
  have HDy : Aside0 (∀ x ∈ (List.replicate 32 0 : List Int), 0 ≤ x ∧ x < 256) := ⟨fun x hx => by rw [(List.mem_replicate.1 hx).2]; decide⟩
  clear hLo
  go_enter Tryd.func13, Tryd.ntmps13
  go_wp2_with (fail)
  rw [z32_lit]
  generalize hdd : List.replicate 32 (0 : Int) = d at *
  clear hdd
  refine (new_calls d 4 w HD.out (by decide)).mono ?_
  rintro e w1 ⟨g, rfl, hg, hs, hb⟩
  have HG := Aside0.mk hg
  have HS := Aside0.mk hs
  have HB := Aside0.mk hb
  clear hg hs hb
  go_wp2_with (fail)
  refine (Below_calls d 1 4 g w.heap.size w1 HD.out HDy.out HS.out (by decide) (by decide) (by decide) HG.out (HLo.out.below HB.out)).mono ?_
  rintro e w2 ⟨x, er, c', hR, hh⟩
  obtain ⟨rfl, rfl, rfl⟩ := below_one hR
  rcases hh with ⟨_, rfl, hm⟩ | ⟨h, _⟩
  · have HM := Aside0.mk hm
    clear hm hR
    go_wp2_with (fail)
    have HB2 : Aside0 (Below w2.heap.size w2 (w2.alloc (.cells #[.int .i64 3, .int .i64 9, .int .i64 9] 3))) := ⟨bel_alloc (Below.refl _ _) _⟩
    have HBx : Aside0 (Below w.heap.size w (w2.alloc (.cells #[.int .i64 3, .int .i64 9, .int .i64 9] 3))) := ⟨(HB.out.trans HM.out.bel).trans (HB2.out.mono (Nat.le_trans HB.out.size HM.out.bel.size))⟩
    have HC : Aside0 (Kd.C (Kd.int .i64) (w2.alloc (.cells #[.int .i64 3, .int .i64 9, .int .i64 9] 3)) (some ⟨w2.heap.size, 0, none⟩) ([3, 9, 9] : List Int).length [3, 9, 9]) := ⟨C_int (reads_lit w2 .i64 3 [3, 9, 9] (by decide))⟩
    refine (pickone_calls d (some ⟨w2.heap.size, 0, none⟩) 3 [3, 9, 9] _ 5 g w.heap.size _ HD.out (HM.out.at_.below HB2.out) HG.out HBx.out.size HC.out chk399 (ord_small [3, 9, 9] (by decide))).mono ?_
    rintro e w3 ⟨x, er, c', ⟨hx, rfl, rfl⟩, hh⟩
    obtain rfl : x = 1 := hx.trans ord399
    rcases hh with ⟨_, rfl, hm⟩ | ⟨h, _⟩
    · have HM3 := Aside0.mk hm
      clear hm hx
      go_wp2_with (refine (count_calls d 5 g w3 HD.out HM3.out.at_).mono ?_; rintro e w4 ⟨rfl, rfl⟩)
      go_ret
      exact ⟨rfl, HBx.out.trans HM3.out.bel⟩
    · exact absurd rfl h
  · exact absurd rfl h
end Go.Proofs.YtdmeocoehahopaaDoor.Draw
namespace Go.Proofs.YtdmeocoehahopaaDoor.Draw
open Go.RowKit Go.Proofs.YtdmeocoehahopaaDoorW.PrintWords Go.Proofs.YtdmeocoehahopaaDoorW.PrintLast Go.Proofs.YtdmeocoehahopaaDoorW.PrintMore Go.Proofs.YtdmeocoehahopaaDoor.K Go.Proofs.YtdmeocoehahopaaDoor.Sha Go.Proofs.YtdmeocoehahopaaDoor.Codec Go.Proofs.YtdmeocoehahopaaDoor.RI
set_option linter.unusedVariables false
set_option linter.unusedSimpArgs false
theorem lo_of {w : World} (hLf : LaidAt w 1 firstA) (hL : LaidAt w 2 constA) : Lo w.heap.size w :=
  ⟨hLf, hL, by obtain ⟨_, _, h⟩ := hLf; exact blk_lt h, by obtain ⟨_, _, h⟩ := hL; exact blk_lt h, Nat.le_refl _⟩
theorem belowF_c (d : List Int) (n : Int) : ∀ (k : Nat) (c x er c' : Int), belowF d n k c = (x, er, c') → c ≤ 9223372036854775807 → c ≤ c' ∧ c' ≤ 9223372036854775807 ∧ c' ≤ c + k ∧ (er ≠ 0 → x = 0)
  | 0, c, x, er, c', h, hc => by cases h; exact ⟨Int.le_refl _, hc, by omega, fun _ => rfl⟩
  | k + 1, c, x, er, c', h, hc => by
    unfold belowF at h
    split at h
    · cases h; exact ⟨Int.le_refl _, hc, by omega, fun _ => rfl⟩
    · split at h
      · cases h; exact ⟨by omega, by omega, by omega, fun h9 => absurd rfl h9⟩
      · have h1 := belowF_c d n k (c + 1) x er c' h (by omega)
        exact ⟨by omega, h1.2.1, by omega, h1.2.2.2⟩
theorem belowV_c {d : List Int} {n c x er c' : Int} (h : belowV d n c = (x, er, c')) (hc : c ≤ 9223372036854775807) : c ≤ c' ∧ c' ≤ 9223372036854775807 ∧ c' ≤ c + 64 ∧ (er ≠ 0 → x = 0) := by
  unfold belowV at h
  split at h
  · cases h; exact ⟨Int.le_refl _, hc, by omega, fun _ => rfl⟩
  · exact belowF_c d n 64 c x er c' h hc
end Go.Proofs.YtdmeocoehahopaaDoor.Draw
namespace Go.Proofs.YtdmeocoehahopaaDoor.Sha
open Go.RowKit Go.Proofs.YtdmeocoehahopaaDoorW.PrintWords Go.Proofs.YtdmeocoehahopaaDoor.K
def firstL : List Int := [1779033703, 3144134277, 1013904242, 2773480762, 1359893119, 2600822924, 528734635, 1541459225]
def constantsL : List Int := (1116352408 :: 1899447441 :: 3049323471 :: 3921009573 :: 961987163 :: 1508970993 :: 2453635748 :: 2870763221 :: 3624381080 :: 310598401 :: 607225278 :: 1426881987 :: 1925078388 :: 2162078206 :: 2614888103 :: 3248222580 :: 3835390401 :: 4022224774 :: 264347078 :: 604807628 :: 770255983 :: 1249150122 :: 1555081692 :: 1996064986 :: 2554220882 :: 2821834349 :: 2952996808 :: 3210313671 :: 3336571891 :: 3584528711 :: 113926993 :: 338241895 :: 666307205 :: 773529912 :: 1294757372 :: 1396182291 :: 1695183700 :: 1986661051 :: 2177026350 :: 2456956037 :: 2730485921 :: 2820302411 :: 3259730800 :: 3345764771 :: 3516065817 :: 3600352804 :: 4094571909 :: 275423344 :: 430227734 :: 506948616 :: 659060556 :: 883997877 :: 958139571 :: 1322822218 :: 1537002063 :: 1747873779 :: 1955562222 :: 2024104815 :: 2227730452 :: 2361852424 :: 2428436474 :: 2756734187 :: 3204031479 :: 3329325298 :: [])
set_option maxRecDepth 100000 in
theorem first_arr : (nums .u32 firstL).toArray = firstA := by
  have h : firstL = init.l.map wi := by decide +kernel
  rw [h]
  rfl
set_option maxRecDepth 100000 in
theorem constants_arr : (nums .u32 constantsL).toArray = constA := by
  have h : constantsL = kL.map wi := by decide +kernel
  rw [h]
  rfl
end Go.Proofs.YtdmeocoehahopaaDoor.Sha
namespace Go.Proofs.YtdmeocoehahopaaDoor.K
open Go.RowKit Go.ChangeShapes Go.WideShapes Go.ChangeAt Go.Proofs.YtdmeocoehahopaaDoorW.PrintWords
/-- A cell's number. -/
def intOfV : Value → Int
  | .int _ n => n
  | _ => 0
theorem arr_cells {H : Type} {enc : TypeId × Value → H} {P : Program} {W : World} {base N fuel : Nat} {sp : Nat → Bool} {held : Bool} {t E : TypeId} {k : IntKind} {cs : List Value} {x : DataW H × List MemPlace}
    (ht : P.underlying t = some (.array N E)) (hE : P.underlying E = some (.int k)) (hc : P.cellsOf E = 1) (hct : P.cellsOf t = N)
    (hf : DataW.trod enc P W base sp held fuel t cs = some x) : ∃ xs : List Int, cs = nums k xs ∧ xs.length = N ∧ ∀ n ∈ xs, (Lit.int k n).wf = true := by
  obtain ⟨ys, m, _, _, hl, hn, hel⟩ := DataW.trod_array ht hf
  rw [hct] at hl
  have key : ∀ i (h : i < cs.length), ∃ n, cs[i] = .int k n ∧ (Lit.int k n).wf = true := by
    intro i h
    have h3 := hel i (by omega)
    rw [hc, Nat.mul_one, List.drop_eq_getElem_cons h, List.take_succ_cons, List.take_zero, List.getElem?_eq_getElem (by omega)] at h3
    obtain ⟨n, e1, _, e3⟩ := DataW.trod_int hE h3
    exact ⟨n, by simpa using e1, e3⟩
  refine ⟨cs.map intOfV, ?_, by rw [List.length_map, hl], ?_⟩
  · refine List.ext_getElem (by simp [nums]) fun i h1 h2 => ?_
    obtain ⟨n, e, _⟩ := key i h1
    simp [nums, e, intOfV]
  · intro n hm
    obtain ⟨v, hv, rfl⟩ := List.mem_map.1 hm
    obtain ⟨i, hi, rfl⟩ := List.getElem_of_mem hv
    obtain ⟨n, e, hw⟩ := key i hi
    rw [e]
    exact hw
theorem open_dig {H : Type} {enc : TypeId × Value → H} {P : Program} {W : World} {base b0 N : Nat} {r : Reach} {sp : Nat → Bool} {held : Bool} {t E : TypeId} {k : IntKind} {v : Value} {d : DataW H} {ps : List MemPlace}
    (ht : P.underlying t = some (.array N E)) (hE : P.underlying E = some (.int k)) (hc : P.cellsOf E = 1) (hct : P.cellsOf t = N) (hval : Value.okWide P W r b0 t v)
    (h : DataW.Trod enc P W base sp held t v d ps) : ∃ xs : List Int, v = .agg (nums k xs).toArray ∧ xs.length = N ∧ ∀ n ∈ xs, (Lit.int k n).wf = true := by
  simp only [Value.okWide, ht] at hval
  obtain ⟨cs, rfl, _, _⟩ := hval
  obtain ⟨fuel, hf⟩ := h
  obtain ⟨xs, e, h1, h2⟩ := arr_cells ht hE hc hct hf
  refine ⟨xs, ?_, h1, h2⟩
  rw [← e]
  simp [Value.cells]
end Go.Proofs.YtdmeocoehahopaaDoor.K
namespace Go.Proofs.YtdmeocoehahopaaDoor.K
open Go.RowKit Go.ChangeShapes Go.WideShapes Go.ChangeAt Go.Proofs.YtdmeocoehahopaaDoorW.PrintWords Go.Proofs.YtdmeocoehahopaaDoorW.PrintLast Go.Proofs.YtdmeocoehahopaaDoorW.PrintMore
theorem open_bss {H : Type} {enc : TypeId × Value → H} {P : Program} {W : World} {base : Nat} {held : Bool} {t e q E : TypeId} {k : IntKind} {a : Option Addr} {len cap : Nat} {d : DataW H} {ps : List MemPlace}
    (ht : P.underlying t = some (.slice e)) (he : P.underlying e = some (.slice q)) (hq : P.underlying q = some (.int k)) (ce : P.cellsOf e = 1) (cq : P.cellsOf q = 1)
    (h : DataW.Trod enc P W base (fun _ => true) held t (.slice a len cap) d ps) :
    ∃ xs : List (List Int), Kd.C (Kd.slice E (Kd.int k)) W a len xs ∧ len ≤ cap ∧ ∀ x ∈ xs, ∀ n ∈ x, (Lit.int k n).wf = true := by
  obtain ⟨fuel, hf⟩ := h
  rcases Deep.open_int_rows ht he hq ce cq hf with ⟨hcs, _⟩ | ⟨x, l, c, A, L, C, Z, hcs, _, hl, hm, _, hrow⟩
  · simp [Value.cells] at hcs
    obtain ⟨rfl, rfl, rfl⟩ := hcs
    exact ⟨[], ⟨rfl, by decide, fun h => absurd h (by decide)⟩, Nat.le_refl _, fun x hx => by simp at hx⟩
  · simp [Value.cells] at hcs
    obtain ⟨rfl, rfl, rfl⟩ := hcs
    unfold maxLen at hm
    have hlen : ∀ r, r < cap → ((Z r).take (L r)).length = L r := fun r hr => by
      obtain ⟨_, h1, _, h2, _⟩ := hrow r hr
      rw [List.length_take, h2]
      omega
    refine ⟨(List.range len).map fun r => (Z r).take (L r), ⟨by simp, by omega, fun _ => ⟨x, rfl, fun j p hj => ?_⟩⟩, hl, ?_⟩
    · have hj' : j < len := by have := (List.getElem?_eq_some_iff.1 hj).1; simpa using this
      have hp : p = (Z j).take (L j) := by simpa [List.getElem?_map, List.getElem?_range hj'] using hj.symm
      subst hp
      obtain ⟨h1, h2, h3, h4, h5, h6, h7⟩ := hrow j (by omega)
      have hlj := hlen j (by omega)
      refine ⟨[.slice (A j) (L j) (C j)], rfl, ⟨A j, C j, by rw [hlj], by rw [hlj]; exact h2, C_int ?_⟩, fun i u hu => ?_⟩
      · rw [hlj]
        unfold maxLen at h3
        refine ⟨hlj, by omega, fun hp => ?_⟩
        cases hA : A j with
        | none => have := h6 hA; omega
        | some a' =>
          refine ⟨a', rfl, fun i hi => ?_⟩
          rw [(h7 a' hA).2 i (by omega)]
          simp [List.getD_eq_getElem?_getD, hi]
      · obtain ⟨rfl, rfl⟩ : i = 0 ∧ u = .slice (A j) (L j) (C j) := by
          cases i with
          | zero => exact ⟨rfl, by simpa using hu.symm⟩
          | succ i => simp at hu
        have : j * (Kd.slice E (Kd.int k)).sz + 0 = j := by show j * 1 + 0 = j; omega
        rw [this]
        exact h1
    · intro y hy n hn
      obtain ⟨r, hr, rfl⟩ := List.mem_map.1 hy
      have hr' : r < cap := by have := List.mem_range.1 hr; omega
      exact (hrow r hr').2.2.2.2.1 n (List.mem_of_mem_take hn)
theorem open_is {H : Type} {enc : TypeId × Value → H} {P : Program} {W : World} {base : Nat} {held : Bool} {t e : TypeId} {k : IntKind} {a : Option Addr} {len cap : Nat} {d : DataW H} {ps : List MemPlace}
    (ht : P.underlying t = some (.slice e)) (he : P.underlying e = some (.int k)) (ce : P.cellsOf e = 1)
    (h : DataW.Trod enc P W base (fun _ => true) held t (.slice a len cap) d ps) :
    ∃ xs : List Int, Kd.C (Kd.int k) W a len xs ∧ len ≤ cap ∧ ∀ n ∈ xs, (Lit.int k n).wf = true := by
  obtain ⟨fuel, hf⟩ := h
  rcases open_ints ht he ce hf with ⟨hcs, _⟩ | ⟨x, l, c, zs, hcs, _, hl, hm, hz, _, hcell, hwz⟩
  · simp [Value.cells] at hcs
    obtain ⟨rfl, rfl, rfl⟩ := hcs
    exact ⟨[], C_int ⟨rfl, by decide, fun h => absurd h (by decide)⟩, Nat.le_refl _, fun x hx => by simp at hx⟩
  · simp [Value.cells] at hcs
    obtain ⟨rfl, rfl, rfl⟩ := hcs
    unfold maxLen at hm
    simp only [if_true] at hz
    have hl1 : (zs.take len).length = len := by rw [List.length_take, hz]; omega
    refine ⟨zs.take len, C_int ⟨hl1, by omega, fun _ => ⟨x, rfl, fun i hi => ?_⟩⟩, hl, fun n hn => hwz n (List.mem_of_mem_take hn)⟩
    rw [hcell i (by omega)]
    simp [List.getD_eq_getElem?_getD, hi]
theorem byte_wf {xs : List Int} (h : ∀ n ∈ xs, (Lit.int .u8 n).wf = true) : ∀ x ∈ xs, 0 ≤ x ∧ x < 256 := fun x hx => by
  have := h x hx
  simp only [Lit.wf, Bool.and_eq_true, decide_eq_true_eq] at this
  have h1 : IntKind.u8.min = 0 := by decide
  have h2 : IntKind.u8.max = 255 := by decide
  omega
theorem wf_range {x : Int} (h : (Lit.int .i64 x).wf = true) : -9223372036854775808 ≤ x ∧ x ≤ 9223372036854775807 := by
  simp only [Lit.wf, Bool.and_eq_true, decide_eq_true_eq] at h
  have h1 : IntKind.i64.min = -9223372036854775808 := by decide
  have h2 : IntKind.i64.max = 9223372036854775807 := by decide
  omega
end Go.Proofs.YtdmeocoehahopaaDoor.K
namespace Go.Proofs.YtdmeocoehahopaaDoor.Laid
open Go.RowKit Go.Proofs.YtdmeocoehahopaaDoorW.PrintWords Go.Proofs.YtdmeocoehahopaaDoor.K
set_option linter.unusedVariables false
theorem laidVars_mem {P : Program} {w : World} {n : String} {d : DataW Unit} : ∀ {l : List (String × DataW Unit)} {ps : List MemPlace}, DataW.LaidVars P w l ps → (n, d) ∈ l →
    ∃ g t cs fuel p, P.globalNamed n = some g ∧ (P.globals[g]?).map (·.type) = some t ∧ w.var? P n = some cs ∧ DataW.trod (fun _ => ()) P w 0 (fun _ => true) false fuel t cs.toList = some (d, p) := by
  intro l
  induction l with
  | nil => intro ps _ h; cases h
  | cons x l ih =>
    intro ps h hm
    obtain ⟨m, y⟩ := x
    obtain ⟨g, t, cs, fuel, p, q, h1, h2, h3, h4, h5, _⟩ := h
    rcases List.mem_cons.1 hm with e | e
    · cases e
      exact ⟨g, t, cs, fuel, p, h1, h2, h3, h4⟩
    · exact ih h5 e
theorem lit_of_trod {H : Type} {enc : TypeId × Value → H} {P : Program} {w : World} {base : Nat} {sp : Nat → Bool} {held : Bool} {fuel : Nat} {t : TypeId} {k : IntKind} {c : Value} {y : DataW H × List MemPlace}
    (ht : P.underlying t = some (.int k)) (h : DataW.trod enc P w base sp held fuel t [c] = some y) : ∃ n, c = .int k n ∧ y = (.lit (.int k n), []) := by
  cases fuel with
  | zero => simp [DataW.trod] at h
  | succ fuel =>
    cases c <;> simp [DataW.trod, ht] at h
    rename_i k' n
    obtain ⟨⟨rfl, _⟩, rfl⟩ := h
    exact ⟨n, rfl, rfl⟩
theorem ints_cells {P : Program} {w : World} {sp : Nat → Bool} {fuel : Nat} {t E : TypeId} {k : IntKind} {N : Nat} {cs : List Value} {xs : List Int} {p : List MemPlace}
    (ht : P.underlying t = some (.array N E)) (hE : P.underlying E = some (.int k)) (hc : P.cellsOf E = 1) (hct : P.cellsOf t = N)
    (h : DataW.trod (fun _ => ()) P w 0 sp false fuel t cs = some (.agg (xs.map fun x => .lit (.int k x)), p)) : cs = nums k xs := by
  obtain ⟨ys, m, _, hx, hl, hn, hel⟩ := DataW.trod_array ht h
  simp only [Prod.mk.injEq, DataW.agg.injEq] at hx
  obtain ⟨hx, _⟩ := hx
  have hlen : xs.length = N := by have := congrArg List.length hx; simpa [hn] using this
  rw [hct] at hl
  refine List.ext_getElem (by rw [hl, nums, List.length_map, hlen]) fun i h1 h2 => ?_
  have hi : i < N := by omega
  have h3 := hel i hi
  rw [hc, Nat.mul_one, List.drop_eq_getElem_cons h1, List.take_succ_cons, List.take_zero, List.getElem?_eq_getElem (by omega)] at h3
  obtain ⟨n, e1, e2⟩ := lit_of_trod hE h3
  have h4 := congrArg (·[i]?) hx
  simp only [List.getElem?_map] at h4
  rw [List.getElem?_eq_getElem (by omega), List.getElem?_eq_getElem (by omega), Option.map_some, Option.map_some, e2] at h4
  simp at h4
  rw [e1, ← h4]
  simp [nums]
theorem laidAt_of {P : Program} {W : World} {l : List (String × DataW Unit)} {n : String} {g N : Nat} {t E : TypeId} {k : IntKind} {xs : List Int}
    (h : laidMetH P l W) (hp : (l.all fun x => x.2.handleName?.isNone) = true) (hm : (n, DataW.agg (xs.map fun x => .lit (.int k x))) ∈ l) (hg : P.globalNamed n = some g) (hgt : (P.globals[g]?).map (·.type) = some t)
    (ht : P.underlying t = some (.array N E)) (hE : P.underlying E = some (.int k)) (hc : P.cellsOf E = 1) (hct : P.cellsOf t = N) : LaidAt W g (nums k xs).toArray := by
  rw [MakeChecks.laidMetH_plain _ _ _ hp] at h
  obtain ⟨ps, hv, _⟩ := h
  obtain ⟨g', t', cs, fuel, p, h1, h2, h3, h4⟩ := laidVars_mem hv hm
  obtain rfl := Option.some.inj (hg.symm.trans h1)
  obtain rfl := Option.some.inj (hgt.symm.trans h2)
  have h5 := ints_cells ht hE hc hct h4
  have h6 : cs = (nums k xs).toArray := by rw [← h5]
  subst h6
  simp only [World.var?, h1, Option.bind_some] at h3
  split at h3
  · rename_i c t2 fr hh
    cases h3
    exact ⟨t2, fr, hh⟩
  · cases h3
theorem i64_b {a : Int} (h : (Lit.int .i64 a).wf = true) : -9223372036854775808 ≤ a ∧ a ≤ 9223372036854775807 := by
  have h2 : (decide (-9223372036854775808 ≤ a) && decide (a ≤ 9223372036854775807)) = true := h
  simpa using h2
end Go.Proofs.YtdmeocoehahopaaDoor.Laid
namespace Go.Proofs.YtdmeocoehahopaaDoor.Ten
def sumV : List Int → Int
  | [] => 0
  | x :: t => x + sumV t
theorem sumV_append (a b : List Int) : sumV (a ++ b) = sumV a + sumV b := by
  induction a with
  | nil => simp [sumV]
  | cons x t ih => simp only [List.cons_append, sumV, ih]; omega
theorem sumV_bd {l : List Int} (h : ∀ x ∈ l, 0 ≤ x ∧ x ≤ 65536) : 0 ≤ sumV l ∧ sumV l ≤ 65536 * (l.length : Int) := by
  induction l with
  | nil => simp [sumV]
  | cons x t ih =>
    have h1 := ih fun y hy => h y (List.Mem.tail _ hy)
    have h2 := h x (List.Mem.head _)
    simp only [sumV, List.length_cons]
    omega
theorem sumV_ge {l : List Int} (h : ∀ x ∈ l, 0 ≤ x) {y : Int} (hy : y ∈ l) : y ≤ sumV l := by
  induction l with
  | nil => cases hy
  | cons x t ih =>
    have h0 : ∀ z ∈ t, 0 ≤ z := fun z hz => h z (List.Mem.tail _ hz)
    have h1 : 0 ≤ sumV t := by
      clear ih hy
      induction t with
      | nil => simp [sumV]
      | cons a t ih => have := ih (fun z hz => h z (by cases hz with | head => exact List.Mem.head _ | tail _ hz => exact List.Mem.tail _ (List.Mem.tail _ hz))) (fun z hz => h0 z (List.Mem.tail _ hz)); have := h0 a (List.Mem.head _); simp only [sumV]; omega
    have h2 := h x (List.Mem.head _)
    simp only [sumV]
    cases hy with
    | head => omega
    | tail _ hy => have := ih h0 hy; omega
end Go.Proofs.YtdmeocoehahopaaDoor.Ten
namespace Go.Proofs.YtdmeocoehahopaaDoor.Draw
open Go.RowKit Go.Proofs.YtdmeocoehahopaaDoorW.PrintWords Go.Proofs.YtdmeocoehahopaaDoorW.PrintLast Go.Proofs.YtdmeocoehahopaaDoorW.PrintMore Go.Proofs.YtdmeocoehahopaaDoor.K Go.Proofs.YtdmeocoehahopaaDoor.Sha Go.Proofs.YtdmeocoehahopaaDoor.Codec Go.Proofs.YtdmeocoehahopaaDoor.RI Go.Proofs.YtdmeocoehahopaaDoor.Ten
set_option linter.unusedVariables false
set_option linter.unusedSimpArgs false
def isWt (n : Int) : Bool := decide (0 ≤ n ∧ n ≤ 2147483648)
def atL : List Int → Int → Nat
  | [], _ => 0
  | y :: ys, x => if y ≤ x then atL ys (x - y) + 1 else 0
def preV (ws : List Int) (k : Nat) : Int := sumV (ws.take k)
def chooseV (d ws : List Int) (c : Int) : Int × Int × Int :=
  if ws.length = 0 ∨ 512 < ws.length then (0, 13, c)
  else if ws.all isWt = true then (if sumV ws = 0 then (0, 14, c) else if (belowV d (sumV ws) c).2.1 = 0 then ((atL ws (belowV d (sumV ws) c).1 : Int), 0, (belowV d (sumV ws) c).2.2) else (0, (belowV d (sumV ws) c).2.1, c))
  else (0, 10, c)
def ChooseR (d ws : List Int) (c x er c' : Int) : Prop := chooseV d ws c = (x, er, c')
theorem sumV_one (x : Int) : sumV [x] = x := by simp [sumV]
theorem preV_zero (ws : List Int) : preV ws 0 = 0 := rfl
theorem preV_succ (ws : List Int) (k : Nat) (h : k < ws.length) : preV ws (k + 1) = preV ws k + ws.getD k 0 := by
  unfold preV
  rw [List.take_succ_eq_append_getElem h, sumV_append, sumV_one, List.getD_eq_getElem?_getD, List.getElem?_eq_getElem h, Option.getD_some]
theorem preV_all (ws : List Int) : preV ws ws.length = sumV ws := by unfold preV; rw [List.take_length]
theorem atL_drop (ws : List Int) (k : Nat) (h : k < ws.length) (y : Int) : atL (ws.drop k) y = if ws.getD k 0 ≤ y then atL (ws.drop (k + 1)) (y - ws.getD k 0) + 1 else 0 := by
  rw [List.drop_eq_getElem_cons h, List.getD_eq_getElem?_getD, List.getElem?_eq_getElem h, Option.getD_some]
  rfl
/-- How far the search has come. -/
def AtInv (ws : List Int) (x : Int) (k : Nat) : Prop := k < ws.length ∧ atL ws x = k + atL (ws.drop k) (x - preV ws k) ∧ preV ws k ≤ x ∧ x < sumV ws
theorem AtInv.start {ws : List Int} {x : Int} (h : 0 < ws.length) (h0 : 0 ≤ x) (h1 : x < sumV ws) : AtInv ws x 0 := ⟨h, by simp [preV_zero], by rw [preV_zero]; exact h0, h1⟩
theorem AtInv.next {ws : List Int} {x : Int} {k : Nat} (h : AtInv ws x k) (hle : preV ws (k + 1) ≤ x) : AtInv ws x (k + 1) := by
  obtain ⟨h1, h2, h3, h4⟩ := h
  have hs := preV_succ ws k h1
  have hd := atL_drop ws k h1 (x - preV ws k)
  rw [if_pos (by omega)] at hd
  refine ⟨?_, ?_, hle, h4⟩
  · rcases Nat.lt_or_ge (k + 1) ws.length with h | h
    · exact h
    · have e : k + 1 = ws.length := by omega
      rw [e, preV_all] at hle
      omega
  · rw [h2, hd, hs, show x - (preV ws k + ws.getD k 0) = x - preV ws k - ws.getD k 0 by omega]
    omega
theorem AtInv.done {ws : List Int} {x : Int} {k : Nat} (h : AtInv ws x k) (hgt : x < preV ws (k + 1)) : atL ws x = k := by
  obtain ⟨h1, h2, h3, h4⟩ := h
  have hs := preV_succ ws k h1
  have hd := atL_drop ws k h1 (x - preV ws k)
  rw [if_neg (by omega)] at hd
  omega
theorem wt_get {ws : List Int} (h : ws.all isWt = true) (k : Nat) : 0 ≤ ws.getD k 0 ∧ ws.getD k 0 ≤ 2147483648 := by
  rcases Nat.lt_or_ge k ws.length with h1 | h1
  · rw [List.getD_eq_getElem?_getD, List.getElem?_eq_getElem h1]
    exact of_decide_eq_true (List.all_eq_true.1 h _ (List.getElem_mem h1))
  · rw [List.getD_eq_getElem?_getD, List.getElem?_eq_none h1]
    decide
theorem preV_bd {ws : List Int} (h : ws.all isWt = true) : ∀ k : Nat, k ≤ ws.length → 0 ≤ preV ws k ∧ preV ws k ≤ 2147483648 * (k : Int)
  | 0, _ => by rw [preV_zero]; omega
  | k + 1, hk => by
    have h1 := preV_bd h k (by omega)
    have h2 := wt_get h k
    rw [preV_succ ws k (by omega), Int.natCast_add]
    omega
theorem take_all_succ {p : Int → Bool} {l : List Int} {k : Nat} (h : k < l.length) (hk : (l.take k).all p = true) (hp : p (l.getD k 0) = true) : (l.take (k + 1)).all p = true := by
  rw [List.take_succ_eq_append_getElem h, List.all_append, hk]
  rw [List.getD_eq_getElem?_getD, List.getElem?_eq_getElem h, Option.getD_some] at hp
  simp [hp]
theorem all_not {p : Int → Bool} {l : List Int} {k : Nat} (h : k < l.length) (hp : p (l.getD k 0) = false) : l.all p = false := by
  rw [List.all_eq_false]
  rw [List.getD_eq_getElem?_getD, List.getElem?_eq_getElem h, Option.getD_some] at hp
  exact ⟨_, List.getElem_mem h, by simp [hp]⟩
theorem preV_bd' {ws : List Int} {k : Nat} (h : (ws.take k).all isWt = true) (hk : k ≤ ws.length) : 0 ≤ preV ws k ∧ preV ws k ≤ 2147483648 * (k : Int) := by
  have h1 := preV_bd h k (by rw [List.length_take]; omega)
  have e : preV (ws.take k) k = preV ws k := by unfold preV; rw [List.take_take, Nat.min_self]
  rwa [e] at h1
theorem chooseV_size {d ws : List Int} {c : Int} (h : ws.length = 0 ∨ 512 < ws.length) : chooseV d ws c = (0, 13, c) := if_pos h
theorem chooseV_range {d ws : List Int} {c : Int} (h : ¬ (ws.length = 0 ∨ 512 < ws.length)) (h2 : ws.all isWt = false) : chooseV d ws c = (0, 10, c) := by
  unfold chooseV
  rw [if_neg h, if_neg (by rw [h2]; simp)]
theorem chooseV_none {d ws : List Int} {c : Int} (h : ¬ (ws.length = 0 ∨ 512 < ws.length)) (h2 : ws.all isWt = true) (h3 : sumV ws = 0) : chooseV d ws c = (0, 14, c) := by
  unfold chooseV
  rw [if_neg h, if_pos h2, if_pos h3]
theorem chooseV_err {d ws : List Int} {c x er c' : Int} (h : ¬ (ws.length = 0 ∨ 512 < ws.length)) (h2 : ws.all isWt = true) (h3 : sumV ws ≠ 0) (h4 : belowV d (sumV ws) c = (x, er, c')) (h5 : er ≠ 0) : chooseV d ws c = (0, er, c) := by
  unfold chooseV
  rw [if_neg h, if_pos h2, if_neg h3, h4, if_neg h5]
theorem chooseV_ok {d ws : List Int} {c x c' : Int} (h : ¬ (ws.length = 0 ∨ 512 < ws.length)) (h2 : ws.all isWt = true) (h3 : sumV ws ≠ 0) (h4 : belowV d (sumV ws) c = (x, 0, c')) : chooseV d ws c = ((atL ws x : Int), 0, c') := by
  unfold chooseV
  rw [if_neg h, if_pos h2, if_neg h3, h4, if_pos rfl]
theorem belowF_x (d : List Int) (n : Int) (hn : 0 < n) : ∀ (k : Nat) (c x er c' : Int), belowF d n k c = (x, er, c') → 0 ≤ x ∧ x < n
  | 0, c, x, er, c', h => by cases h; exact ⟨by decide, hn⟩
  | k + 1, c, x, er, c', h => by
    unfold belowF at h
    split at h
    · cases h; exact ⟨by decide, hn⟩
    · split at h
      · cases h; exact ⟨Int.emod_nonneg _ (by omega), Int.emod_lt_of_pos _ hn⟩
      · exact belowF_x d n hn k (c + 1) x er c' h
theorem belowV_x {d : List Int} {n c x er c' : Int} (hn : 0 < n) (h : belowV d n c = (x, er, c')) : 0 ≤ x ∧ x < n := by
  unfold belowV at h
  rw [if_neg (by omega)] at h
  exact belowF_x d n hn 64 c x er c' h
end Go.Proofs.YtdmeocoehahopaaDoor.Draw
namespace Go.Proofs.YtdmeocoehahopaaDoor.Sort
set_option linter.unusedVariables false
set_option linter.unusedSimpArgs false
def swF (f : Nat → Int) (a b n : Nat) (j : Nat) : Int := if a ≤ j ∧ j < a + n then f (b + (j - a)) else if b ≤ j ∧ j < b + n then f (a + (j - b)) else f j
def rotF (f : Nat → Int) (a m b : Nat) (j : Nat) : Int := if a ≤ j ∧ j < a + (b - m) then f (m + (j - a)) else if a + (b - m) ≤ j ∧ j < b then f (a + (j - (a + (b - m)))) else f j
theorem rot_gt (f : Nat → Int) (i j m : Nat) (h1 : j < i) (h2 : i ≤ m) (t : Nat) : rotF (swF f (m - i) m j) (m - (i - j)) m (m + j) t = rotF f (m - i) m (m + j) t := by
  unfold rotF swF
  repeat' split
  all_goals first | (exfalso; omega) | (congr 1 <;> omega)
theorem rot_lt (f : Nat → Int) (i j m : Nat) (h1 : i < j) (h2 : i ≤ m) (t : Nat) : rotF (swF f (m - i) (m + j - i) i) (m - i) m (m + (j - i)) t = rotF f (m - i) m (m + j) t := by
  unfold rotF swF
  repeat' split
  all_goals first | (exfalso; omega) | (congr 1 <;> omega)
theorem rot_eq (f : Nat → Int) (i m : Nat) (h2 : i ≤ m) (t : Nat) : swF f (m - i) m i t = rotF f (m - i) m (m + i) t := by
  unfold rotF swF
  repeat' split
  all_goals first | (exfalso; omega) | (congr 1 <;> omega)
theorem swF_step (f : Nat → Int) (a b n : Nat) (h : a + (n + 1) ≤ b) (j : Nat) : swF f a b (n + 1) j = if j = b + n then swF f a b n (a + n) else if j = a + n then swF f a b n (b + n) else swF f a b n j := by
  unfold swF
  repeat' split
  all_goals first | (exfalso; omega) | (congr 1 <;> omega)
/-- A strict total order. -/
structure Strict (pr : Int → Int → Prop) : Prop where
  irrefl : ∀ x, ¬ pr x x
  trans : ∀ x y z, pr x y → pr y z → pr x z
  total : ∀ x y, x ≠ y → pr x y ∨ pr y x
def SortedOn (pr : Int → Int → Prop) (f : Nat → Int) (a b : Nat) : Prop := ∀ i j, a ≤ i → i < j → j < b → pr (f i) (f j)
def FromOn (f g : Nat → Int) (a b : Nat) : Prop := ∀ i, a ≤ i → i < b → ∃ j, a ≤ j ∧ j < b ∧ g i = f j
def SameOff (f g : Nat → Int) (a b : Nat) : Prop := ∀ i, (i < a ∨ b ≤ i) → g i = f i
/-- What the comparison tells of one from the right, and one from the left. -/
def Tells2 (pr : Int → Int → Prop) (cf : Int → Int → Int) (f : Nat → Int) (a m b : Nat) : Prop := ∀ p q, a ≤ p → p < m → m ≤ q → q < b → f p ≠ f q ∧ (cf (f q) (f p) < 0 ↔ pr (f q) (f p))
/-- The cut of a merge by turning: up to it the left one is ahead, from it on the right one. -/
def CutAt (pr : Int → Int → Prop) (f : Nat → Int) (lo hi n s : Nat) : Prop := lo ≤ s ∧ s ≤ hi ∧ (∀ c, lo ≤ c → c < s → pr (f c) (f (n - 1 - c))) ∧ (∀ c, s ≤ c → c < hi → pr (f (n - 1 - c)) (f c))
structure Merged (pr : Int → Int → Prop) (f g : Nat → Int) (a b : Nat) : Prop where
  sorted : SortedOn pr g a b
  from_ : FromOn f g a b
  off : SameOff f g a b
theorem Merged.comp {pr : Int → Int → Prop} {f g h : Nat → Int} {a b : Nat} (h1 : FromOn f g a b) (h2 : SameOff f g a b) (k : Merged pr g h a b) : Merged pr f h a b :=
  ⟨k.sorted, fun i hi1 hi2 => by
    obtain ⟨j, j1, j2, j3⟩ := k.from_ i hi1 hi2
    obtain ⟨t, t1, t2, t3⟩ := h1 j j1 j2
    exact ⟨t, t1, t2, j3.trans t3⟩, fun i hi => (k.off i hi).trans (h2 i hi)⟩
theorem rot_from (f : Nat → Int) (a s m e b : Nat) (h1 : a ≤ s) (h2 : s ≤ m) (h3 : m ≤ e) (h4 : e ≤ b) : FromOn f (rotF f s m e) a b := fun i hi1 hi2 => by
  unfold rotF
  repeat' split
  · exact ⟨m + (i - s), by omega, by omega, rfl⟩
  · exact ⟨s + (i - (s + (e - m))), by omega, by omega, rfl⟩
  · exact ⟨i, hi1, hi2, rfl⟩
theorem rot_off (f : Nat → Int) (a s m e b : Nat) (h1 : a ≤ s) (h2 : s ≤ m) (h3 : m ≤ e) (h4 : e ≤ b) : SameOff f (rotF f s m e) a b := fun i hi => by
  unfold rotF
  repeat' split
  all_goals first | (exfalso; omega) | rfl
/-- The whole of a merge by turning. -/
theorem sym_merge {pr : Int → Int → Prop} {cf : Int → Int → Int} (hS : Strict pr) {f g1 g2 : Nat → Int} {a m b mid s e : Nat} (ham : a < m) (hmb : m < b) (hmid : mid = (a + b) / 2) (hL : SortedOn pr f a m) (hR : SortedOn pr f m b)
    (hcut : CutAt pr f (if mid < m then mid + m - b else a) (if mid < m then mid else m) (mid + m) s) (he : e = mid + m - s)
    (h1 : Merged pr (rotF f s m e) g1 a mid) (h2 : Merged pr g1 g2 mid b) : Merged pr f g2 a b ∧ a ≤ s ∧ s ≤ m ∧ m ≤ e ∧ e ≤ b ∧ s ≤ mid ∧ mid ≤ e := by
  obtain ⟨lo, hi', hlh, c1, c2, c3, c4⟩ : ∃ lo hi, ((mid < m ∧ lo = mid + m - b ∧ hi = mid) ∨ (m ≤ mid ∧ lo = a ∧ hi = m)) ∧ CutAt pr f lo hi (mid + m) s := by
    by_cases h : mid < m
    · rw [if_pos h, if_pos h] at hcut
      exact ⟨_, _, .inl ⟨h, rfl, rfl⟩, hcut⟩
    · rw [if_neg h, if_neg h] at hcut
      exact ⟨_, _, .inr ⟨by omega, rfl, rfl⟩, hcut⟩
  clear hcut
  have hb : a ≤ s ∧ s ≤ m ∧ m ≤ e ∧ e ≤ b ∧ s ≤ mid ∧ mid ≤ e := by omega
  refine ⟨?_, hb⟩
  obtain ⟨b1, b2, b3, b4, b5, b6⟩ := hb
  -- those in the first half are ahead of those in the second one
  have low : ∀ i, a ≤ i → i < mid → ∀ j, mid ≤ j → j < b → pr (rotF f s m e i) (rotF f s m e j) := by
    intro i hi1 hi2 j hj1 hj2
    -- the four rows
    have eL : ∀ i, a ≤ i → i < s → rotF f s m e i = f i := fun i _ _ => by unfold rotF; rw [if_neg (by omega), if_neg (by omega)]
    have eR : ∀ i, s ≤ i → i < mid → rotF f s m e i = f (m + (i - s)) := fun i _ _ => by unfold rotF; rw [if_pos (by omega)]
    have eL2 : ∀ j, mid ≤ j → j < e → rotF f s m e j = f (s + (j - mid)) := fun j _ _ => by
      unfold rotF; rw [if_neg (by omega), if_pos (by omega)]; congr 1 <;> omega
    have eR2 : ∀ j, e ≤ j → j < b → rotF f s m e j = f j := fun j _ _ => by unfold rotF; rw [if_neg (by omega), if_neg (by omega)]
    have leL : ∀ p q, a ≤ p → p ≤ q → q < m → p = q ∨ pr (f p) (f q) := fun p q _ _ _ => by
      rcases Nat.lt_or_ge p q with h | h
      · exact .inr (hL p q (by omega) h (by omega))
      · exact .inl (by omega)
    have leR : ∀ p q, m ≤ p → p ≤ q → q < b → p = q ∨ pr (f p) (f q) := fun p q _ _ _ => by
      rcases Nat.lt_or_ge p q with h | h
      · exact .inr (hR p q (by omega) h (by omega))
      · exact .inl (by omega)
    have ch : ∀ {x y z w : Int}, (x = y ∨ pr x y) → pr y z → (z = w ∨ pr z w) → pr x w := fun {x y z w} h1 h2 h3 => by
      have h4 : pr x z := by rcases h1 with rfl | h1; exact h2; exact hS.trans _ _ _ h1 h2
      rcases h3 with rfl | h3
      · exact h4
      · exact hS.trans _ _ _ h4 h3
    have fe : ∀ {p q : Nat}, (p = q ∨ pr (f p) (f q)) → (f p = f q ∨ pr (f p) (f q)) := fun {p q} h => by rcases h with rfl | h; exact .inl rfl; exact .inr h
    rcases Nat.lt_or_ge i s with hi | hi
    · rw [eL i hi1 hi]
      rcases Nat.lt_or_ge j e with hj | hj
      · rw [eL2 j hj1 hj]
        exact hL _ _ hi1 (by omega) (by omega)
      · rw [eR2 j hj hj2]
        have h9 := c3 (s - 1) (by omega) (by omega)
        rw [show mid + m - 1 - (s - 1) = e by omega] at h9
        exact ch (fe (leL i (s - 1) hi1 (by omega) (by omega))) h9 (fe (leR e j (by omega) (by omega) hj2))
    · rw [eR i hi hi2]
      rcases Nat.lt_or_ge j e with hj | hj
      · rw [eL2 j hj1 hj]
        have h9 := c4 s (Nat.le_refl _) (by omega)
        rw [show mid + m - 1 - s = e - 1 by omega] at h9
        exact ch (fe (leR _ (e - 1) (by omega) (by omega) (by omega))) h9 (fe (leL s _ (by omega) (by omega) (by omega)))
      · rw [eR2 j hj hj2]
        exact hR _ _ (by omega) (by omega) hj2
  have g1off : ∀ j, mid ≤ j → g1 j = rotF f s m e j := fun j hj => h1.off j (.inr hj)
  have sorted : SortedOn pr g2 a b := by
    intro i j hi hij hj
    rcases Nat.lt_or_ge j mid with hj2 | hj2
    · rw [h2.off i (.inl (by omega)), h2.off j (.inl hj2)]
      exact h1.sorted i j hi hij hj2
    · rcases Nat.lt_or_ge i mid with hi2 | hi2
      · rw [h2.off i (.inl hi2)]
        obtain ⟨p, p1, p2, p3⟩ := h1.from_ i hi hi2
        obtain ⟨q, q1, q2, q3⟩ := h2.from_ j hj2 hj
        rw [p3, q3, g1off q q1]
        exact low p p1 p2 q q1 q2
      · exact h2.sorted i j hi2 hij hj
  have fr : FromOn (rotF f s m e) g2 a b := by
    intro i hi1 hi2
    rcases Nat.lt_or_ge i mid with h | h
    · rw [h2.off i (.inl h)]
      obtain ⟨p, p1, p2, p3⟩ := h1.from_ i hi1 h
      exact ⟨p, p1, by omega, p3⟩
    · obtain ⟨q, q1, q2, q3⟩ := h2.from_ i h hi2
      exact ⟨q, by omega, q2, by rw [q3, g1off q q1]⟩
  have of : SameOff (rotF f s m e) g2 a b := by
    intro i hi
    rw [h2.off i (by omega)]
    exact h1.off i (by omega)
  exact Merged.comp (rot_from f a s m e b b1 b2 b3 b4) (rot_off f a s m e b b1 b2 b3 b4) ⟨sorted, fr, of⟩
end Go.Proofs.YtdmeocoehahopaaDoor.Sort
namespace Go.Proofs.YtdmeocoehahopaaDoor.Sort
set_option linter.unusedVariables false
set_option linter.unusedSimpArgs false
/-- How far the search for the cut has come. -/
structure CutInv (pr : Int → Int → Prop) (f : Nat → Int) (lo hi n s r : Nat) : Prop where
  h1 : lo ≤ s
  h2 : s ≤ r
  h3 : r ≤ hi
  h4 : ∀ c, lo ≤ c → c < s → pr (f c) (f (n - 1 - c))
  h5 : ∀ c, r ≤ c → c < hi → pr (f (n - 1 - c)) (f c)
theorem CutInv.start {pr : Int → Int → Prop} {f : Nat → Int} {lo hi n : Nat} (h : lo ≤ hi) : CutInv pr f lo hi n lo hi := ⟨Nat.le_refl _, h, Nat.le_refl _, fun c h1 h2 => by omega, fun c h1 h2 => by omega⟩
theorem CutInv.done {pr : Int → Int → Prop} {f : Nat → Int} {lo hi n s : Nat} (h : CutInv pr f lo hi n s s) : CutAt pr f lo hi n s := ⟨h.h1, h.h3, h.h4, h.h5⟩
/-- The places of the search lie left and right. -/
structure CutOk (pr : Int → Int → Prop) (cf : Int → Int → Int) (f : Nat → Int) (a m b lo hi n : Nat) : Prop where
  strict : Strict pr
  left : SortedOn pr f a m
  right : SortedOn pr f m b
  tells : Tells2 pr cf f a m b
  lo_ : a ≤ lo
  hi_ : hi ≤ m
  in_ : ∀ c, lo ≤ c → c < hi → m ≤ n - 1 - c ∧ n - 1 - c < b ∧ c ≤ n - 1
theorem CutOk.up {pr : Int → Int → Prop} {cf : Int → Int → Int} {f : Nat → Int} {a m b lo hi n s r c : Nat} (k : CutOk pr cf f a m b lo hi n) (h : CutInv pr f lo hi n s r) (h1 : s ≤ c) (h2 : c < r) (ht : ¬ cf (f (n - 1 - c)) (f c) < 0) : CutInv pr f lo hi n (c + 1) r := by
  have hc := k.in_ c (by have := h.h1; omega) (by have := h.h3; omega)
  have ht2 := k.tells c (n - 1 - c) (by have := h.h1; have := k.lo_; omega) (by have := h.h3; have := k.hi_; omega) hc.1 hc.2.1
  have hp : pr (f c) (f (n - 1 - c)) := by
    rcases k.strict.total _ _ ht2.1 with h9 | h9
    · exact h9
    · exact absurd (ht2.2.2 h9) ht
  refine ⟨by have := h.h1; omega, by omega, h.h3, fun d d1 d2 => ?_, h.h5⟩
  rcases Nat.lt_or_ge d c with h9 | h9
  · have hd := k.in_ d d1 (by have := h.h3; omega)
    exact k.strict.trans _ _ _ (k.left d c (by have := k.lo_; omega) h9 (by have := h.h3; have := k.hi_; omega)) (k.strict.trans _ _ _ hp (k.right (n - 1 - c) (n - 1 - d) hc.1 (by omega) hd.2.1))
  · obtain rfl : d = c := by omega
    exact hp
theorem CutOk.down {pr : Int → Int → Prop} {cf : Int → Int → Int} {f : Nat → Int} {a m b lo hi n s r c : Nat} (k : CutOk pr cf f a m b lo hi n) (h : CutInv pr f lo hi n s r) (h1 : s ≤ c) (h2 : c < r) (ht : cf (f (n - 1 - c)) (f c) < 0) : CutInv pr f lo hi n s c := by
  have hc := k.in_ c (by have := h.h1; omega) (by have := h.h3; omega)
  have ht2 := k.tells c (n - 1 - c) (by have := h.h1; have := k.lo_; omega) (by have := h.h3; have := k.hi_; omega) hc.1 hc.2.1
  have hp : pr (f (n - 1 - c)) (f c) := ht2.2.1 ht
  refine ⟨h.h1, h1, by have := h.h3; omega, h.h4, fun d d1 d2 => ?_⟩
  rcases Nat.lt_or_ge c d with h9 | h9
  · have hd := k.in_ d (by have := h.h1; omega) d2
    exact k.strict.trans _ _ _ (k.right (n - 1 - d) (n - 1 - c) hd.1 (by omega) hc.2.1) (k.strict.trans _ _ _ hp (k.left c d (by have := h.h1; have := k.lo_; omega) h9 (by have := k.hi_; omega)))
  · obtain rfl : d = c := by omega
    exact hp
/-- One alone on the left. -/
structure OneL (pr : Int → Int → Prop) (f : Nat → Int) (a b i j : Nat) : Prop where
  h1 : a + 1 ≤ i
  h2 : i ≤ j
  h3 : j ≤ b
  h4 : ∀ h, a + 1 ≤ h → h < i → pr (f h) (f a)
  h5 : ∀ h, j ≤ h → h < b → pr (f a) (f h)
theorem OneL.start {pr : Int → Int → Prop} {f : Nat → Int} {a b : Nat} (h : a + 1 ≤ b) : OneL pr f a b (a + 1) b := ⟨Nat.le_refl _, h, Nat.le_refl _, fun h h1 h2 => by omega, fun h h1 h2 => by omega⟩
theorem OneL.up {pr : Int → Int → Prop} {cf : Int → Int → Int} {f : Nat → Int} {a b i j h : Nat} (hS : Strict pr) (hR : SortedOn pr f (a + 1) b) (hT : Tells2 pr cf f a (a + 1) b) (k : OneL pr f a b i j) (h1 : i ≤ h) (h2 : h < j) (ht : cf (f h) (f a) < 0) : OneL pr f a b (h + 1) j := by
  have hp := (hT a h (Nat.le_refl _) (by omega) (by have := k.h1; omega) (by have := k.h3; omega)).2.1 ht
  refine ⟨by have := k.h1; omega, by omega, k.h3, fun d d1 d2 => ?_, k.h5⟩
  rcases Nat.lt_or_ge d h with h9 | h9
  · exact hS.trans _ _ _ (hR d h d1 h9 (by have := k.h3; omega)) hp
  · obtain rfl : d = h := by omega
    exact hp
theorem OneL.down {pr : Int → Int → Prop} {cf : Int → Int → Int} {f : Nat → Int} {a b i j h : Nat} (hS : Strict pr) (hR : SortedOn pr f (a + 1) b) (hT : Tells2 pr cf f a (a + 1) b) (k : OneL pr f a b i j) (h1 : i ≤ h) (h2 : h < j) (ht : ¬ cf (f h) (f a) < 0) : OneL pr f a b i h := by
  have h0 := hT a h (Nat.le_refl _) (by omega) (by have := k.h1; omega) (by have := k.h3; omega)
  have hp : pr (f a) (f h) := by
    rcases hS.total _ _ h0.1 with h9 | h9
    · exact h9
    · exact absurd (h0.2.2 h9) ht
  refine ⟨k.h1, h1, by have := k.h3; omega, k.h4, fun d d1 d2 => ?_⟩
  rcases Nat.lt_or_ge h d with h9 | h9
  · exact hS.trans _ _ _ hp (hR h d (by have := k.h1; omega) h9 d2)
  · obtain rfl : d = h := by omega
    exact hp
theorem OneL.merged {pr : Int → Int → Prop} {f : Nat → Int} {a b i : Nat} (hS : Strict pr) (hR : SortedOn pr f (a + 1) b) (k : OneL pr f a b i i) : Merged pr f (rotF f a (a + 1) i) a b := by
  obtain ⟨k1, k2, k3, k4, k5⟩ := k
  refine ⟨fun p q hp hpq hq => ?_, rot_from f a a (a + 1) i b (Nat.le_refl _) (by omega) k1 k3, rot_off f a a (a + 1) i b (Nat.le_refl _) (by omega) k1 k3⟩
  have e1 : ∀ j, a ≤ j → j < i - 1 → rotF f a (a + 1) i j = f (j + 1) := fun j _ _ => by unfold rotF; rw [if_pos (by omega)]; congr 1 <;> omega
  have e2 : rotF f a (a + 1) i (i - 1) = f a := by
    unfold rotF
    rw [if_neg (by omega), if_pos (by omega)]
    congr 1 <;> omega
  have e3 : ∀ j, i ≤ j → rotF f a (a + 1) i j = f j := fun j _ => by unfold rotF; rw [if_neg (by omega), if_neg (by omega)]
  rcases Nat.lt_or_ge q (i - 1) with h | h
  · rw [e1 p hp (by omega), e1 q (by omega) h]
    exact hR _ _ (by omega) (by omega) (by omega)
  · rcases Nat.lt_or_ge q i with h2 | h2
    · obtain rfl : q = i - 1 := by omega
      rw [e1 p hp (by omega), e2]
      exact k4 _ (by omega) (by omega)
    · rw [e3 q h2]
      rcases Nat.lt_or_ge p (i - 1) with h3 | h3
      · rw [e1 p hp h3]
        exact hR _ _ (by omega) (by omega) hq
      · rcases Nat.lt_or_ge p i with h4 | h4
        · obtain rfl : p = i - 1 := by omega
          rw [e2]
          exact k5 q h2 hq
        · rw [e3 p h4]
          exact hR _ _ (by omega) hpq hq
/-- One alone on the right. -/
structure OneRt (pr : Int → Int → Prop) (f : Nat → Int) (a m i j : Nat) : Prop where
  h1 : a ≤ i
  h2 : i ≤ j
  h3 : j ≤ m
  h4 : ∀ h, a ≤ h → h < i → pr (f h) (f m)
  h5 : ∀ h, j ≤ h → h < m → pr (f m) (f h)
theorem OneRt.start {pr : Int → Int → Prop} {f : Nat → Int} {a m : Nat} (h : a ≤ m) : OneRt pr f a m a m := ⟨Nat.le_refl _, h, Nat.le_refl _, fun h h1 h2 => by omega, fun h h1 h2 => by omega⟩
theorem OneRt.up {pr : Int → Int → Prop} {cf : Int → Int → Int} {f : Nat → Int} {a m i j h : Nat} (hS : Strict pr) (hL : SortedOn pr f a m) (hT : Tells2 pr cf f a m (m + 1)) (k : OneRt pr f a m i j) (h1 : i ≤ h) (h2 : h < j) (ht : ¬ cf (f m) (f h) < 0) : OneRt pr f a m (h + 1) j := by
  have h0 := hT h m (by have := k.h1; omega) (by have := k.h3; omega) (Nat.le_refl _) (by omega)
  have hp : pr (f h) (f m) := by
    rcases hS.total _ _ h0.1 with h9 | h9
    · exact h9
    · exact absurd (h0.2.2 h9) ht
  refine ⟨by have := k.h1; omega, by omega, k.h3, fun d d1 d2 => ?_, k.h5⟩
  rcases Nat.lt_or_ge d h with h9 | h9
  · exact hS.trans _ _ _ (hL d h d1 h9 (by have := k.h3; omega)) hp
  · obtain rfl : d = h := by omega
    exact hp
theorem OneRt.down {pr : Int → Int → Prop} {cf : Int → Int → Int} {f : Nat → Int} {a m i j h : Nat} (hS : Strict pr) (hL : SortedOn pr f a m) (hT : Tells2 pr cf f a m (m + 1)) (k : OneRt pr f a m i j) (h1 : i ≤ h) (h2 : h < j) (ht : cf (f m) (f h) < 0) : OneRt pr f a m i h := by
  have hp := (hT h m (by have := k.h1; omega) (by have := k.h3; omega) (Nat.le_refl _) (by omega)).2.1 ht
  refine ⟨k.h1, h1, by have := k.h3; omega, k.h4, fun d d1 d2 => ?_⟩
  rcases Nat.lt_or_ge h d with h9 | h9
  · exact hS.trans _ _ _ hp (hL h d (by have := k.h1; omega) h9 d2)
  · obtain rfl : d = h := by omega
    exact hp
theorem OneRt.merged {pr : Int → Int → Prop} {f : Nat → Int} {a m i : Nat} (hS : Strict pr) (hL : SortedOn pr f a m) (k : OneRt pr f a m i i) : Merged pr f (rotF f i m (m + 1)) a (m + 1) := by
  obtain ⟨k1, k2, k3, k4, k5⟩ := k
  refine ⟨fun p q hp hpq hq => ?_, rot_from f a i m (m + 1) (m + 1) k1 k3 (by omega) (Nat.le_refl _), rot_off f a i m (m + 1) (m + 1) k1 k3 (by omega) (Nat.le_refl _)⟩
  have e1 : ∀ j, j < i → rotF f i m (m + 1) j = f j := fun j _ => by unfold rotF; rw [if_neg (by omega), if_neg (by omega)]
  have e2 : rotF f i m (m + 1) i = f m := by
    unfold rotF
    rw [if_pos (by omega)]
    congr 1 <;> omega
  have e3 : ∀ j, i < j → j < m + 1 → rotF f i m (m + 1) j = f (j - 1) := fun j _ _ => by unfold rotF; rw [if_neg (by omega), if_pos (by omega)]; congr 1 <;> omega
  rcases Nat.lt_or_ge q i with h | h
  · rw [e1 p (by omega), e1 q h]
    exact hL _ _ hp hpq (by omega)
  · rcases Nat.lt_or_ge i q with h2 | h2
    · rw [e3 q h2 hq]
      rcases Nat.lt_or_ge p i with h3 | h3
      · rw [e1 p h3]
        exact hL _ _ hp (by omega) (by omega)
      · rcases Nat.lt_or_ge i p with h4 | h4
        · rw [e3 p h4 (by omega)]
          exact hL _ _ (by omega) (by omega) (by omega)
        · obtain rfl : p = i := by omega
          rw [e2]
          exact k5 _ (by omega) (by omega)
    · obtain rfl : q = i := by omega
      rw [e1 p hpq, e2]
      exact k4 p hp hpq
/-- A piece moves down, or up, by neighbours: what stands there on the way. -/
theorem move_up (f : Nat → Int) (a k : Nat) (h : a ≤ k) (j : Nat) : rotF f a (a + 1) (k + 2) j = if j = k then rotF f a (a + 1) (k + 1) (k + 1) else if j = k + 1 then rotF f a (a + 1) (k + 1) k else rotF f a (a + 1) (k + 1) j := by
  unfold rotF
  repeat' split
  all_goals first | (exfalso; omega) | (congr 1 <;> omega)
theorem move_down (f : Nat → Int) (k m : Nat) (h : k < m) (j : Nat) : rotF f k m (m + 1) j = if j = k then rotF f (k + 1) m (m + 1) (k + 1) else if j = k + 1 then rotF f (k + 1) m (m + 1) k else rotF f (k + 1) m (m + 1) j := by
  unfold rotF
  repeat' split
  all_goals first | (exfalso; omega) | (congr 1 <;> omega)
theorem rot_id (f : Nat → Int) (a j : Nat) : rotF f a (a + 1) (a + 1) j = f j := by
  unfold rotF
  repeat' split
  all_goals first | (exfalso; omega) | (congr 1 <;> omega)
theorem rot_id' (f : Nat → Int) (m j : Nat) : rotF f m m (m + 1) j = f j := by
  unfold rotF
  repeat' split
  all_goals first | (exfalso; omega) | (congr 1 <;> omega)
end Go.Proofs.YtdmeocoehahopaaDoor.Sort
