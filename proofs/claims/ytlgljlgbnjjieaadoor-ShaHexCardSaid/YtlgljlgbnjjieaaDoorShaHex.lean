/- The walk of ShaHex: whatever the digest and the text, it answers true. -/
import Derived.Test.YtlgljlgbnjjieaaDoorRefUnhex
import Derived.Test.YtlgljlgbnjjieaaDoorRefHex
import Derived.Test.YtlgljlgbnjjieaaDoorShaNil
import Derived.Test.YtlgljlgbnjjieaaDoorShaAwake
namespace Go.Proofs.YtlgljlgbnjjieaaDoor.Hex
open Go.RowKit Go.Proofs.YtlgljlgbnjjieaaDoorW.PrintWords Go.Proofs.YtlgljlgbnjjieaaDoorW.PrintLast Go.Proofs.YtlgljlgbnjjieaaDoorW.PrintMore Go.Proofs.YtlgljlgbnjjieaaDoor.K Go.Proofs.YtlgljlgbnjjieaaDoor.Sha
set_option linter.unusedVariables false
/-- A guarded load of a whole array that is carried out. -/
theorem wpList_load_on {P : Program} {ops : Array Oper} {rest : List Oper} {o : Oper} {a : Act} {w : World} {Q : Exit → Act → World → Prop} (hw : Region.wanted o (yielded ops a.tmps) = true) (ty : TypeId) (x : Operand) (ho : o.op = .load ty x)
    (g : Nat) (hx : a.eval x = .pointer (some ⟨g, 0, none⟩)) (t : TypeId) (cs : Array Value) (fr : Nat × Nat) (d : TypeDesc) (hg : w.heap[g]? = some (.cells cs t fr))
    (hu : P.underlying ty = some d) (hd : (match d with | .struct _ | .array _ _ => true | _ => false) = true) (hi : (P.info? ty).map (·.size) = some cs.size)
    (h : wpList P ops Q rest (a.put o.dst (.agg cs)) w) : wpList P ops Q (o :: rest) a w :=
  wpList_step fun K hK => by
    rw [if_pos hw]
    exact wp_load_row ty x ho g hx t cs fr d hg hu hd hi (hK _ _ h)
set_option maxHeartbeats 4000000 in
set_option maxRecDepth 100000 in
theorem hexlaw_calls (d : List Int) (s : ByteArray) (w : World) (hd : d.length = 32) (hby : ∀ x ∈ d, 0 ≤ x ∧ x < 256) (hLf : LaidAt w 0 firstA) (hL : LaidAt w 1 constA) :
    Calls Tryd.prog 7 #[.agg (dA d), .string s] w fun e w' => e = .returned (.bool true) ∧ Below w.heap.size w w' := by
  have HBy := Aside0.mk hby
  have HDl := Aside0.mk hd
  have HLf := Aside0.mk hLf
  have HL := Aside0.mk hL
  have HD1 := Aside0.mk (dig_info hd)
  clear hLf hL hby hd
  have HR0 : Aside0 ((w.alloc (.cells (dA d) 25)).heap[w.heap.size]? = some (.cells (dA d) 25 (0, 0))) := ⟨heap_alloc_new _ _⟩
  have HB0 : Aside0 (Below w.heap.size w (w.alloc (.cells (dA d) 25))) := ⟨bel_alloc (Below.refl _ _) _⟩
  by_cases hgt : 100 < s.size
  · have hgtD : decide (100 < (s.size : Int)) = true := by simp; omega
    go_enter Tryd.func7, Tryd.ntmps7
    go_wp2_with (fail)
    refine (awake_calls _ (HLf.out.below HB0.out) (HL.out.below HB0.out)).mono ?_
    rintro e w1 ⟨rfl, hb⟩
    have HB := Aside0.mk (below_step HB0.out hb)
    clear hb
    go_wp2_with (fail)
    go_ret
    exact ⟨rfl, HB.out⟩
  · have hgtD : decide (100 < (s.size : Int)) = false := by simp; omega
    go_enter Tryd.func7, Tryd.ntmps7
    go_wp2_with (with_reducible refine wpList_load_row rfl 25 (.tmp 2) rfl w.heap.size rfl 25 (dA d) (0, 0) _ HR0.out Tryd.underlying25 rfl HD1.out ?_)
    generalize w.alloc (.cells (dA d) 25) = w1 at *
    refine (hex_calls d w1 HDl.out HBy.out).mono ?_
    rintro e w2 ⟨rfl, hb⟩
    have HB2 : Aside0 (Below w.heap.size w w2) := ⟨below_step HB0.out hb⟩
    have HR2 : Aside0 (w2.heap[w.heap.size]? = some (.cells (dA d) 25 (0, 0))) := ⟨(hb.block _ (blk_lt HR0.out)).trans HR0.out⟩
    clear hb HB0 HR0
    go_wp2_with (fail)
    refine (unhex_calls ⟨(hexL d).toArray⟩ w2 (by show (hexL d).toArray.size ≤ _; rw [List.size_toArray, hex_length, HDl.out]; decide)).mono ?_
    rintro e w3 ⟨he, hb⟩
    have he2 : e = .returned (.tuple #[.agg (dA d), .int .i64 0]) := by
      rw [he, UnhexEnd, show (({ data := (hexL d).toArray } : ByteArray).data.toList) = hexL d by simp, unhex_hex d HDl.out HBy.out]
    subst he2
    clear he
    have HB3 : Aside0 (Below w.heap.size w w3) := ⟨below_step HB2.out hb⟩
    have HR3 : Aside0 (w3.heap[w.heap.size]? = some (.cells (dA d) 25 (0, 0))) := ⟨(hb.block _ (blk_lt HR2.out)).trans HR2.out⟩
    clear hb HB2 HR2
    have HD2 : Aside0 ((dA (List.replicate 32 0)).size = (dA d).size) := ⟨by rw [dA_size, dA_size, HDl.out]; rfl⟩
    have HD3 := Aside0.mk (dA_one d)
    have HR4x : Aside0 (∀ o : Obj, (w3.alloc o).heap[w.heap.size]? = some (.cells (dA d) 25 (0, 0))) := ⟨fun o => ((bel_alloc (Below.refl _ _) o).block _ (blk_lt HR3.out)).trans HR3.out⟩
    have HB4x : Aside0 (∀ o : Obj, Below w.heap.size w (w3.alloc o)) := ⟨fun o => below_step HB3.out (bel_alloc (Below.refl _ _) o)⟩
    go_wp2_with (first
      | (with_reducible refine wpList_load_row rfl 25 (.tmp 2) rfl w.heap.size rfl 25 (dA d) (0, 0) _ (HR4x.out _) Tryd.underlying25 rfl HD1.out ?_)
      | (rw [z32_lit]; (with_reducible refine wpList_store_row rfl 25 (.tmp 6) (.tmp 21) rfl w3.heap.size (dA d) rfl rfl 25 (dA (List.replicate 32 0)) (heap_alloc_new _ _) HD1.out HD2.out HD3.out ?_); rw [World.setRow_alloc_new]))
    have HR4 : Aside0 ((w3.alloc (.cells (dA d) 25)).heap[w.heap.size]? = some (.cells (dA d) 25 (0, 0))) := ⟨HR4x.out _⟩
    have HQ4 : Aside0 ((w3.alloc (.cells (dA d) 25)).heap[w3.heap.size]? = some (.cells (dA d) 25 (0, 0))) := ⟨heap_alloc_new _ _⟩
    have HB4 : Aside0 (Below w.heap.size w (w3.alloc (.cells (dA d) 25))) := ⟨HB4x.out _⟩
    generalize w3.alloc (.cells (dA d) 25) = w4 at *
    generalize w3.heap.size = g6 at *
    clear HR4x HB4x HR3 HB3
    refine (rhex_calls d w4 HDl.out HBy.out).mono ?_
    rintro e w5 ⟨rfl, hb⟩
    have HB5 : Aside0 (Below w.heap.size w w5) := ⟨below_step HB4.out hb⟩
    have HR5 : Aside0 (w5.heap[w.heap.size]? = some (.cells (dA d) 25 (0, 0))) := ⟨(hb.block _ (blk_lt HR4.out)).trans HR4.out⟩
    have HQ5 : Aside0 (w5.heap[g6]? = some (.cells (dA d) 25 (0, 0))) := ⟨(hb.block _ (blk_lt HQ4.out)).trans HQ4.out⟩
    clear hb HB4 HR4 HQ4
    have hne := neq_same (d := d) HDl.out
    go_wp2_with (first
      | (refine wpList_load_on (by rfl) 25 (.tmp 6) rfl g6 rfl 25 (dA d) (0, 0) _ HQ5.out Tryd.underlying25 rfl HD1.out ?_)
      | (refine wpList_load_on (by rfl) 25 (.tmp 2) rfl w.heap.size rfl 25 (dA d) (0, 0) _ HR5.out Tryd.underlying25 rfl HD1.out ?_)
      | (with_reducible refine wpList_load_row rfl 25 (.tmp 6) rfl g6 rfl 25 (dA d) (0, 0) _ HQ5.out Tryd.underlying25 rfl HD1.out ?_)
      | (with_reducible refine wpList_load_row rfl 25 (.tmp 2) rfl w.heap.size rfl 25 (dA d) (0, 0) _ HR5.out Tryd.underlying25 rfl HD1.out ?_))
    clear hne
    -- TAIL
    cases hu : unhexV s.data.toList with
    | none =>
      have HU := Aside0.mk hu
      clear hu
      obtain ⟨z, hz⟩ : ∃ z, z = List.replicate 32 (0 : Int) := ⟨_, rfl⟩
      have HY : Aside0 (z.length = 32) := ⟨by rw [hz]; rfl⟩
      have HF : Aside0 (Tryd.prog.built 25 [] = some (dA z)) := ⟨by rw [hz]; kernel_rfl⟩
      have HZz := Aside0.mk hz
      clear hz
      have HYl : Aside0 ((z).length = 32) := ⟨HY.out⟩
      have HE1 := Aside0.mk (dig_info (d := z) HYl.out)
      have HE2 : Aside0 ((dA (List.replicate 32 0)).size = (dA z).size) := ⟨by first | with_reducible rfl | (rw [dA_size, dA_size, HYl.out]; rfl)⟩
      have HE3 := Aside0.mk (dA_one z)
      refine (unhex_calls s w5 (by omega)).mono ?_
      rintro e w6 ⟨he, hb⟩
      have he2 : e = .returned (.tuple #[.agg (dA z), .int .i64 11]) := by rw [he, UnhexEnd, HU.out, HZz.out]
      subst he2
      clear he
      have HB6 : Aside0 (Below w.heap.size w w6) := ⟨below_step HB5.out hb⟩
      clear hb
      go_wp2_with (rw [z32_lit]; (with_reducible refine wpList_store_row rfl 25 (.tmp 8) (.tmp 39) rfl w6.heap.size (dA z) rfl rfl 25 (dA (List.replicate 32 0)) (heap_alloc_new _ _) HE1.out HE2.out HE3.out ?_); rw [World.setRow_alloc_new])
      have HB7 : Aside0 (Below w.heap.size w (w6.alloc (.cells (dA z) 25))) := ⟨below_step HB6.out (bel_alloc (Below.refl _ _) _)⟩
      have HP7 : Aside0 ((w6.alloc (.cells (dA z) 25)).heap[w6.heap.size]? = some (.cells (dA z) 25 (0, 0))) := ⟨heap_alloc_new _ _⟩
      generalize w6.alloc (.cells (dA z) 25) = w7 at *
      generalize w6.heap.size = g8 at *
      refine (runhex_calls s w7 (by omega)).mono ?_
      rintro e w8 ⟨he, hb⟩
      have he2 : e = .returned (.tuple #[.agg (dA z), .bool false]) := by rw [he, RUnhexEnd, HU.out, HZz.out]
      subst he2
      clear he
      have HB8 : Aside0 (Below w.heap.size w w8) := ⟨below_step HB7.out hb⟩
      have HP8 : Aside0 (w8.heap[g8]? = some (.cells (dA z) 25 (0, 0))) := ⟨(hb.block _ (blk_lt HP7.out)).trans HP7.out⟩
      clear hb
      have HP8x : Aside0 (∀ o : Obj, (w8.alloc o).heap[g8]? = some (.cells (dA z) 25 (0, 0))) := ⟨fun o => ((bel_alloc (Below.refl _ _) o).block _ (blk_lt HP8.out)).trans HP8.out⟩
      have heq := eql_same (d := z) HYl.out
      have heq2 : ∀ W : World, (binOp .eql 25 (.agg (dA z)) (.agg (#[.int .u8 0, .int .u8 0, .int .u8 0, .int .u8 0, .int .u8 0, .int .u8 0, .int .u8 0, .int .u8 0, .int .u8 0, .int .u8 0, .int .u8 0, .int .u8 0, .int .u8 0, .int .u8 0, .int .u8 0, .int .u8 0, .int .u8 0, .int .u8 0, .int .u8 0, .int .u8 0, .int .u8 0, .int .u8 0, .int .u8 0, .int .u8 0, .int .u8 0, .int .u8 0, .int .u8 0, .int .u8 0, .int .u8 0, .int .u8 0, .int .u8 0, .int .u8 0] : Array Value))).run Tryd.prog W = .ok (.bool true) W := fun W => by
        rw [z32_lit, ← HZz.out]
        exact heq W
      go_wp2_with (first
        | (with_reducible refine wpList_load_row rfl 25 (.tmp 8) rfl g8 rfl 25 (dA z) (0, 0) _ (HP8x.out _) Tryd.underlying25 rfl HE1.out ?_)
        | (refine wpList_buildTo rfl 25 _ rfl (some 49) rfl (dA z) HF.out ?_; simp only [Act.put, List.setIfInBounds_toArray, List.set_cons_zero, List.set_cons_succ])
        | (rw [z32_lit]; (with_reducible refine wpList_store_row rfl 25 (.tmp 10) (.tmp 44) rfl w8.heap.size (dA z) rfl rfl 25 (dA (List.replicate 32 0)) (heap_alloc_new _ _) HE1.out HE2.out HE3.out ?_); rw [World.setRow_alloc_new]))
      have HB9 : Aside0 (Below w.heap.size w (w8.alloc (.cells (dA z) 25))) := ⟨below_step HB8.out (bel_alloc (Below.refl _ _) _)⟩
      refine (awake_calls _ (HLf.out.below HB9.out) (HL.out.below HB9.out)).mono ?_
      rintro e w9 ⟨rfl, hb⟩
      have HBf := Aside0.mk (below_step HB9.out hb)
      clear hb
      go_wp2_with (fail)
      go_ret
      exact ⟨rfl, HBf.out⟩
    | some y =>
      have HU := Aside0.mk hu
      have HY : Aside0 (y.length = 32) := ⟨(hex_unhex _ _ hu).2.1⟩
      clear hu
      have HYl : Aside0 ((y).length = 32) := ⟨HY.out⟩
      have HE1 := Aside0.mk (dig_info (d := y) HYl.out)
      have HE2 : Aside0 ((dA (List.replicate 32 0)).size = (dA y).size) := ⟨by first | with_reducible rfl | (rw [dA_size, dA_size, HYl.out]; rfl)⟩
      have HE3 := Aside0.mk (dA_one y)
      refine (unhex_calls s w5 (by omega)).mono ?_
      rintro e w6 ⟨he, hb⟩
      have he2 : e = .returned (.tuple #[.agg (dA y), .int .i64 0]) := by rw [he, UnhexEnd, HU.out]
      subst he2
      clear he
      have HB6 : Aside0 (Below w.heap.size w w6) := ⟨below_step HB5.out hb⟩
      clear hb
      go_wp2_with (rw [z32_lit]; (with_reducible refine wpList_store_row rfl 25 (.tmp 8) (.tmp 39) rfl w6.heap.size (dA y) rfl rfl 25 (dA (List.replicate 32 0)) (heap_alloc_new _ _) HE1.out HE2.out HE3.out ?_); rw [World.setRow_alloc_new])
      have HB7 : Aside0 (Below w.heap.size w (w6.alloc (.cells (dA y) 25))) := ⟨below_step HB6.out (bel_alloc (Below.refl _ _) _)⟩
      have HP7 : Aside0 ((w6.alloc (.cells (dA y) 25)).heap[w6.heap.size]? = some (.cells (dA y) 25 (0, 0))) := ⟨heap_alloc_new _ _⟩
      generalize w6.alloc (.cells (dA y) 25) = w7 at *
      generalize w6.heap.size = g8 at *
      refine (runhex_calls s w7 (by omega)).mono ?_
      rintro e w8 ⟨he, hb⟩
      have he2 : e = .returned (.tuple #[.agg (dA y), .bool true]) := by rw [he, RUnhexEnd, HU.out]
      subst he2
      clear he
      have HB8 : Aside0 (Below w.heap.size w w8) := ⟨below_step HB7.out hb⟩
      have HP8 : Aside0 (w8.heap[g8]? = some (.cells (dA y) 25 (0, 0))) := ⟨(hb.block _ (blk_lt HP7.out)).trans HP7.out⟩
      clear hb
      have HP8x : Aside0 (∀ o : Obj, (w8.alloc o).heap[g8]? = some (.cells (dA y) 25 (0, 0))) := ⟨fun o => ((bel_alloc (Below.refl _ _) o).block _ (blk_lt HP8.out)).trans HP8.out⟩
      have heq := eql_same (d := y) HYl.out
      have hs2 : (⟨(hexL y).toArray⟩ : ByteArray) = s := by
        rw [(hex_unhex _ _ HU.out).1]
      have HYb := Aside0.mk (hex_unhex _ _ HU.out).2.2
      have HQ8x : Aside0 ((w8.alloc (.cells (dA y) 25)).heap[w8.heap.size]? = some (.cells (dA y) 25 (0, 0))) := ⟨heap_alloc_new _ _⟩
      go_wp2_with (first
        | (refine wpList_load_on (by rfl) 25 (.tmp 8) rfl g8 rfl 25 (dA y) (0, 0) _ (HP8x.out _) Tryd.underlying25 rfl HE1.out ?_)
        | (with_reducible refine wpList_load_row rfl 25 (.tmp 8) rfl g8 rfl 25 (dA y) (0, 0) _ (HP8x.out _) Tryd.underlying25 rfl HE1.out ?_)
        | (with_reducible refine wpList_load_row rfl 25 (.tmp 10) rfl w8.heap.size rfl 25 (dA y) (0, 0) _ HQ8x.out Tryd.underlying25 rfl HE1.out ?_)
        | (rw [z32_lit]; (with_reducible refine wpList_store_row rfl 25 (.tmp 10) (.tmp 44) rfl w8.heap.size (dA y) rfl rfl 25 (dA (List.replicate 32 0)) (heap_alloc_new _ _) HE1.out HE2.out HE3.out ?_); rw [World.setRow_alloc_new]))
      have HB9 : Aside0 (Below w.heap.size w (w8.alloc (.cells (dA y) 25))) := ⟨below_step HB8.out (bel_alloc (Below.refl _ _) _)⟩
      refine (hex_calls y _ HYl.out HYb.out).mono ?_
      rintro e w9 ⟨rfl, hb⟩
      have HB10 : Aside0 (Below w.heap.size w w9) := ⟨below_step HB9.out hb⟩
      clear hb
      rw [hs2]
      go_wp2_with (fail)
      refine (awake_calls _ (HLf.out.below HB10.out) (HL.out.below HB10.out)).mono ?_
      rintro e w10 ⟨rfl, hb⟩
      have HBf := Aside0.mk (below_step HB10.out hb)
      clear hb
      go_wp2_with (fail)
      go_ret
      exact ⟨rfl, HBf.out⟩
end Go.Proofs.YtlgljlgbnjjieaaDoor.Hex
