/- sha.Hex: a digest's digits. -/
import Derived.Test.YtlgljlgbnjjieaaDoorHexPure
import Derived.Test.YtlgljlgbnjjieaaDoorHexLays
import Derived.Test.YtlgljlgbnjjieaaDoorShaTop
namespace Go.Proofs.YtlgljlgbnjjieaaDoor.Hex
open Go.RowKit Go.Proofs.YtlgljlgbnjjieaaDoorW.PrintWords Go.Proofs.YtlgljlgbnjjieaaDoorW.PrintLast Go.Proofs.YtlgljlgbnjjieaaDoorW.PrintMore Go.Proofs.YtlgljlgbnjjieaaDoor.K Go.Proofs.YtlgljlgbnjjieaaDoor.Sha
set_option linter.unusedVariables false
theorem take_hex (d : List Int) (i : Nat) (hi : i < d.length) : hexL (d.take (i + 1)) = hexL (d.take i) ++ [dig (d.getD i 0 / 16)] ++ [dig (d.getD i 0 % 16)] := by
  rw [List.take_succ_eq_append_getElem hi, hexL, List.flatMap_append, List.getD_eq_getElem?_getD, List.getElem?_eq_getElem hi]
  simp [hexL]
theorem cells_snoc (l : List UInt8) (c : UInt8) : Lib.byteCells l ++ [.int .u8 (c.toNat : Int)] = Lib.byteCells (l ++ [c]) := by simp [Lib.byteCells]
theorem dig_at (n : Int) (h0 : 0 ≤ n) (h1 : n < 16) : ∀ h, ((({ data := #[48, 49, 50, 51, 52, 53, 54, 55, 56, 57, 97, 98, 99, 100, 101, 102] } : ByteArray)[n.toNat]'h).toNat : Int) = ((dig n).toNat : Int) := by
  obtain ⟨k, rfl⟩ := Int.eq_ofNat_of_zero_le h0
  intro h
  match k, (show k < 16 by omega), h with
  | 0, _, _ => rfl
  | 1, _, _ => rfl
  | 2, _, _ => rfl
  | 3, _, _ => rfl
  | 4, _, _ => rfl
  | 5, _, _ => rfl
  | 6, _, _ => rfl
  | 7, _, _ => rfl
  | 8, _, _ => rfl
  | 9, _, _ => rfl
  | 10, _, _ => rfl
  | 11, _, _ => rfl
  | 12, _, _ => rfl
  | 13, _, _ => rfl
  | 14, _, _ => rfl
  | 15, _, _ => rfl
  | k + 16, h, _ => exact absurd h (by omega)
theorem and15 (x : Int) (h0 : 0 ≤ x) (h1 : x < 256) : Go.bits .and .u8 x 15 = x % 16 := by
  obtain ⟨k, rfl⟩ := Int.eq_ofNat_of_zero_le h0
  have hk : k < 256 := by omega
  show IntKind.u8.wrap ((BitVec.ofInt 8 (k : Int) &&& BitVec.ofInt 8 15).toNat : Int) = _
  have e : (BitVec.ofInt 8 (k : Int) &&& BitVec.ofInt 8 15).toNat = k % 16 := by
    rw [BitVec.toNat_and, BitVec.toNat_ofInt]
    have : ((k : Int) % ((2 ^ 8 : Nat) : Int)).toNat = k := by omega
    rw [this, show (BitVec.ofInt 8 15).toNat = 2 ^ 4 - 1 from rfl, Nat.and_two_pow_sub_one_eq_mod]
  rw [e, IntKind.wrap_u8]
  omega
set_option maxHeartbeats 4000000 in
set_option maxRecDepth 100000 in
theorem hex_calls (d : List Int) (w : World) (hd : d.length = 32) (hby : ∀ x ∈ d, 0 ≤ x ∧ x < 256) :
    Calls Tryd.prog 15 #[.agg (dA d)] w fun e w' => e = .returned (.string ⟨(hexL d).toArray⟩) ∧ Below w.heap.size w w' := by
  have HBy := Aside0.mk hby
  have HDl := Aside0.mk hd
  have HD1 := Aside0.mk (dig_info hd)
  clear hby hd
  have HR0 : Aside0 (∀ o : Obj, ((w.alloc (.cells (dA d) 25)).alloc o).heap[w.heap.size]? = some (.cells (dA d) 25 (0, 0))) := ⟨fun o => ((bel_alloc (Below.refl _ _) o).block _ (blk_lt (heap_alloc_new w _))).trans (heap_alloc_new w _)⟩
  go_enter Tryd.func15, Tryd.ntmps15
  go_wp2_with (with_reducible refine wpList_load_row rfl 25 (.tmp 1) rfl w.heap.size rfl 25 (dA d) (0, 0) _ (HR0.out _) Tryd.underlying25 rfl HD1.out ?_)
  have HI0 : Aside0 (Lib.IsBuilder 56 5 (w.heap.size + 1) (w.heap.size + 1) (Lib.byteCells (hexL (d.take 0))) ((w.alloc (.cells (dA d) 25)).alloc (.cells #[.pointer none, .slice none 0 0] 56)) ∧ Below w.heap.size w ((w.alloc (.cells (dA d) 25)).alloc (.cells #[.pointer none, .slice none 0 0] 56)) ∧ w.heap.size + 1 ≤ ((w.alloc (.cells (dA d) 25)).alloc (.cells #[.pointer none, .slice none 0 0] 56)).heap.size) := ⟨by
    have h := Lib.fresh_isBuilder 56 5 (w.alloc (.cells (dA d) 25))
    rw [World.size_alloc] at h
    exact ⟨h, bel_alloc (bel_alloc (Below.refl _ _) _) _, by simp⟩⟩
  clear HR0
  go_loopw [7] (fun v7 wr => ∃ i : Nat, i ≤ 32 ∧ v7 = .int .i64 (i : Int) ∧ Aside0 (Lib.IsBuilder 56 5 (w.heap.size + 1) (w.heap.size + 1) (Lib.byteCells (hexL (d.take i))) wr ∧ Below w.heap.size w wr ∧ w.heap.size + 1 ≤ wr.heap.size)) (fun v7 _ => 32 - (intOf v7).toNat)
  case atStart => exact ⟨0, Nat.zero_le _, rfl, HI0⟩
  case round =>
    clear HI0
    obtain ⟨i, hi, rfl, HI⟩ := hrel
    by_cases hlt : i < 32
    · have hltI : (i : Int) < 32 := by omega
      have hbx := K.byte_at HBy.out i
      have hix : ∀ W : World, (Instr.index 25 (.agg (dA d)) (.int .i64 (i : Int))).run Tryd.prog W = .ok (.int .u8 (d.getD i 0)) W := fun W => run_index_int 25 5 32 (dA d) .i64 .u8 i Tryd.underlying25 Tryd.underlying5 info_u8 hlt _ (dA_get d i (by rw [HDl.out]; exact hlt)) W
      have HTk := Aside0.mk (take_hex d i (by rw [HDl.out]; exact hlt))
      generalize d.getD i 0 = x at *
      have x0 : 0 ≤ x / 16 := by omega
      have x1 : x / 16 < 16 := by omega
      have x2 : 0 ≤ x % 16 := by omega
      have x3 : x % 16 < 16 := by omega
      have ha := and15 x hbx.1 hbx.2
      have E1 := dig_at (x / 16) x0 x1
      have E2 := dig_at (x % 16) x2 x3
      have HE1 := Aside0.mk E1
      have HE2 := Aside0.mk E2
      clear E1 E2
      generalize hL : hexL (d.take i) = L at *
      have HLl : Aside0 (L.length ≤ 64) := ⟨by rw [← hL, hex_length, List.length_take]; omega⟩
      clear hL
      go_wp2_with (fail)
      rw [HE1.out]
      refine (writeByte (w.heap.size + 1) (w.heap.size + 1) (Lib.byteCells L) _ wr HI.out.1 (by rw [Lib.byteCells_length]; have := HLl.out; omega) HI.out.2.2).mono ?_
      rintro e w2 ⟨rfl, hB2, hb2⟩
      rw [cells_snoc] at hB2
      have HI2 : Aside0 (Lib.IsBuilder 56 5 (w.heap.size + 1) (w.heap.size + 1) (Lib.byteCells (L ++ [dig (x / 16)])) w2 ∧ Below w.heap.size w w2 ∧ w.heap.size + 1 ≤ w2.heap.size) := ⟨.inr hB2, HI.out.2.1.trans (hb2.mono (by omega)), Nat.le_trans HI.out.2.2 hb2.size⟩
      clear hB2 hb2
      go_wp2_with (fail)
      rw [HE2.out]
      refine (writeByte (w.heap.size + 1) (w.heap.size + 1) (Lib.byteCells (L ++ [dig (x / 16)])) _ w2 HI2.out.1 (by rw [Lib.byteCells_length, List.length_append]; have := HLl.out; simp; omega) HI2.out.2.2).mono ?_
      rintro e w3 ⟨rfl, hB3, hb3⟩
      rw [cells_snoc] at hB3
      have HI3 : Aside0 (Lib.IsBuilder 56 5 (w.heap.size + 1) (w.heap.size + 1) (Lib.byteCells (L ++ [dig (x / 16)] ++ [dig (x % 16)])) w3 ∧ Below w.heap.size w w3 ∧ w.heap.size + 1 ≤ w3.heap.size) := ⟨.inr hB3, HI2.out.2.1.trans (hb3.mono (by omega)), Nat.le_trans HI2.out.2.2 hb3.size⟩
      clear hB3 hb3
      go_wp2_with (fail)
      go_roundw
      case measure => simp [intOf]; omega
      case rel => exact ⟨i + 1, by omega, by go_num, ⟨by rw [HTk.out]; exact HI3.out⟩⟩
    · obtain rfl : i = 32 := by omega
      have HE : Aside0 (d.take 32 = d) := ⟨List.take_of_length_le (by rw [HDl.out]; exact Nat.le_refl _)⟩
      rw [HE.out] at HI
      go_wp2_with (fail)
      refine (string_any (w.heap.size + 1) (w.heap.size + 1) (hexL d) wr HI.out.1 HI.out.2.2).mono ?_
      rintro e w2 ⟨rfl, hb⟩
      have HB2 : Aside0 (Below w.heap.size w w2) := ⟨HI.out.2.1.trans (hb.mono (by omega))⟩
      clear hb
      go_wp2_with (fail)
      go_ret
      exact ⟨rfl, HB2.out⟩
end Go.Proofs.YtlgljlgbnjjieaaDoor.Hex
