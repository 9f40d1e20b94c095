/- The reference's Hex: a digest's digits. -/
import Derived.Test.YtlgljlgbnjjieaaDoorUnhexWalk
namespace Go.Proofs.YtlgljlgbnjjieaaDoor.Hex
open Go.RowKit Go.Proofs.YtlgljlgbnjjieaaDoorW.PrintWords Go.Proofs.YtlgljlgbnjjieaaDoorW.PrintLast Go.Proofs.YtlgljlgbnjjieaaDoorW.PrintMore Go.Proofs.YtlgljlgbnjjieaaDoor.K Go.Proofs.YtlgljlgbnjjieaaDoor.Sha
set_option linter.unusedVariables false
theorem cut_dig (a : Nat) (h : a < 16) (a' : Nat) (h' : a' = a + 1) (W : World) : (Instr.slice 9 (.string ⟨#[48, 49, 50, 51, 52, 53, 54, 55, 56, 57, 97, 98, 99, 100, 101, 102]⟩) (some (.int .i64 (a : Int))) (some (.int .i64 (a' : Int))) none).run Tryd.prog W = .ok (.string ⟨#[dig (a : Int)]⟩) W := by
  subst h'
  match a, h with
  | 0, _ => show _ = _; kernel_rfl
  | 1, _ => show _ = _; kernel_rfl
  | 2, _ => show _ = _; kernel_rfl
  | 3, _ => show _ = _; kernel_rfl
  | 4, _ => show _ = _; kernel_rfl
  | 5, _ => show _ = _; kernel_rfl
  | 6, _ => show _ = _; kernel_rfl
  | 7, _ => show _ = _; kernel_rfl
  | 8, _ => show _ = _; kernel_rfl
  | 9, _ => show _ = _; kernel_rfl
  | 10, _ => show _ = _; kernel_rfl
  | 11, _ => show _ = _; kernel_rfl
  | 12, _ => show _ = _; kernel_rfl
  | 13, _ => show _ = _; kernel_rfl
  | 14, _ => show _ = _; kernel_rfl
  | 15, _ => show _ = _; kernel_rfl
  | a + 16, h => exact absurd h (by omega)
theorem cat_one (L : List UInt8) (c : UInt8) : (⟨L.toArray⟩ : ByteArray) ++ (⟨#[c]⟩ : ByteArray) = ⟨(L ++ [c]).toArray⟩ := by
  apply ByteArray.ext
  rw [ByteArray.data_append]
  simp
set_option maxHeartbeats 4000000 in
set_option maxRecDepth 100000 in
theorem rhex_calls (d : List Int) (w : World) (hd : d.length = 32) (hby : ∀ x ∈ d, 0 ≤ x ∧ x < 256) :
    Calls Tryd.prog 17 #[.agg (dA d)] w fun e w' => e = .returned (.string ⟨(hexL d).toArray⟩) ∧ Below w.heap.size w w' := by
  have HBy := Aside0.mk hby
  have HDl := Aside0.mk hd
  clear hby hd
  have HB0 : Aside0 ((w.alloc (.cells (dA d) 25)).heap[w.heap.size]? = some (.cells (dA d) 25 (0, 0)) ∧ Below w.heap.size w (w.alloc (.cells (dA d) 25))) := ⟨heap_alloc_new _ _, bel_alloc (Below.refl _ _) _⟩
  go_enter Tryd.func17, Tryd.ntmps17
  go_wp2_with (fail)
  generalize w.alloc (.cells (dA d) 25) = w1 at *
  go_loopw [3, 4] (fun v3 v4 wr => ∃ i : Nat, i ≤ 32 ∧ v3 = .string ⟨(hexL (d.take i)).toArray⟩ ∧ v4 = .int .i64 (i : Int) ∧ Aside0 (wr.heap[w.heap.size]? = some (.cells (dA d) 25 (0, 0)) ∧ Below w.heap.size w wr)) (fun _ v4 _ => 32 - (intOf v4).toNat)
  case atStart => exact ⟨0, Nat.zero_le _, rfl, rfl, HB0⟩
  case round =>
    clear HB0
    obtain ⟨i, hi, rfl, rfl, HI⟩ := hrel
    by_cases hlt : i < 32
    · have hltI : (i : Int) < 32 := by omega
      have hbx := K.byte_at HBy.out i
      have hc : wr.cell? ⟨w.heap.size, i, none⟩ = some (.int .u8 (d.getD i 0)) := (blk_cell HI.out.1 i).trans (dA_get d i (by rw [HDl.out]; exact hlt))
      have HTk := Aside0.mk (take_hex d i (by rw [HDl.out]; exact hlt))
      generalize d.getD i 0 = x at *
      generalize hL : hexL (d.take i) = L at *
      have hLl : L.length ≤ 64 := by rw [← hL, hex_length, List.length_take]; omega
      clear hL
      obtain ⟨a, ha⟩ : ∃ a : Nat, x / 16 = (a : Int) := ⟨(x / 16).toNat, by omega⟩
      obtain ⟨b, hb⟩ : ∃ b : Nat, x % 16 = (b : Int) := ⟨(x % 16).toNat, by omega⟩
      have ha' : Int.tdiv x 16 = (a : Int) := by rw [Int.tdiv_eq_ediv_of_nonneg hbx.1]; exact ha
      have hb' : Int.tmod x 16 = (b : Int) := by rw [Int.tmod_eq_emod_of_nonneg hbx.1]; exact hb
      have a1 : a < 16 := by omega
      have b1 : b < 16 := by omega
      obtain ⟨a', ha1⟩ : ∃ a', a' = a + 1 := ⟨_, rfl⟩
      obtain ⟨b', hb1⟩ : ∃ b', b' = b + 1 := ⟨_, rfl⟩
      have a2 : IntKind.i64.wrap ((a : Int) + 1) = (a' : Int) := by rw [IntWalk.i64_in _ (by omega)]; omega
      have b2 : IntKind.i64.wrap ((b : Int) + 1) = (b' : Int) := by rw [IntWalk.i64_in _ (by omega)]; omega
      have x1 : IntKind.i64.wrap x = x := IntWalk.i64_in _ (by omega)
      have s1 := cut_dig a a1 a' ha1
      have s2 := cut_dig b b1 b' hb1
      clear ha1 hb1
      rw [ha, hb] at HTk
      generalize dig (a : Int) = ca at *
      generalize dig (b : Int) = cb at *
      go_wp2
      go_quiet (fail)
      have HI2 : Aside0 ((wr.drewN nq).heap[w.heap.size]? = some (.cells (dA d) 25 (0, 0)) ∧ Below w.heap.size w (wr.drewN nq)) := ⟨HI.out.1, pw_below_drewN HI.out.2 _⟩
      rw [cat_one, cat_one]
      generalize wr.drewN nq = w2 at *
      go_wp2
      go_roundw
      case measure => simp [intOf]; omega
      case rel => exact ⟨i + 1, by omega, by rw [HTk.out], by go_num, HI2⟩
    · obtain rfl : i = 32 := by omega
      have HE : Aside0 (d.take 32 = d) := ⟨List.take_of_length_le (by rw [HDl.out]; exact Nat.le_refl _)⟩
      rw [HE.out]
      go_wp2_with (fail)
      go_ret
      exact ⟨rfl, HI.out.2⟩
end Go.Proofs.YtlgljlgbnjjieaaDoor.Hex
