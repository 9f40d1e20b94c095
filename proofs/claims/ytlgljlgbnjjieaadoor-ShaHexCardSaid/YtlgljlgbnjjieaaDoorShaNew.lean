/- sha.New, Len. -/
import Derived.Test.YtlgljlgbnjjieaaDoorShaWrite
import Derived.Test.YtlgljlgbnjjieaaDoorClone
namespace Go.Proofs.YtlgljlgbnjjieaaDoor.Sha
open Go.RowKit Go.Proofs.YtlgljlgbnjjieaaDoorW.PrintWords Go.Proofs.YtlgljlgbnjjieaaDoorW.PrintLast Go.Proofs.YtlgljlgbnjjieaaDoorW.PrintMore Go.Proofs.YtlgljlgbnjjieaaDoor.K
set_option linter.unusedVariables false
def firstA : Array Value := sArr init.l
theorem firstA_lit : firstA = #[.int .u32 (wi init.a), .int .u32 (wi init.b), .int .u32 (wi init.c), .int .u32 (wi init.d), .int .u32 (wi init.e), .int .u32 (wi init.f), .int .u32 (wi init.g), .int .u32 (wi init.h)] := rfl
set_option maxHeartbeats 1000000 in
theorem new_calls (w : World) (hL : LaidAt w 0 firstA) :
    Calls Tryd.prog 11 #[] w fun e w' => e = .returned (.pointer (some ⟨w.heap.size, 0, none⟩)) ∧ w' = w.alloc (.cells (hCells init (.slice none 0 0) 0) 50) := by
  obtain ⟨lt, lfr, hblk⟩ := hL
  rw [firstA_lit] at hblk
  have HBk := Aside0.mk hblk
  unfold hCells
  clear hblk
  generalize wi init.a = a at *
  generalize wi init.b = b at *
  generalize wi init.c = c at *
  generalize wi init.d = d at *
  generalize wi init.e = e at *
  generalize wi init.f = f at *
  generalize wi init.g = g at *
  generalize wi init.h = h at *
  go_enter Tryd.func11, Tryd.ntmps11
  go_wp2_with (with_reducible refine wpList_load_row rfl 48 (.global 0) rfl 0 rfl lt _ lfr _ HBk.out Tryd.underlying48 rfl (by kernel_rfl) ?_)
  go_ret
  exact ⟨rfl, rfl⟩
theorem HashAt.new (w : World) (B : Nat) (hB : B ≤ w.heap.size) : HashAt (w.alloc (.cells (hCells init (.slice none 0 0) 0) 50)) B w.heap.size (.slice none 0 0) init [] 0 :=
  ⟨hB, heap_alloc_new _ _, Kd.Q_nil _ _ _ _ _⟩
set_option maxHeartbeats 1000000 in
theorem len_calls (B g : Nat) (v : Value) (s : St) (r : List Int) (n : Int) (w : World) (hH : HashAt w B g v s r n) :
    Calls Tryd.prog 13 #[.pointer (some ⟨g, 0, none⟩)] w fun e w' => e = .returned (.int .i64 n) ∧ w = w' := by
  have h9 : w.cell? ⟨g, 9, none⟩ = some (.int .i64 n) := blk_cell hH.2.1 9
  clear hH
  go_enter Tryd.func13, Tryd.ntmps13
  go_wp2
  go_ret
  exact ⟨rfl, rfl⟩
set_option maxHeartbeats 1000000 in
theorem len_nil_calls (w : World) :
    Calls Tryd.prog 13 #[.pointer none] w fun e w' => e = .returned (.int .i64 0) ∧ w = w' := by
  go_enter Tryd.func13, Tryd.ntmps13
  go_wp2
  go_ret
  exact ⟨rfl, rfl⟩
set_option maxHeartbeats 1000000 in
theorem write_nil_calls (A : Option Addr) (m c : Nat) (w : World) :
    Calls Tryd.prog 12 #[.pointer none, .slice A m c] w fun e w' => e = .returned (.tuple #[]) ∧ w = w' := by
  go_enter Tryd.func12, Tryd.ntmps12
  go_wp2
  go_step3
  go_wp2

  rw [Exit.noGoto_ret]
  refine bodyPost_ret (results_none rfl _ _ _) rfl ?_
  exact ⟨rfl, rfl⟩
end Go.Proofs.YtlgljlgbnjjieaaDoor.Sha
