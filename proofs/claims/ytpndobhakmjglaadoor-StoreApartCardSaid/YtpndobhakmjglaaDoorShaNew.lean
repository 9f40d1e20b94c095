/- sha.New, Len. -/
import Derived.Test.YtpndobhakmjglaaDoorShaWrite
import Derived.Test.YtpndobhakmjglaaDoorClone
namespace Go.Proofs.YtpndobhakmjglaaDoor.Sha
open Go.RowKit Go.Proofs.YtpndobhakmjglaaDoorW.PrintWords Go.Proofs.YtpndobhakmjglaaDoorW.PrintLast Go.Proofs.YtpndobhakmjglaaDoorW.PrintMore Go.Proofs.YtpndobhakmjglaaDoor.K
set_option linter.unusedVariables false
def firstA : Array Value := sArr init.l
theorem firstA_lit : firstA = #[.int .u32 (wi init.a), .int .u32 (wi init.b), .int .u32 (wi init.c), .int .u32 (wi init.d), .int .u32 (wi init.e), .int .u32 (wi init.f), .int .u32 (wi init.g), .int .u32 (wi init.h)] := rfl
set_option maxHeartbeats 1000000 in
theorem new_calls (w : World) (hL : LaidAt w 0 firstA) :
    Calls Tryd.prog 37 #[] w fun e w' => e = .returned (.pointer (some ⟨w.heap.size, 0, none⟩)) ∧ w' = w.alloc (.cells (hCells init (.slice none 0 0) 0) 76) := by
  obtain ⟨lt, lfr, hblk⟩ := hL
  rw [firstA_lit] at hblk
  have HBk := Aside0.mk hblk
  unfold hCells
  clear hblk
  generalize wi init.a = a at *
  generalize wi init.b = b at *
  generalize wi init.c = c at *
  generalize wi init.d = d at *
  generalize wi init.e = e at *
  generalize wi init.f = f at *
  generalize wi init.g = g at *
  generalize wi init.h = h at *
  go_enter Tryd.func37, Tryd.ntmps37
  go_wp2_with (with_reducible refine wpList_load_row rfl 74 (.global 0) rfl 0 rfl lt _ lfr _ HBk.out Tryd.underlying74 rfl (by kernel_rfl) ?_)
  go_ret
  exact ⟨rfl, rfl⟩
theorem HashAt.new (w : World) (B : Nat) (hB : B ≤ w.heap.size) : HashAt (w.alloc (.cells (hCells init (.slice none 0 0) 0) 76)) B w.heap.size (.slice none 0 0) init [] 0 :=
  ⟨hB, heap_alloc_new _ _, Kd.Q_nil _ _ _ _ _⟩
set_option maxHeartbeats 1000000 in
theorem write_nil_calls (A : Option Addr) (m c : Nat) (w : World) :
    Calls Tryd.prog 38 #[.pointer none, .slice A m c] w fun e w' => e = .returned (.tuple #[]) ∧ w = w' := by
  go_enter Tryd.func38, Tryd.ntmps38
  go_wp2
  go_step3
  go_wp2

  rw [Exit.noGoto_ret]
  refine bodyPost_ret (results_none rfl _ _ _) rfl ?_
  exact ⟨rfl, rfl⟩
end Go.Proofs.YtpndobhakmjglaaDoor.Sha
