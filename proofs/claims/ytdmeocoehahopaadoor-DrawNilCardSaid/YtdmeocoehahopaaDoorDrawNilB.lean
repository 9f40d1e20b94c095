/- The walk of DrawNil: a nil stream has nothing. -/
import Derived.Test.YtdmeocoehahopaaDoorBun6
import Derived.Test.YtdmeocoehahopaaDoorDrawNumbersB
namespace Go.Proofs.YtdmeocoehahopaaDoor.Draw
open Go.RowKit Go.Proofs.YtdmeocoehahopaaDoorW.PrintWords Go.Proofs.YtdmeocoehahopaaDoorW.PrintLast Go.Proofs.YtdmeocoehahopaaDoorW.PrintMore Go.Proofs.YtdmeocoehahopaaDoor.K Go.Proofs.YtdmeocoehahopaaDoor.Sha Go.Proofs.YtdmeocoehahopaaDoor.Codec Go.Proofs.YtdmeocoehahopaaDoor.RI
set_option linter.unusedVariables false
set_option linter.unusedSimpArgs false
set_option maxHeartbeats 4000000 in
theorem Below_nil_calls (n : Int) (w : World) :
    Calls Tryd.prog 17 #[.pointer none, .int .i64 n] w fun e w' => e = .returned (.tuple #[.int .i64 0, .int .i64 2]) ∧ Below w.heap.size w w' := by
  go_enter Tryd.func17, Tryd.ntmps17
  go_wp2_with (fail)
  refine (back_nil_calls _ _).mono ?_
  rintro e w' ⟨rfl, rfl⟩
  go_wp2
  go_ret2
  exact ⟨rfl, bel_alloc (bel_alloc (Below.refl _ _) _) _⟩
set_option maxHeartbeats 4000000 in
theorem Choose_nil_calls (A : Option Addr) (n c : Nat) (w : World) :
    Calls Tryd.prog 19 #[.pointer none, .slice A n c] w fun e w' => e = .returned (.tuple #[.int .i64 0, .int .i64 2]) ∧ Below w.heap.size w w' := by
  go_enter Tryd.func19, Tryd.ntmps19
  go_wp2_with (fail)
  refine (back_nil_calls _ _).mono ?_
  rintro e w' ⟨rfl, rfl⟩
  go_wp2
  go_ret2
  exact ⟨rfl, bel_alloc (bel_alloc (Below.refl _ _) _) _⟩
set_option maxHeartbeats 4000000 in
theorem Pick_nil_calls (A : Option Addr) (n c : Nat) (k : Int) (w : World) :
    Calls Tryd.prog 21 #[.pointer none, .slice A n c, .int .i64 k] w fun e w' => e = .returned (.tuple #[.int .i64 0, .int .i64 2]) ∧ Below w.heap.size w w' := by
  go_enter Tryd.func21, Tryd.ntmps21
  go_wp2_with (fail)
  refine (back_nil_calls _ _).mono ?_
  rintro e w' ⟨rfl, rfl⟩
  go_wp2
  go_ret2
  exact ⟨rfl, bel_alloc (bel_alloc (bel_alloc (Below.refl _ _) _) _) _⟩
set_option maxHeartbeats 8000000 in
set_option maxRecDepth 100000 in
theorem nil_law_calls (A : Option Addr) (len c : Nat) (n : Int) (w : World) (hLf : LaidAt w 1 firstA) (hL : LaidAt w 2 constA) :
    Calls Tryd.prog 10 #[.slice A len c, .int .i64 n] w fun e w' => e = .returned (.bool true) ∧ Below w.heap.size w w' := by
  have HLo := Aside0.mk (lo_of hLf hL)
  clear hLf hL
  by_cases h1 : 20 < len
  · have d1 : decide (20 < (len : Int)) = true := by simp; omega
    clear h1
    go_enter Tryd.func10, Tryd.ntmps10
    go_wp2_with (fail)
    refine (awake_calls w.heap.size w HLo.out).mono ?_
    rintro e w3 ⟨rfl, hb⟩
    have HB3 := Aside0.mk hb
    clear hb
    go_wp2_with (fail)
    go_ret
    exact ⟨rfl, HB3.out⟩
  · have d1 : decide (20 < (len : Int)) = false := by simp; omega
    clear h1
    go_enter Tryd.func10, Tryd.ntmps10
    go_wp2_with (fail)
    refine (Next_nil_calls w).mono ?_
    rintro e w1 ⟨rfl, rfl⟩
    go_wp2_with (fail)
    refine (Below_nil_calls n w).mono ?_
    rintro e w2 ⟨rfl, hb⟩
    have HB2 := Aside0.mk hb
    clear hb
    go_wp2_with (fail)
    refine (Choose_nil_calls A len c w2).mono ?_
    rintro e w3 ⟨rfl, hb⟩
    have HB3 := Aside0.mk (below_step HB2.out hb)
    clear hb
    go_wp2_with (fail)
    refine (Pick_nil_calls A len c n w3).mono ?_
    rintro e w4 ⟨rfl, hb⟩
    have HB4 := Aside0.mk (below_step HB3.out hb)
    clear hb
    go_wp2_with (fail)
    refine (count_nil_calls w4).mono ?_
    rintro e w5 ⟨rfl, rfl⟩
    go_wp2_with (fail)
    refine (awake_calls w.heap.size w4 (HLo.out.below HB4.out)).mono ?_
    rintro e w6 ⟨rfl, hb⟩
    have HB6 := Aside0.mk (below_step HB4.out hb)
    clear hb
    go_wp2_with (fail)
    go_ret
    exact ⟨rfl, HB6.out⟩
end Go.Proofs.YtdmeocoehahopaaDoor.Draw
