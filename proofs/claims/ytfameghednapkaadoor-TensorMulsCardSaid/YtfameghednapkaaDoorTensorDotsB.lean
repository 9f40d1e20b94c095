/- TensorDots: the law's walk. -/
import Derived.Test.YtfameghednapkaaDoorTenDotPB
import Derived.Test.YtfameghednapkaaDoorBunT3
namespace Go.Proofs.YtfameghednapkaaDoor.Ten
open Go.RowKit Go.Proofs.YtfameghednapkaaDoorW.PrintWords Go.Proofs.YtfameghednapkaaDoorW.PrintLast Go.Proofs.YtfameghednapkaaDoorW.PrintMore Go.Proofs.YtfameghednapkaaDoor.K Go.Proofs.YtfameghednapkaaDoor.RI Go.Proofs.YtfameghednapkaaDoor.Fixed Go.Proofs.YtfameghednapkaaDoor.PTensorDots
set_option linter.unusedVariables false
set_option linter.unusedSimpArgs false
theorem rdot_calls (A : Option Addr) (c : Nat) (r : List Int) (A' : Option Addr) (c' : Nat) (v : List Int) (w : World) (hr : Kd.C (Kd.int .i64) w A r.length r) (hc : r.length ≤ c) (hv : Kd.C (Kd.int .i64) w A' v.length v) (hc' : v.length ≤ c') :
    Calls Tryd.prog 14 #[.slice A r.length c, .slice A' v.length c'] w fun e w' => e = .returned (.tuple #[.int .i64 (dotV r v).1, .int .i64 (dotV r v).2]) ∧ Drawn0 w w' :=
  cupelref07_Dot.calls _ A c r A' c' v _ _ w hr hc hv hc' (rdot_f r v)
set_option maxHeartbeats 4000000 in
set_option maxRecDepth 100000 in
theorem dots_calls (A : Option Addr) (c : Nat) (r : List Int) (A' : Option Addr) (c' : Nat) (v : List Int) (w : World) (hr : Kd.C (Kd.int .i64) w A r.length r) (hc : r.length ≤ c) (hv : Kd.C (Kd.int .i64) w A' v.length v) (hc' : v.length ≤ c') (hL : LaidAt w 0 stepsA) :
    Calls Tryd.prog 3 #[.slice A r.length c, .slice A' v.length c'] w fun e w' => e = .returned (.bool true) ∧ Below w.heap.size w w' := by
  have HL := Aside0.mk hL
  have HR := Aside0.mk hr
  have HV := Aside0.mk hv
  have HC := Aside0.mk (And.intro hc hc')
  clear hr hv hc hc' hL
  by_cases h1 : 100 < r.length
  · have d1 : decide (100 < (r.length : Int)) = true := by simp; omega
    clear h1
    go_enter Tryd.func3, Tryd.ntmps3
    go_wp2_with (fail)
    refine (awake07_calls w HL.out).mono ?_
    rintro e w1 ⟨rfl, hb⟩
    have HB := Aside0.mk hb
    clear hb
    go_wp2_with (fail)
    go_ret
    exact ⟨rfl, HB.out⟩
  · have d1 : decide (100 < (r.length : Int)) = false := by simp; omega
    clear h1
    by_cases h2 : 100 < v.length
    · have d2 : decide (100 < (v.length : Int)) = true := by simp; omega
      clear h2
      go_enter Tryd.func3, Tryd.ntmps3
      go_wp2_with (fail)
      refine (awake07_calls w HL.out).mono ?_
      rintro e w1 ⟨rfl, hb⟩
      have HB := Aside0.mk hb
      clear hb
      go_wp2_with (fail)
      go_ret
      exact ⟨rfl, HB.out⟩
    · have d2 : decide (100 < (v.length : Int)) = false := by simp; omega
      clear h2
      go_enter Tryd.func3, Tryd.ntmps3
      go_wp2_with (fail)
      refine (dot_calls A A' c c' r v w HR.out HV.out).mono ?_
      rintro e w1 ⟨rfl, hb⟩
      have HB := Aside0.mk hb
      clear hb
      go_wp2_with (fail)
      refine (rdot_calls A c r A' c' v w1 (Kd.C_below HR.out HB.out) HC.out.1 (Kd.C_below HV.out HB.out) HC.out.2).mono ?_
      rintro e w2 ⟨rfl, hd⟩
      have HB2 := Aside0.mk (below_step HB.out hd.below)
      clear hd
      generalize (dotV r v).1 = x at *
      generalize (dotV r v).2 = y at *
      go_wp2_with (fail)
      refine (awake07_calls w2 (HL.out.below HB2.out)).mono ?_
      rintro e w3 ⟨rfl, hb⟩
      have HB3 := Aside0.mk (below_step HB2.out hb)
      clear hb
      go_wp2_with (fail)
      go_ret
      exact ⟨rfl, HB3.out⟩
theorem dots_n (A : Option Addr) (n c : Nat) (r : List Int) (A' : Option Addr) (n' c' : Nat) (v : List Int) (w : World) (hr : Kd.C (Kd.int .i64) w A n r) (hc : n ≤ c) (hv : Kd.C (Kd.int .i64) w A' n' v) (hc' : n' ≤ c') (hL : LaidAt w 0 stepsA) :
    Calls Tryd.prog 3 #[.slice A n c, .slice A' n' c'] w fun e w' => e = .returned (.bool true) ∧ Below w.heap.size w w' := by
  obtain rfl := hr.1
  obtain rfl := hv.1
  exact dots_calls A c r A' c' v w hr hc hv hc' hL
end Go.Proofs.YtfameghednapkaaDoor.Ten
