/- The walk of ShaSums: whatever the bytes, it answers true. -/
import Derived.Test.YtlgljlgbnjjieaaDoorRefSum
import Derived.Test.YtlgljlgbnjjieaaDoorShaNil
namespace Go.Proofs.YtlgljlgbnjjieaaDoor.Sha
open Go.RowKit Go.Proofs.YtlgljlgbnjjieaaDoorW.PrintWords Go.Proofs.YtlgljlgbnjjieaaDoorW.PrintLast Go.Proofs.YtlgljlgbnjjieaaDoorW.PrintMore Go.Proofs.YtlgljlgbnjjieaaDoor.K
set_option linter.unusedVariables false
theorem rsum_n (A : Option Addr) (n c : Nat) (l : List Int) (w : World) (hl : Kd.C (Kd.int .u8) w A n l) (hc : n ≤ c) (hby : ∀ x ∈ l, 0 ≤ x ∧ x < 256) (hm : n ≤ 300) :
    Calls Tryd.prog 10 #[.slice A n c] w fun e w' => e = .returned (.agg (dA (shaV l))) ∧ Below w.heap.size w w' := by
  obtain rfl := hl.1
  exact rsum_calls A c l w hl hc hby hm
set_option maxHeartbeats 4000000 in
set_option maxRecDepth 100000 in
theorem sums_n (A : Option Addr) (n c : Nat) (l : List Int) (w : World) (hl : Kd.C (Kd.int .u8) w A n l) (hc : n ≤ c) (hby : ∀ x ∈ l, 0 ≤ x ∧ x < 256) (hLf : LaidAt w 0 firstA) (hL : LaidAt w 1 constA) :
    Calls Tryd.prog 3 #[.slice A n c] w fun e w' => e = .returned (.bool true) ∧ Below w.heap.size w w' := by
  have HC := Aside0.mk hl
  have HLf := Aside0.mk hLf
  have HL := Aside0.mk hL
  have HBy := Aside0.mk hby
  have HCc := Aside0.mk hc
  have hm := hl.2.1
  clear hLf hL hl hby hc
  by_cases hgt : 300 < n
  · have hgtD : decide (300 < (n : Int)) = true := by simp; omega
    go_enter Tryd.func3, Tryd.ntmps3
    go_wp2_with (fail)
    refine (awake_calls w HLf.out HL.out).mono ?_
    rintro e w1 ⟨rfl, hb⟩
    have HB := Aside0.mk hb
    clear hb
    go_wp2_with (fail)
    go_ret
    exact ⟨rfl, HB.out⟩
  · have hgtD : decide (300 < (n : Int)) = false := by simp; omega
    have heq := eql_same (shaV_length l)
    go_enter Tryd.func3, Tryd.ntmps3
    go_wp2_with (fail)
    refine (sum_calls A n c l w HC.out HBy.out (by omega) HLf.out HL.out).mono ?_
    rintro e w1 ⟨rfl, hb1⟩
    have HB1 := Aside0.mk hb1
    clear hb1
    go_wp2_with (fail)
    refine (rsum_n A n c l w1 (Kd.C_below HC.out HB1.out) HCc.out HBy.out (by omega)).mono ?_
    rintro e w2 ⟨rfl, hb2⟩
    have HB2 := Aside0.mk (below_step HB1.out hb2)
    clear hb2
    go_wp2_with (fail)
    refine (awake_calls w2 (HLf.out.below HB2.out) (HL.out.below HB2.out)).mono ?_
    rintro e w3 ⟨rfl, hb3⟩
    have HB3 := Aside0.mk (below_step HB2.out hb3)
    clear hb3 heq
    go_wp2_with (fail)
    go_ret
    exact ⟨rfl, HB3.out⟩
end Go.Proofs.YtlgljlgbnjjieaaDoor.Sha
