/- cupellaw01.ShaNil: a nil hash has taken nothing. -/
import Derived.Test.YtlgljlgbnjjieaaDoorShaAwake
namespace Go.Proofs.YtlgljlgbnjjieaaDoor.Sha
open Go.RowKit Go.Proofs.YtlgljlgbnjjieaaDoorW.PrintWords Go.Proofs.YtlgljlgbnjjieaaDoorW.PrintLast Go.Proofs.YtlgljlgbnjjieaaDoorW.PrintMore Go.Proofs.YtlgljlgbnjjieaaDoor.K
set_option linter.unusedVariables false
theorem dig_size (w : World) : (sizeOf 5).run Tryd.prog w = .ok 1 w := run_size info_u8 w
theorem eql_dig {d e : List Int} (hd : d.length = 32) (he : e.length = 32) (w : World) : (binOp .eql 25 (.agg (dA d)) (.agg (dA e))).run Tryd.prog w = .ok (.bool (d == e)) w :=
  run_eql_nums w 25 5 32 .u8 Tryd.underlying25 Tryd.underlying5 dig_size d e hd he
theorem neq_dig {d e : List Int} (hd : d.length = 32) (he : e.length = 32) (w : World) : (binOp .neq 25 (.agg (dA d)) (.agg (dA e))).run Tryd.prog w = .ok (.bool (!(d == e))) w :=
  run_neq_nums w 25 5 32 .u8 Tryd.underlying25 Tryd.underlying5 dig_size d e hd he
theorem eql_same {d : List Int} (hd : d.length = 32) (w : World) : (binOp .eql 25 (.agg (dA d)) (.agg (dA d))).run Tryd.prog w = .ok (.bool true) w := by
  rw [eql_dig hd hd, show (d == d) = true from beq_self_eq_true d]
theorem neq_same {d : List Int} (hd : d.length = 32) (w : World) : (binOp .neq 25 (.agg (dA d)) (.agg (dA d))).run Tryd.prog w = .ok (.bool false) w := by
  rw [neq_dig hd hd, show (d == d) = true from beq_self_eq_true d]
  rfl
set_option maxHeartbeats 4000000 in
set_option maxRecDepth 100000 in
theorem nil_calls (A : Option Addr) (m c : Nat) (l : List Int) (w : World) (hl : Kd.C (Kd.int .u8) w A m l) (hLf : LaidAt w 0 firstA) (hL : LaidAt w 1 constA) :
    Calls Tryd.prog 6 #[.slice A m c] w fun e w' => e = .returned (.bool true) ∧ Below w.heap.size w w' := by
  have HLf := Aside0.mk hLf
  have HL := Aside0.mk hL
  have HG : Aside0 (1 < w.heap.size) := ⟨by obtain ⟨_, _, h⟩ := hL; exact blk_lt h⟩
  have hm := hl.2.1
  clear hLf hL hl
  by_cases hgt : 200 < m
  · have hgtD : decide (200 < (m : Int)) = true := by simp; omega
    go_enter Tryd.func6, Tryd.ntmps6
    go_wp2_with (fail)
    refine (awake_calls w HLf.out HL.out).mono ?_
    rintro e w1 ⟨rfl, hb⟩
    have HB := Aside0.mk hb
    clear hb
    go_wp2_with (fail)
    go_ret
    exact ⟨rfl, HB.out⟩
  · have hgtD : decide (200 < (m : Int)) = false := by simp; omega
    have heq := eql_same (shaV_length [])
    go_enter Tryd.func6, Tryd.ntmps6
    go_wp2_with (fail)
    refine (write_nil_calls A m c w).mono ?_
    rintro e w1 ⟨rfl, rfl⟩
    go_wp2_with (fail)
    refine (hsum_nil_calls w HLf.out HL.out).mono ?_
    rintro e w1 ⟨rfl, hb1⟩
    have HB1 := Aside0.mk hb1
    clear hb1
    go_wp2_with (fail)
    refine (sum_calls none 0 0 [] w1 (Kd.C_nil _ _) (fun x hx => by cases hx) (by decide) (HLf.out.below HB1.out) (HL.out.below HB1.out)).mono ?_
    rintro e w2 ⟨rfl, hb2⟩
    have HB2 := Aside0.mk (below_step HB1.out hb2)
    clear hb2
    go_wp2_with (fail)
    refine (len_nil_calls w2).mono ?_
    rintro e w3 ⟨rfl, rfl⟩
    go_wp2_with (fail)
    refine (new_calls w2 (HLf.out.below HB2.out)).mono ?_
    rintro e w3 ⟨rfl, hw3⟩
    have HH3 : Aside0 (HashAt w3 w.heap.size w2.heap.size (.slice none 0 0) init [] (0 : Nat)) := ⟨by rw [hw3]; exact HashAt.new w2 _ HB2.out.size⟩
    have HB3 : Aside0 (Below w.heap.size w w3) := ⟨by rw [hw3]; exact bel_alloc HB2.out _⟩
    clear hw3
    go_wp2_with (fail)
    refine (hsum_calls w.heap.size w2.heap.size (.slice none 0 0) init [] 0 w3 HH3.out HB3.out.size (fun x hx => by cases hx) (by decide) rfl (by decide) HG.out (HL.out.below HB3.out)).mono ?_
    rintro e w4 ⟨rfl, hb4⟩
    have HB4 := Aside0.mk (below_step HB3.out hb4)
    clear hb4
    rw [show sumOf init [] 0 = shaV [] from rfl]
    go_wp2_with (fail)
    refine (hsum_nil_calls w4 (HLf.out.below HB4.out) (HL.out.below HB4.out)).mono ?_
    rintro e w5 ⟨rfl, hb5⟩
    have HB5 := Aside0.mk (below_step HB4.out hb5)
    clear hb5
    go_wp2_with (fail)
    refine (awake_calls w5 (HLf.out.below HB5.out) (HL.out.below HB5.out)).mono ?_
    rintro e w6 ⟨rfl, hb6⟩
    have HB6 := Aside0.mk (below_step HB5.out hb6)
    clear hb6
    go_wp2_with (fail)
    go_ret
    exact ⟨rfl, HB6.out⟩
end Go.Proofs.YtlgljlgbnjjieaaDoor.Sha
