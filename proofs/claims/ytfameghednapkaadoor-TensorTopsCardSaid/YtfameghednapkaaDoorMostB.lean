/- tensor: Most, by the order of places. -/
import Derived.Test.YtfameghednapkaaDoorTopAB
namespace Go.Proofs.YtfameghednapkaaDoor.Top
open Go.RowKit Go.Proofs.YtfameghednapkaaDoorW.PrintWords Go.Proofs.YtfameghednapkaaDoorW.PrintLast Go.Proofs.YtfameghednapkaaDoorW.PrintMore Go.Proofs.YtfameghednapkaaDoor.K Go.Proofs.YtfameghednapkaaDoor.RI Go.Proofs.YtfameghednapkaaDoor.Sort Go.Proofs.YtfameghednapkaaDoor.Ten Go.Proofs.YtfameghednapkaaDoor.Fixed
set_option linter.unusedVariables false
set_option linter.unusedSimpArgs false
set_option maxHeartbeats 4000000 in
theorem most_ok_calls (A : Option Addr) (c : Nat) (l : List Int) (w : World) (hC : Kd.C (Kd.int .i64) w A l.length l) (h : checkV l = 0) :
    Calls Tryd.prog 16 #[.slice A l.length c] w fun e w' => e = .returned (.tuple #[.int .i64 (mostV l), .int .i64 0]) ∧ Below w.heap.size w w' := by
  have HK := Aside0.mk (top_all_calls A c 1 l w hC h (Nat.le_refl _) (check_len h).1)
  have HT : Aside0 (((ordL l).take 1).length = 1 ∧ ((ordL l).take 1).getD 0 0 = mostV l) := ⟨by
    have := (check_len h).1
    have h2 := ordL_length l
    refine ⟨by rw [List.length_take]; omega, ?_⟩
    unfold mostV
    rw [List.getD_eq_getElem?_getD, List.getElem?_take, if_pos (by omega), List.getD_eq_getElem?_getD]⟩
  clear hC h
  go_enter Tryd.func16, Tryd.ntmps16
  go_wp2_with (fail)
  refine HK.out.mono ?_
  rintro e w2 ⟨A', c', rfl, hQ, hb⟩
  obtain ⟨A3, c3, he, _, hC3⟩ := Kd.Q_reads hQ
  obtain rfl : A' = A3 := by injection he
  have hHT := HT.out
  obtain ⟨ad, rfl, hx⟩ := int_at hC3 0 (by have := hHT.1; omega)
  rw [hHT.2, show ad.add 0 = ad by cases ad; simp [Addr.add]] at hx
  have HB := Aside0.mk hb
  obtain ⟨m, hm⟩ : ∃ m, m = mostV l := ⟨_, rfl⟩
  rw [← hm] at hx
  have HMm := Aside0.mk hm
  clear hQ hb he hC3 hHT hm
  go_wp2
  go_ret2
  exact ⟨by rw [← HMm.out]; rfl, HB.out⟩
set_option maxHeartbeats 4000000 in
theorem most_bad_calls (A : Option Addr) (c : Nat) (l : List Int) (w : World) (hC : Kd.C (Kd.int .i64) w A l.length l) (h : checkV l ≠ 0) :
    Calls Tryd.prog 16 #[.slice A l.length c] w fun e w' => e = .returned (.tuple #[.int .i64 0, .int .i64 (checkV l)]) ∧ Below w.heap.size w w' := by
  have HK := Aside0.mk (top_bad_calls A c l 1 w hC h)
  have HC := Aside0.mk hC
  obtain ⟨z, hz⟩ : ∃ z, z = checkV l := ⟨_, rfl⟩
  have HZ := Aside0.mk hz
  rw [← hz] at HK h ⊢
  have dz : (z != 0) = true := by simpa using h
  clear hC h hz
  go_enter Tryd.func16, Tryd.ntmps16
  go_wp2_with (fail)
  refine HK.out.mono ?_
  rintro e w2 ⟨rfl, hb⟩
  have HB := Aside0.mk hb
  clear hb
  go_wp2_with (fail)
  refine (tcheck_calls A c l w2 (Kd.C_below HC.out HB.out)).mono ?_
  rw [← HZ.out]
  rintro e w3 ⟨rfl, hb⟩
  have HB3 := Aside0.mk (below_step HB.out hb)
  clear hb
  go_wp2
  go_ret2
  exact ⟨rfl, HB3.out⟩
end Go.Proofs.YtfameghednapkaaDoor.Top
