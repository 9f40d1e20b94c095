/- tensor: Top and Most, by the order of places. -/
import Derived.Test.YtfameghednapkaaDoorOrdAB
namespace Go.Proofs.YtfameghednapkaaDoor.Top
open Go.RowKit Go.Proofs.YtfameghednapkaaDoorW.PrintWords Go.Proofs.YtfameghednapkaaDoorW.PrintLast Go.Proofs.YtfameghednapkaaDoorW.PrintMore Go.Proofs.YtfameghednapkaaDoor.K Go.Proofs.YtfameghednapkaaDoor.RI Go.Proofs.YtfameghednapkaaDoor.Sort Go.Proofs.YtfameghednapkaaDoor.Ten Go.Proofs.YtfameghednapkaaDoor.Fixed
set_option linter.unusedVariables false
set_option linter.unusedSimpArgs false
theorem check_len {l : List Int} (h : checkV l = 0) : 0 < l.length ∧ l.length ≤ 512 := by
  unfold checkV at h
  split at h
  · cases h
  · omega
theorem check_inR {l : List Int} (h : checkV l = 0) : l.all inR = true := by
  unfold checkV at h
  split at h
  · cases h
  · split at h
    · assumption
    · cases h
theorem top_all_calls (A : Option Addr) (c k : Nat) (l : List Int) (w : World) (hC : Kd.C (Kd.int .i64) w A l.length l) (h : checkV l = 0) (hk1 : 1 ≤ k) (hk2 : k ≤ l.length) :
    Calls Tryd.prog 15 #[.slice A l.length c, .int .i64 (k : Int)] w fun e w' => ∃ A' c', e = .returned (.tuple #[.slice A' k c', .int .i64 0]) ∧ Kd.Q (Kd.int .i64) 3 w' w.heap.size (fun _ => True) (.slice A' k c') ((ordL l).take k) ∧ Below w.heap.size w w' :=
  top_ok_calls A c k l (ordL l) w hC h hk1 hk2 (ordL_length l) (sorts_all l (by have := check_len h; omega) _ _ _ _)
theorem ordL_at (l : List Int) (i : Nat) (hi : i < l.length) : ∃ j : Nat, j < l.length ∧ (ordL l).getD i 0 = (j : Int) := by
  obtain ⟨j, _, j2, j3⟩ := (ordL_good l).2 i (Nat.zero_le _) hi
  replace j3 : (ordL l).getD i 0 = (places l.length).getD j 0 := j3
  rw [places_getD j2] at j3
  exact ⟨j, j2, j3⟩
/-- The place of the greatest number. -/
def mostV (l : List Int) : Int := (ordL l).getD 0 0
theorem mostV_spec {l : List Int} (h : 0 < l.length) : ∃ j : Nat, j < l.length ∧ mostV l = (j : Int) ∧ ∀ t, t < l.length → l.getD t 0 ≤ l.getD j 0 := by
  obtain ⟨j, j1, j2⟩ := ordL_at l 0 h
  refine ⟨j, j1, j2, fun t ht => ?_⟩
  obtain ⟨i, i1, i2⟩ := good_onto (ordL_good l) t ht
  replace i2 : (ordL l).getD i 0 = (t : Int) := i2
  by_cases e : i = 0
  · subst e
    rw [j2] at i2
    have : j = t := by omega
    subst this
    exact Int.le_refl _
  · have h1 := (ordL_good l).1 0 i (Nat.zero_le _) (by omega) i1
    replace h1 : prV l ((ordL l).getD 0 0) ((ordL l).getD i 0) := h1
    rw [j2, i2] at h1
    unfold prV cfV at h1
    rw [Int.toNat_natCast, Int.toNat_natCast] at h1
    omega
set_option maxHeartbeats 4000000 in
theorem most_ok_calls (A : Option Addr) (c : Nat) (l : List Int) (w : World) (hC : Kd.C (Kd.int .i64) w A l.length l) (h : checkV l = 0) :
    Calls Tryd.prog 16 #[.slice A l.length c] w fun e w' => e = .returned (.tuple #[.int .i64 (mostV l), .int .i64 0]) ∧ Below w.heap.size w w' := by
  have HK := Aside0.mk (top_all_calls A c 1 l w hC h (Nat.le_refl _) (check_len h).1)
  have HT : Aside0 (((ordL l).take 1).length = 1 ∧ ((ordL l).take 1).getD 0 0 = mostV l) := ⟨by
    have := (check_len h).1
    have h2 := ordL_length l
    refine ⟨by rw [List.length_take]; omega, ?_⟩
    unfold mostV
    rw [List.getD_eq_getElem?_getD, List.getElem?_take, if_pos (by omega), List.getD_eq_getElem?_getD]⟩
  clear hC h
  go_enter Tryd.func16, Tryd.ntmps16
  go_wp2_with (fail)
  refine HK.out.mono ?_
  rintro e w2 ⟨A', c', rfl, hQ, hb⟩
  obtain ⟨A3, c3, he, _, hC3⟩ := Kd.Q_reads hQ
  obtain rfl : A' = A3 := by injection he
  have hHT := HT.out
  obtain ⟨ad, rfl, hx⟩ := int_at hC3 0 (by have := hHT.1; omega)
  rw [hHT.2, show ad.add 0 = ad by cases ad; simp [Addr.add]] at hx
  have HB := Aside0.mk hb
  obtain ⟨m, hm⟩ : ∃ m, m = mostV l := ⟨_, rfl⟩
  rw [← hm] at hx
  have HMm := Aside0.mk hm
  clear hQ hb he hC3 hHT hm
  go_wp2
  go_ret2
  exact ⟨by rw [← HMm.out]; rfl, HB.out⟩
set_option maxHeartbeats 4000000 in
theorem most_bad_calls (A : Option Addr) (c : Nat) (l : List Int) (w : World) (hC : Kd.C (Kd.int .i64) w A l.length l) (h : checkV l ≠ 0) :
    Calls Tryd.prog 16 #[.slice A l.length c] w fun e w' => e = .returned (.tuple #[.int .i64 0, .int .i64 (checkV l)]) ∧ Below w.heap.size w w' := by
  have HK := Aside0.mk (top_bad_calls A c l 1 w hC h)
  have HC := Aside0.mk hC
  obtain ⟨z, hz⟩ : ∃ z, z = checkV l := ⟨_, rfl⟩
  have HZ := Aside0.mk hz
  rw [← hz] at HK h ⊢
  have dz : (z != 0) = true := by simpa using h
  clear hC h hz
  go_enter Tryd.func16, Tryd.ntmps16
  go_wp2_with (fail)
  refine HK.out.mono ?_
  rintro e w2 ⟨rfl, hb⟩
  have HB := Aside0.mk hb
  clear hb
  go_wp2_with (fail)
  refine (tcheck_calls A c l w2 (Kd.C_below HC.out HB.out)).mono ?_
  rw [← HZ.out]
  rintro e w3 ⟨rfl, hb⟩
  have HB3 := Aside0.mk (below_step HB.out hb)
  clear hb
  go_wp2
  go_ret2
  exact ⟨rfl, HB3.out⟩
end Go.Proofs.YtfameghednapkaaDoor.Top
