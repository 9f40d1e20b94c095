/- tensor: Top, by the order of places. -/
import Derived.Test.YtfameghednapkaaDoorOrdAB
namespace Go.Proofs.YtfameghednapkaaDoor.Top
open Go.RowKit Go.Proofs.YtfameghednapkaaDoorW.PrintWords Go.Proofs.YtfameghednapkaaDoorW.PrintLast Go.Proofs.YtfameghednapkaaDoorW.PrintMore Go.Proofs.YtfameghednapkaaDoor.K Go.Proofs.YtfameghednapkaaDoor.RI Go.Proofs.YtfameghednapkaaDoor.Sort Go.Proofs.YtfameghednapkaaDoor.Ten Go.Proofs.YtfameghednapkaaDoor.Fixed
set_option linter.unusedVariables false
set_option linter.unusedSimpArgs false
theorem check_len {l : List Int} (h : checkV l = 0) : 0 < l.length ∧ l.length ≤ 512 := by
  unfold checkV at h
  split at h
  · cases h
  · omega
theorem check_inR {l : List Int} (h : checkV l = 0) : l.all inR = true := by
  unfold checkV at h
  split at h
  · cases h
  · split at h
    · assumption
    · cases h
theorem top_all_calls (A : Option Addr) (c k : Nat) (l : List Int) (w : World) (hC : Kd.C (Kd.int .i64) w A l.length l) (h : checkV l = 0) (hk1 : 1 ≤ k) (hk2 : k ≤ l.length) :
    Calls Tryd.prog 15 #[.slice A l.length c, .int .i64 (k : Int)] w fun e w' => ∃ A' c', e = .returned (.tuple #[.slice A' k c', .int .i64 0]) ∧ Kd.Q (Kd.int .i64) 3 w' w.heap.size (fun _ => True) (.slice A' k c') ((ordL l).take k) ∧ Below w.heap.size w w' :=
  top_ok_calls A c k l (ordL l) w hC h hk1 hk2 (ordL_length l) (sorts_all l (by have := check_len h; omega) _ _ _ _)
theorem ordL_at (l : List Int) (i : Nat) (hi : i < l.length) : ∃ j : Nat, j < l.length ∧ (ordL l).getD i 0 = (j : Int) := by
  obtain ⟨j, _, j2, j3⟩ := (ordL_good l).2 i (Nat.zero_le _) hi
  replace j3 : (ordL l).getD i 0 = (places l.length).getD j 0 := j3
  rw [places_getD j2] at j3
  exact ⟨j, j2, j3⟩
/-- The place of the greatest number. -/
def mostV (l : List Int) : Int := (ordL l).getD 0 0
theorem mostV_spec {l : List Int} (h : 0 < l.length) : ∃ j : Nat, j < l.length ∧ mostV l = (j : Int) ∧ ∀ t, t < l.length → l.getD t 0 ≤ l.getD j 0 := by
  obtain ⟨j, j1, j2⟩ := ordL_at l 0 h
  refine ⟨j, j1, j2, fun t ht => ?_⟩
  obtain ⟨i, i1, i2⟩ := good_onto (ordL_good l) t ht
  replace i2 : (ordL l).getD i 0 = (t : Int) := i2
  by_cases e : i = 0
  · subst e
    rw [j2] at i2
    have : j = t := by omega
    subst this
    exact Int.le_refl _
  · have h1 := (ordL_good l).1 0 i (Nat.zero_le _) (by omega) i1
    replace h1 : prV l ((ordL l).getD 0 0) ((ordL l).getD i 0) := h1
    rw [j2, i2] at h1
    unfold prV cfV at h1
    rw [Int.toNat_natCast, Int.toNat_natCast] at h1
    omega
end Go.Proofs.YtfameghednapkaaDoor.Top
