/- tensor: plain: shares, their sum; what all numbers are greater by. -/
import Derived.Test.YtfameghednapkaaDoorMostB
import Derived.Test.YtfameghednapkaaDoorBunT3
namespace Go.Proofs.YtfameghednapkaaDoor.Ten
open Go.RowKit Go.Proofs.YtfameghednapkaaDoorW.PrintWords Go.Proofs.YtfameghednapkaaDoorW.PrintLast Go.Proofs.YtfameghednapkaaDoorW.PrintMore Go.Proofs.YtfameghednapkaaDoor.K Go.Proofs.YtfameghednapkaaDoor.Fixed Go.Proofs.YtfameghednapkaaDoor.Top
set_option linter.unusedVariables false
set_option linter.unusedSimpArgs false
theorem softV_length (l : List Int) : (softV l).length = l.length := by simp [softV, expsV]
theorem expsV_length (l : List Int) : (expsV l).length = l.length := by simp [expsV]
theorem softV_get {l : List Int} {i : Nat} (h : i < l.length) : (softV l).getD i 0 = expV (l.getD i 0 - maxV l) * 65536 / sumV (expsV l) := by
  simp [softV, expsV, List.getD_eq_getElem?_getD, h]
theorem floor_sum {S : Int} (hS : 0 < S) : ∀ xs : List Int, (∀ x ∈ xs, 0 ≤ x) → S * sumV (xs.map fun x => x * 65536 / S) ≤ 65536 * sumV xs ∧ 65536 * sumV xs - (xs.length : Int) * (S - 1) ≤ S * sumV (xs.map fun x => x * 65536 / S)
  | [], _ => by simp [sumV]
  | x :: t, h => by
    have ih := floor_sum hS t (fun y hy => h y (List.Mem.tail _ hy))
    have h1 := Int.emod_add_mul_ediv (x * 65536) S
    have h2 := Int.emod_nonneg (x * 65536) (show S ≠ 0 by omega)
    have h3 := Int.emod_lt_of_pos (x * 65536) hS
    simp only [List.map_cons, sumV, List.length_cons, Int.natCast_add, Int.mul_add, Int.add_mul, Int.one_mul]
    generalize S * sumV (t.map fun x => x * 65536 / S) = P at *
    generalize S * (x * 65536 / S) = Q at *
    generalize (x * 65536) % S = R at *
    generalize (t.length : Int) * (S - 1) = L at *
    constructor
    · omega
    · simp only [Int.natCast_one, Int.one_mul]
      omega
theorem soft_facts {l : List Int} (h : 0 < l.length) : sumV (softV l) ≤ 65536 ∧ 65536 - (l.length : Int) < sumV (softV l) := by
  have hS := sumV_pos h
  have hf := floor_sum (S := sumV (expsV l)) (by omega) (expsV l) (fun x hx => (expsV_bd l x hx).1)
  rw [expsV_length] at hf
  have e : (expsV l).map (fun x => x * 65536 / sumV (expsV l)) = softV l := rfl
  rw [e] at hf
  generalize sumV (softV l) = s at *
  generalize sumV (expsV l) = S at *
  obtain ⟨f1, f2⟩ := hf
  constructor
  · rcases Int.lt_or_le 65536 s with c | c
    · have := Int.mul_le_mul_of_nonneg_left (show 65537 ≤ s by omega) (show 0 ≤ S by omega)
      omega
    · exact c
  · rcases Int.lt_or_le (65536 - (l.length : Int)) s with c | c
    · exact c
    · have h1 := Int.mul_le_mul_of_nonneg_left c (show 0 ≤ S by omega)
      rw [Int.mul_sub, Int.mul_comm S (l.length : Int)] at h1
      rw [Int.mul_sub, Int.mul_one] at f2
      omega
theorem exp_zero : expV 0 = 65536 := by decide
theorem softV_bd {l : List Int} {i : Nat} (h : i < l.length) : 0 ≤ (softV l).getD i 0 ∧ (softV l).getD i 0 ≤ 65536 := by
  rw [softV_get h]
  have hS := sumV_pos (l := l) (by omega)
  have hm : expV (l.getD i 0 - maxV l) ∈ expsV l := by
    rw [List.getD_eq_getElem?_getD, List.getElem?_eq_getElem h, Option.getD_some]
    unfold expsV
    exact List.mem_map.2 ⟨_, List.getElem_mem h, rfl⟩
  have hb := expsV_bd l _ hm
  have hg := sumV_ge (fun x hx => (expsV_bd l x hx).1) hm
  generalize expV (l.getD i 0 - maxV l) = x at *
  generalize sumV (expsV l) = S at *
  refine ⟨Int.ediv_nonneg (by omega) (by omega), ?_⟩
  have := Int.ediv_le_ediv (show 0 < S by omega) (show x * 65536 ≤ 65536 * S by omega)
  rwa [Int.mul_ediv_cancel _ (by omega)] at this
theorem most_max {l : List Int} {j : Nat} (hj : j < l.length) (h : ∀ t, t < l.length → l.getD t 0 ≤ l.getD j 0) : l.getD j 0 = maxV l := by
  have h1 := maxF_ge l (l.length - 1) j (by omega)
  obtain ⟨t, t1, t2⟩ := maxF_at l (l.length - 1)
  have h2 := h t (by omega)
  unfold maxV
  omega
theorem soft_most {l : List Int} {i j : Nat} (hi : i < l.length) (hj : j < l.length) (h : ∀ t, t < l.length → l.getD t 0 ≤ l.getD j 0) : (softV l).getD i 0 ≤ (softV l).getD j 0 := by
  have e := most_max hj h
  rw [softV_get hi, softV_get hj, e, Int.sub_self, exp_zero]
  have hS := sumV_pos (l := l) (by omega)
  have hm : expV (l.getD i 0 - maxV l) ∈ expsV l := by
    rw [List.getD_eq_getElem?_getD, List.getElem?_eq_getElem hi, Option.getD_some]
    unfold expsV
    exact List.mem_map.2 ⟨_, List.getElem_mem hi, rfl⟩
  have hb := expsV_bd l _ hm
  exact Int.ediv_le_ediv (by omega) (by omega)
theorem soft_same {l : List Int} {i j : Nat} (hi : i < l.length) (hj : j < l.length) (h : l.getD i 0 = l.getD j 0) : (softV l).getD i 0 = (softV l).getD j 0 := by
  rw [softV_get hi, softV_get hj, h]
def moreV (l : List Int) (m : Int) : List Int := l.map fun x => x + m
theorem moreV_length (l : List Int) (m : Int) : (moreV l m).length = l.length := by simp [moreV]
theorem moreV_get {l : List Int} {m : Int} {i : Nat} (h : i < l.length) : (moreV l m).getD i 0 = l.getD i 0 + m := by simp [moreV, List.getD_eq_getElem?_getD, h]
theorem moreV_succ (l : List Int) (m : Int) (k : Nat) (h : k < l.length) : (moreV l m).take (k + 1) = (moreV l m).take k ++ [l.getD k 0 + m] := by
  rw [List.take_succ_eq_append_getElem (by rw [moreV_length]; exact h)]
  simp [moreV, List.getD_eq_getElem?_getD, h]
theorem maxF_more (l : List Int) (m : Int) : ∀ k, k < l.length → maxF (moreV l m) k = maxF l k + m
  | 0, h => by simp only [maxF]; exact moreV_get h
  | k + 1, h => by
    simp only [maxF]
    rw [maxF_more l m k (by omega), moreV_get h]
    repeat' split
    all_goals omega
theorem soft_more {l : List Int} (m : Int) (h : 0 < l.length) : softV (moreV l m) = softV l := by
  have e : expsV (moreV l m) = expsV l := by
    unfold expsV
    have hm : maxV (moreV l m) = maxV l + m := by
      unfold maxV
      rw [moreV_length]
      exact maxF_more l m _ (by omega)
    rw [hm]
    unfold moreV
    rw [List.map_map]
    refine List.map_congr_left fun x _ => ?_
    show expV (x + m - (maxV l + m)) = _
    congr 1
    omega
  unfold softV
  rw [e]
theorem sumV_take_succ (l : List Int) (k : Nat) (h : k < l.length) : sumV (l.take (k + 1)) = sumV (l.take k) + l.getD k 0 := by
  rw [List.take_succ_eq_append_getElem h, sumV_append, List.getD_eq_getElem?_getD, List.getElem?_eq_getElem h, Option.getD_some]
  simp [sumV]
theorem sumV_take_bd {l : List Int} (h : ∀ i, i < l.length → 0 ≤ l.getD i 0 ∧ l.getD i 0 ≤ 65536) : ∀ k, k ≤ l.length → 0 ≤ sumV (l.take k) ∧ sumV (l.take k) ≤ 65536 * (k : Int)
  | 0, _ => by simp [sumV]
  | k + 1, hk => by
    have h1 := sumV_take_bd h k (by omega)
    have h2 := h k (by omega)
    rw [sumV_take_succ l k (by omega), Int.natCast_add]
    omega
end Go.Proofs.YtfameghednapkaaDoor.Ten
