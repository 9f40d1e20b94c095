/- Bytes of pieces, cut: between two pieces they are the pieces ahead, within a piece none's. -/
import Derived.Test.YtpndgdkbnkehcaaCodecPure
namespace Go.Proofs.Ytpndgdkbnkehcaa.Codec
open Go.Proofs.Ytpndgdkbnkehcaa.K
/-- Where the i-th piece begins. -/
def ends (l : List (List Int)) (i : Nat) : Nat := (joinL (l.take i)).length
theorem ends_zero (l : List (List Int)) : ends l 0 = 0 := rfl
theorem ends_succ (l : List (List Int)) (i : Nat) (h : i < l.length) : ends l (i + 1) = ends l i + 4 + (l.getD i []).length := by
  rw [ends, joinL_snoc l i h, List.length_append, List.length_append, be4_len]
  rfl
theorem ends_all (l : List (List Int)) : ends l l.length = (joinL l).length := by rw [ends, List.take_length]
theorem take_ends (l : List (List Int)) (i : Nat) : (joinL l).take (ends l i) = joinL (l.take i) := by
  conv => lhs; rw [← List.take_append_drop i l, joinL_append, ends, List.take_append_drop i l]
  rw [List.take_left]
/-- What is left behind the first pieces. -/
theorem cut_none (l : List (List Int)) (h : ∀ p ∈ l, p.length < 4294967296) (k : Nat) (hk : k < (joinL l).length) (hn : ∀ i, i ≤ l.length → ends l i ≠ k) : splitL ((joinL l).take k) = none := by
  induction l generalizing k with
  | nil => simp [joinL] at hk
  | cons p l ih =>
    have hp := h p List.mem_cons_self
    have h0 : k ≠ 0 := fun e => hn 0 (Nat.zero_le _) (by rw [ends_zero, e])
    have hlen : (joinL (p :: l)).length = 4 + p.length + (joinL l).length := by rw [joinL_cons, List.length_append, List.length_append, be4_len]; omega
    have hcut : ((joinL (p :: l)).take k).length = k := by rw [List.length_take]; omega
    rw [splitL, dif_neg (by rw [hcut]; exact h0)]
    by_cases h4 : k < 4
    · rw [if_pos (by rw [hcut]; exact h4)]
    · rw [if_neg (by rw [hcut]; exact h4)]
      have e1 : (joinL (p :: l)).take k = be4 p.length ++ (p ++ joinL l).take (k - 4) := by
        rw [joinL_cons, List.take_append, be4_len, List.take_of_length_le (by rw [be4_len]; omega)]
      have hd : (be4 p.length ++ (p ++ joinL l).take (k - 4)).drop 4 = (p ++ joinL l).take (k - 4) := by simp [be4]
      rw [e1, num4_be4 _ hp, hd]
      by_cases h5 : k - 4 < p.length
      · rw [if_pos (by rw [List.length_take, List.length_append]; omega)]
      · have e2 : (p ++ joinL l).take (k - 4) = p ++ (joinL l).take (k - 4 - p.length) := by rw [List.take_append, List.take_of_length_le (by omega)]
        rw [if_neg (by rw [e2, List.length_append]; omega), Int.toNat_natCast, e2, List.drop_left]
        have e3 : ∀ i, ends (p :: l) (i + 1) = 4 + p.length + ends l i := fun i => by
          rw [ends, List.take_succ_cons, joinL_cons, List.length_append, List.length_append, be4_len, ends]
          omega
        have := ih (fun q hq => h q (List.mem_cons_of_mem _ hq)) (k - 4 - p.length) (by omega) (fun i hi he => hn (i + 1) (by simp; omega) (by rw [e3, he]; omega))
        rw [this]
        rfl
theorem joinL_bytes (l : List (List Int)) (h : ∀ p ∈ l, ∀ x ∈ p, 0 ≤ x ∧ x < 256) : ∀ x ∈ joinL l, 0 ≤ x ∧ x < 256 := by
  intro x hx
  obtain ⟨p, hp, hx⟩ := List.mem_flatMap.1 hx
  rcases List.mem_append.1 hx with hx | hx
  · simp only [be4, List.mem_cons, List.not_mem_nil, or_false] at hx
    rcases hx with rfl | rfl | rfl | rfl <;> omega
  · exact h p hp x hx
/-- Between two pieces. -/
theorem cut_some (l : List (List Int)) (h : ∀ p ∈ l, p.length < 4294967296) (k i : Nat) (he : ends l i = k) : splitL ((joinL l).take k) = some (l.take i) := by
  rw [← he, take_ends, split_join _ (fun p hp => h p (List.mem_of_mem_take hp))]
theorem cut_found (l : List (List Int)) (h : ∀ p ∈ l, p.length < 4294967296) (k : Nat) (hk : k ≤ (joinL l).length) (ps : List (List Int)) (hs : splitL ((joinL l).take k) = some ps) (hn : ∀ j, j < l.length + 1 → ends l j ≠ k) : False := by
  have h1 : k ≠ (joinL l).length := fun e => hn l.length (by omega) (by rw [ends_all, e])
  rw [cut_none l h k (by omega) (fun i hi => hn i (by omega))] at hs
  cases hs
theorem ends_le (l : List (List Int)) (i : Nat) : ends l i ≤ (joinL l).length := joinL_le l i
end Go.Proofs.Ytpndgdkbnkehcaa.Codec
