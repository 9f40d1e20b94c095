/- Pieces' bytes are read again as the pieces; rows of pieces that are not the same have other bytes. -/
import Derived.Test.YtpndgdkbnkehcaaCodecSplit
namespace Go.Proofs.Ytpndgdkbnkehcaa.Codec
open Go.Proofs.Ytpndgdkbnkehcaa.K
theorem be4_len (n : Nat) : (be4 n).length = 4 := rfl
theorem num4_be4 (n : Nat) (hn : n < 4294967296) (r : List Int) : num4 (be4 n ++ r) = (n : Int) := by
  simp [num4, be4]
  omega
theorem joinL_cons (p : List Int) (l : List (List Int)) : joinL (p :: l) = be4 p.length ++ (p ++ joinL l) := by
  rw [joinL, List.flatMap_cons, List.append_assoc]
  rfl
theorem joinL_append (l m : List (List Int)) : joinL (l ++ m) = joinL l ++ joinL m := by rw [joinL, List.flatMap_append]; rfl
theorem split_join (l : List (List Int)) (h : ∀ p ∈ l, p.length < 4294967296) : splitL (joinL l) = some l := by
  induction l with
  | nil => rw [splitL]; simp [joinL]
  | cons p l ih =>
    have hp := h p List.mem_cons_self
    have hd : (be4 p.length ++ (p ++ joinL l)).drop 4 = p ++ joinL l := by simp [be4]
    rw [joinL_cons, splitL, dif_neg (by simp [be4]), if_neg (by simp [be4]), hd, num4_be4 _ hp, if_neg (by simp; omega), Int.toNat_natCast]
    rw [List.drop_left, List.take_left, ih (fun q hq => h q (List.mem_cons_of_mem _ hq))]
    rfl
theorem joinL_inj (l m : List (List Int)) (hl : ∀ p ∈ l, p.length < 4294967296) (hm : ∀ p ∈ m, p.length < 4294967296) : joinL l = joinL m ↔ l = m := by
  refine ⟨fun h => ?_, fun h => by rw [h]⟩
  have h1 := split_join l hl
  rw [h, split_join m hm] at h1
  injection h1 with h1
  exact h1.symm
theorem joinL_bound (l : List (List Int)) (b : Nat) (h : ∀ p ∈ l, p.length ≤ b) : (joinL l).length ≤ (b + 4) * l.length := by
  induction l with
  | nil => simp [joinL]
  | cons p l ih =>
    have h1 := ih (fun q hq => h q (List.mem_cons_of_mem _ hq))
    have h2 := h p List.mem_cons_self
    rw [joinL_cons, List.length_append, List.length_append, be4_len, List.length_cons, Nat.mul_succ]
    omega
end Go.Proofs.Ytpndgdkbnkehcaa.Codec
