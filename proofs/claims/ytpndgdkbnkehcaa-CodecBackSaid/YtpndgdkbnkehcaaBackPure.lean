/- There and back: pieces and numbers. -/
import Derived.Test.YtpndgdkbnkehcaaCodecPure
import Derived.Test.YtpndgdkbnkehcaaIntsN
import Derived.Test.YtpndgdkbnkehcaaNumPure
namespace Go.Proofs.Ytpndgdkbnkehcaa.Codec
open Go.Proofs.Ytpndgdkbnkehcaa.K Go.Proofs.Ytpndgdkbnkehcaa.Num
theorem list4 {α : Type} (b : List α) (h : ¬ b.length < 4) : ∃ x0 x1 x2 x3 r, b = x0 :: x1 :: x2 :: x3 :: r := by
  match b, h with
  | [], h => exact absurd (by simp) h
  | [_], h => exact absurd (by simp) h
  | [_, _], h => exact absurd (by simp) h
  | [_, _, _], h => exact absurd (by simp) h
  | x0 :: x1 :: x2 :: x3 :: r, _ => exact ⟨x0, x1, x2, x3, r, rfl⟩
theorem join_split (n : Nat) : ∀ (b : List Int) (p : List (List Int)), b.length ≤ n → (∀ x ∈ b, 0 ≤ x ∧ x < 256) → splitL b = some p → joinL p = b := by
  induction n with
  | zero =>
    intro b p hn hb h
    obtain rfl : b = [] := List.eq_nil_of_length_eq_zero (by omega)
    rw [splitL] at h
    simp only [List.length_nil, dite_true, Option.some.injEq] at h
    subst h
    rfl
  | succ n ih =>
    intro b p hn hb h
    rw [splitL] at h
    by_cases h0 : b.length = 0
    · obtain rfl : b = [] := List.eq_nil_of_length_eq_zero h0
      simp only [List.length_nil, dite_true, Option.some.injEq] at h
      subst h
      rfl
    · by_cases h4 : b.length < 4
      · rw [dif_neg h0, if_pos h4] at h
        cases h
      · obtain ⟨x0, x1, x2, x3, r, rfl⟩ := list4 b h4
        have q0 := hb x0 (by simp)
        have q1 := hb x1 (by simp)
        have q2 := hb x2 (by simp)
        have q3 := hb x3 (by simp)
        have hnum : num4 (x0 :: x1 :: x2 :: x3 :: r) = ((x0 * 256 + x1) * 256 + x2) * 256 + x3 := rfl
        obtain ⟨m, hm⟩ : ∃ m : Nat, (m : Int) = ((x0 * 256 + x1) * 256 + x2) * 256 + x3 := ⟨_, Int.toNat_of_nonneg (by omega)⟩
        rw [dif_neg h0, if_neg h4, hnum, ← hm] at h
        have hd : (x0 :: x1 :: x2 :: x3 :: r).drop 4 = r := rfl
        rw [hd, Int.toNat_natCast] at h
        by_cases hl : (r.length : Int) < (m : Int)
        · rw [if_pos hl] at h
          cases h
        · rw [if_neg hl] at h
          obtain ⟨q, hq, rfl⟩ := Option.map_eq_some_iff.1 h
          have hi := ih (r.drop m) q (by simp only [List.length_cons] at hn; rw [List.length_drop]; omega) (fun x hx => hb x (by have := List.mem_of_mem_drop hx; simp [this])) hq
          have hlen : (r.take m).length = m := by rw [List.length_take]; omega
          have hbe : be4 m = [x0, x1, x2, x3] := by
            simp only [be4, hm, List.cons.injEq, and_true]
            refine ⟨?_, ?_, ?_, ?_⟩ <;> omega
          rw [joinL_cons, hlen, hbe, hi, List.take_append_drop]
          rfl
theorem intsV_nil : intsV [] = [] := rfl
theorem intsV_eight (a r : List Int) (ha : a.length = 8) : intsV (a ++ r) = IntKind.i64.wrap (val8 a 0) :: intsV r := by
  have hl : (a ++ r).length / 8 = r.length / 8 + 1 := by rw [List.length_append, ha]; omega
  rw [intsV, hl, List.range_succ_eq_map, List.map_cons, List.map_map, intsV]
  have hg : ∀ j, j < 8 → (a ++ r).getD j 0 = a.getD j 0 := fun j hj => by
    rw [List.getD_eq_getElem?_getD, List.getD_eq_getElem?_getD, List.getElem?_append_left (by omega)]
  have hg' : ∀ j, (a ++ r).getD (j + 8) 0 = r.getD j 0 := fun j => by
    rw [List.getD_eq_getElem?_getD, List.getD_eq_getElem?_getD, List.getElem?_append_right (by omega), ha, Nat.add_sub_cancel]
  refine List.cons_eq_cons.2 ⟨?_, List.map_congr_left fun i _ => ?_⟩
  · rw [intAt, val8, val8, Nat.zero_mul]
    simp only [Nat.zero_add]
    rw [hg 0 (by decide), hg 1 (by decide), hg 2 (by decide), hg 3 (by decide), hg 4 (by decide), hg 5 (by decide), hg 6 (by decide), hg 7 (by decide)]
  · show intAt (a ++ r) (i + 1) = intAt r i
    rw [intAt, intAt, val8, val8]
    have e : ∀ j, (i + 1) * 8 + j = (i * 8 + j) + 8 := fun j => by omega
    have e0 : (i + 1) * 8 = i * 8 + 8 := by omega
    rw [e 1, e 2, e 3, e 4, e 5, e 6, e 7, e0, hg', hg', hg', hg', hg', hg', hg', hg']
theorem numsL_cons (x : Int) (l : List Int) : numsL (x :: l) = be8 x ++ numsL l := rfl
theorem val8_be8 (x : Int) (h : I64 x) : IntKind.i64.wrap (val8 (be8 x) 0) = x := by
  have h0 := h.1
  have h1 := h.2
  have e : val8 (be8 x) 0 = ((((((x / 72057594037927936 % 256 * 256 + x / 281474976710656 % 256) * 256 + x / 1099511627776 % 256) * 256 + x / 4294967296 % 256) * 256 + x / 16777216 % 256) * 256 + x / 65536 % 256) * 256 + x / 256 % 256) * 256 + x % 256 := rfl
  rw [e, IntKind.wrap_i64]
  omega
theorem ints_nums (l : List Int) (h : ∀ x ∈ l, I64 x) : intsV (numsL l) = l := by
  induction l with
  | nil => rfl
  | cons x l ih => rw [numsL_cons, intsV_eight _ _ rfl, ih (fun y hy => h y (List.mem_cons_of_mem _ hy)), val8_be8 x (h x List.mem_cons_self)]
theorem be8_val8 (a : List Int) (ha : a.length = 8) (h : ∀ x ∈ a, 0 ≤ x ∧ x < 256) : be8 (IntKind.i64.wrap (val8 a 0)) = a := by
  match a, ha with
  | [x0, x1, x2, x3, x4, x5, x6, x7], _ =>
    have q0 := h x0 (by simp)
    have q1 := h x1 (by simp)
    have q2 := h x2 (by simp)
    have q3 := h x3 (by simp)
    have q4 := h x4 (by simp)
    have q5 := h x5 (by simp)
    have q6 := h x6 (by simp)
    have q7 := h x7 (by simp)
    have e : val8 [x0, x1, x2, x3, x4, x5, x6, x7] 0 = ((((((x0 * 256 + x1) * 256 + x2) * 256 + x3) * 256 + x4) * 256 + x5) * 256 + x6) * 256 + x7 := rfl
    rw [e, IntKind.wrap_i64]
    simp only [be8, List.cons.injEq, and_true]
    refine ⟨?_, ?_, ?_, ?_, ?_, ?_, ?_, ?_⟩ <;> omega
theorem nums_ints (n : Nat) : ∀ b : List Int, b.length = 8 * n → (∀ x ∈ b, 0 ≤ x ∧ x < 256) → numsL (intsV b) = b := by
  induction n with
  | zero =>
    intro b hb _
    obtain rfl : b = [] := List.eq_nil_of_length_eq_zero (by omega)
    rfl
  | succ n ih =>
    intro b hb hw
    have h1 : b = b.take 8 ++ b.drop 8 := (List.take_append_drop 8 b).symm
    have h8 : (b.take 8).length = 8 := by rw [List.length_take]; omega
    have hi := ih (b.drop 8) (by rw [List.length_drop]; omega) (fun x hx => hw x (List.mem_of_mem_drop hx))
    have hq := be8_val8 (b.take 8) h8 (fun x hx => hw x (List.mem_of_mem_take hx))
    conv => lhs; rw [h1, intsV_eight _ _ h8, numsL_cons, hq, hi]
    exact h1.symm
theorem numsL_bytes (l : List Int) : ∀ x ∈ numsL l, 0 ≤ x ∧ x < 256 := by
  intro x hx
  obtain ⟨p, hp, hx⟩ := List.mem_flatMap.1 hx
  simp only [be8, List.mem_cons, List.not_mem_nil, or_false] at hx
  rcases hx with rfl | rfl | rfl | rfl | rfl | rfl | rfl | rfl <;> omega
end Go.Proofs.Ytpndgdkbnkehcaa.Codec
