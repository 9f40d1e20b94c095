/- The reference's numbers: what its printed functions answer. -/
import Derived.Test.YtpndgdkbnkehcaaPCodecNumbersx1
import Derived.Test.YtpndgdkbnkehcaaCodecInts
namespace Go.Proofs.Ytpndgdkbnkehcaa.Num
open Go.RowKit Go.Proofs.YtpndgdkbnkehcaaW.PrintWords Go.Proofs.YtpndgdkbnkehcaaW.PrintLast Go.Proofs.YtpndgdkbnkehcaaW.PrintMore Go.Proofs.Ytpndgdkbnkehcaa.K Go.Proofs.Ytpndgdkbnkehcaa.Codec Go.Proofs.Ytpndgdkbnkehcaa.PCodecNumbers
set_option linter.unusedVariables false
def I64 (x : Int) : Prop := -9223372036854775808 ≤ x ∧ x < 9223372036854775808
theorem w64 (x : Int) (h : I64 x) : wrap64 x = x := by
  have h0 := h.1
  have h1 := h.2
  rw [wrap64]
  first
  | (rw [IntKind.wrap_i64]; omega)
  | omega
theorem num_step (k : Nat) (x : Int) (xs : List Int) (j : Nat) (h : I64 x) (hj : j < xs.length) (hs : xs.length ≤ 8) :
    cupelref02_Number.l0 (k + 1) x xs (j : Int) = cupelref02_Number.l0 k (x / 256) (xs.set j (x % 256)) ((j : Int) - 1) := by
  have h0 := h.1
  have h1 := h.2
  have hr := Int.tmod_def x 256
  have hd : Int.tdiv x 256 = if 0 ≤ x ∨ x % 256 = 0 then x / 256 else x / 256 + 1 := by
    rw [Int.tdiv_eq_ediv]
    have : (256 : Int) ∣ x ↔ x % 256 = 0 := by omega
    simp only [this]
    have hs : Int.sign 256 = 1 := rfl
    split <;> simp [hs]
  have hj0 : (0 : Int) ≤ (j : Int) := by omega
  have hj1 : (j : Int) < (xs.length : Int) := by omega
  have hw : wrap64 ((j : Int) - 1) = (j : Int) - 1 := w64 _ ⟨by omega, by omega⟩
  rw [cupelref02_Number.l0, if_pos hj0]
  by_cases hx : 0 ≤ x ∨ x % 256 = 0
  · rw [if_pos hx] at hd
    have e1 : Int.tmod x 256 = x % 256 := by rw [hr, hd]; omega
    rw [e1, if_neg (by omega), if_pos hj0, if_pos hj1, hd, hw, w64 (x / 256) ⟨by omega, by omega⟩, Int.emod_emod_of_dvd _ (Int.dvd_refl 256), Int.toNat_natCast]
  · rw [if_neg hx] at hd
    have e1 : Int.tmod x 256 = x % 256 - 256 := by rw [hr, hd]; omega
    rw [e1, if_pos (by omega), if_pos hj0, if_pos hj1, hd, hw, w64 (x / 256 + 1) ⟨by omega, by omega⟩, w64 (x / 256 + 1 - 1) ⟨by omega, by omega⟩, w64 (x % 256 - 256 + 256) ⟨by omega, by omega⟩, Int.toNat_natCast]
    congr 2 <;> omega
theorem num_eight (k : Nat) (x : Int) (h : I64 x) : cupelref02_Number.f (k + 9) x = some (be8 x) := by
  have h0 := h.1
  have h1 := h.2
  have hd : ∀ y : Int, I64 y → I64 (y / 256) := fun y hy => ⟨by have := hy.1; omega, by have := hy.2; omega⟩
  have hs := hd
  rw [cupelref02_Number.f, if_pos (by decide)]
  have q7 := num_step (k + 8) x (List.replicate 8 0) 7 h (by decide) (by decide)
  have a1 := hd _ h
  have q6 := num_step (k + 7) _ ((List.replicate 8 0).set 7 (x % 256)) 6 a1 (by simp) (by simp)
  have a2 := hd _ a1
  have q5 := num_step (k + 6) _ (((List.replicate 8 0).set 7 (x % 256)).set 6 (x / 256 % 256)) 5 a2 (by simp) (by simp)
  have a3 := hd _ a2
  have q4 := num_step (k + 5) _ ((((List.replicate 8 0).set 7 (x % 256)).set 6 (x / 256 % 256)).set 5 (x / 256 / 256 % 256)) 4 a3 (by simp) (by simp)
  have a4 := hd _ a3
  have q3 := num_step (k + 4) _ (((((List.replicate 8 0).set 7 (x % 256)).set 6 (x / 256 % 256)).set 5 (x / 256 / 256 % 256)).set 4 (x / 256 / 256 / 256 % 256)) 3 a4 (by simp) (by simp)
  have a5 := hd _ a4
  have q2 := num_step (k + 3) _ ((((((List.replicate 8 0).set 7 (x % 256)).set 6 (x / 256 % 256)).set 5 (x / 256 / 256 % 256)).set 4 (x / 256 / 256 / 256 % 256)).set 3 (x / 256 / 256 / 256 / 256 % 256)) 2 a5 (by simp) (by simp)
  have a6 := hd _ a5
  have q1 := num_step (k + 2) _ (((((((List.replicate 8 0).set 7 (x % 256)).set 6 (x / 256 % 256)).set 5 (x / 256 / 256 % 256)).set 4 (x / 256 / 256 / 256 % 256)).set 3 (x / 256 / 256 / 256 / 256 % 256)).set 2 (x / 256 / 256 / 256 / 256 / 256 % 256)) 1 a6 (by simp) (by simp)
  have a7 := hd _ a6
  have q0 := num_step (k + 1) _ ((((((((List.replicate 8 0).set 7 (x % 256)).set 6 (x / 256 % 256)).set 5 (x / 256 / 256 % 256)).set 4 (x / 256 / 256 / 256 % 256)).set 3 (x / 256 / 256 / 256 / 256 % 256)).set 2 (x / 256 / 256 / 256 / 256 / 256 % 256)).set 1 (x / 256 / 256 / 256 / 256 / 256 / 256 % 256)) 0 a7 (by simp) (by simp)
  have e7 : ((7 : Nat) : Int) = 7 := rfl
  have e6 : ((7 : Nat) : Int) - 1 = ((6 : Nat) : Int) := rfl
  have e5 : ((6 : Nat) : Int) - 1 = ((5 : Nat) : Int) := rfl
  have e4 : ((5 : Nat) : Int) - 1 = ((4 : Nat) : Int) := rfl
  have e3 : ((4 : Nat) : Int) - 1 = ((3 : Nat) : Int) := rfl
  have e2 : ((3 : Nat) : Int) - 1 = ((2 : Nat) : Int) := rfl
  have e1 : ((2 : Nat) : Int) - 1 = ((1 : Nat) : Int) := rfl
  have e0 : ((1 : Nat) : Int) - 1 = ((0 : Nat) : Int) := rfl
  rw [← e7, q7, e6, q6, e5, q5, e4, q4, e3, q3, e2, q2, e1, q1, e0, q0, cupelref02_Number.l0, if_neg (by decide)]
  have c2 : x / 256 / 256 = x / 65536 := by omega
  have c3 : x / 256 / 256 / 256 = x / 16777216 := by omega
  have c4 : x / 256 / 256 / 256 / 256 = x / 4294967296 := by omega
  have c5 : x / 256 / 256 / 256 / 256 / 256 = x / 1099511627776 := by omega
  have c6 : x / 256 / 256 / 256 / 256 / 256 / 256 = x / 281474976710656 := by omega
  have c7 : x / 256 / 256 / 256 / 256 / 256 / 256 / 256 = x / 72057594037927936 := by omega
  rw [c7, c6, c5, c4, c3, c2]
  rfl
theorem nums_f (l : List Int) (hl : ∀ x ∈ l, I64 x) (hb : l.length * 8 ≤ 1000000) : ∀ d i, i + d = l.length → cupelref02_Numbers.l0 (d + 10) l (numsL (l.take i)) (i : Int) = some (numsL l)
  | 0, i, h => by
    rw [cupelref02_Numbers.l0, if_neg (by omega), List.take_of_length_le (by omega)]
  | d + 1, i, h => by
    have hi : i < l.length := by omega
    rw [show d + 1 + 10 = (d + 10) + 1 by omega, cupelref02_Numbers.l0, if_pos (by omega), if_pos (by omega), show d + 10 = (d + 1) + 9 by omega]
    have hx : I64 (rd l (i : Int)) := by
      rw [rd, Int.toNat_natCast, List.getD, List.getElem?_eq_getElem hi]
      exact hl _ (List.getElem_mem hi)
    rw [num_eight _ _ hx, Option.bind_some]
    have hlen := numsL_len (l.take i)
    rw [List.length_take] at hlen
    rw [if_pos (by simp only [be8, List.length_cons, List.length_nil]; omega), w64 _ ⟨by omega, by omega⟩]
    have hs := numsL_snoc l i hi
    rw [rd, Int.toNat_natCast, ← hs, show (d + 1) + 9 = d + 10 by omega]
    exact nums_f l hl hb d (i + 1) (by omega)
theorem numbers_f (l : List Int) (hl : ∀ x ∈ l, I64 x) (hb : l.length * 8 ≤ 1000000) : cupelref02_Numbers.f (l.length + 10) l = some (numsL l) := nums_f l hl hb l.length 0 (by omega)
theorem int_step (k : Nat) (l : List Int) (n x : Int) (j : Nat) (hj : j < 8) (hl : l.length = 8) (h0 : -36028797018963968 ≤ n) (h1 : n < 36028797018963968) (hx : l.getD j 0 = x) (hb : 0 ≤ x ∧ x < 256) :
    cupelref02_Int.l0 (k + 1) l n (j : Int) = cupelref02_Int.l0 k l (256 * n + x) (((j + 1 : Nat)) : Int) := by
  have hb0 := hb.1
  have hb1 := hb.2
  rw [cupelref02_Int.l0, if_pos (by omega), if_pos (by omega), if_pos (by omega), rd, Int.toNat_natCast, hx, w64 x ⟨by omega, by omega⟩, w64 (256 * n) ⟨by omega, by omega⟩, w64 (256 * n + x) ⟨by omega, by omega⟩, w64 _ ⟨by omega, by omega⟩]
  rfl
theorem int_f (l : List Int) (hl : l.length = 8) (hb : ∀ x ∈ l, 0 ≤ x ∧ x < 256) : cupelref02_Int.f 10 l = some (IntKind.i64.wrap (val8 l 0)) := by
  have b0 := byte_at hb 0
  have b1 := byte_at hb 1
  have b2 := byte_at hb 2
  have b3 := byte_at hb 3
  have b4 := byte_at hb 4
  have b5 := byte_at hb 5
  have b6 := byte_at hb 6
  have b7 := byte_at hb 7
  have key : ∀ n0 : Int, -128 ≤ n0 → n0 < 128 → cupelref02_Int.j0 10 l n0 = some (256 * (256 * (256 * (256 * (256 * (256 * (256 * n0 + l.getD 1 0) + l.getD 2 0) + l.getD 3 0) + l.getD 4 0) + l.getD 5 0) + l.getD 6 0) + l.getD 7 0) := fun n0 h0 h1 => by
    rw [cupelref02_Int.j0, show (1 : Int) = ((1 : Nat) : Int) from rfl]
    generalize hy1 : l.getD 1 0 = y1 at *
    generalize hy2 : l.getD 2 0 = y2 at *
    generalize hy3 : l.getD 3 0 = y3 at *
    generalize hy4 : l.getD 4 0 = y4 at *
    generalize hy5 : l.getD 5 0 = y5 at *
    generalize hy6 : l.getD 6 0 = y6 at *
    generalize hy7 : l.getD 7 0 = y7 at *
    rw [int_step 8 l n0 y1 1 (by decide) hl (by omega) (by omega) hy1 b1, int_step 7 l _ y2 2 (by decide) hl (by omega) (by omega) hy2 b2, int_step 6 l _ y3 3 (by decide) hl (by omega) (by omega) hy3 b3, int_step 5 l _ y4 4 (by decide) hl (by omega) (by omega) hy4 b4, int_step 4 l _ y5 5 (by decide) hl (by omega) (by omega) hy5 b5, int_step 3 l _ y6 6 (by decide) hl (by omega) (by omega) hy6 b6, int_step 2 l _ y7 7 (by decide) hl (by omega) (by omega) hy7 b7, cupelref02_Int.l0, if_neg (by decide)]
  rw [cupelref02_Int.f, if_pos (by omega)]
  have hr : rd l 0 = l.getD 0 0 := rfl
  rw [hr, w64 (l.getD 0 0) ⟨by omega, by omega⟩, val8]
  simp only [Nat.zero_add]
  generalize l.getD 0 0 = y0 at *
  generalize l.getD 1 0 = y1 at *
  generalize l.getD 2 0 = y2 at *
  generalize l.getD 3 0 = y3 at *
  generalize l.getD 4 0 = y4 at *
  generalize l.getD 5 0 = y5 at *
  generalize l.getD 6 0 = y6 at *
  generalize l.getD 7 0 = y7 at *
  by_cases h : y0 ≥ 128
  · rw [if_pos h, w64 (y0 - 256) ⟨by omega, by omega⟩, key _ (by omega) (by omega), IntKind.wrap_i64]
    congr 1
    omega
  · rw [if_neg h, key _ (by omega) (by omega), IntKind.wrap_i64]
    congr 1
    omega
end Go.Proofs.Ytpndgdkbnkehcaa.Num
