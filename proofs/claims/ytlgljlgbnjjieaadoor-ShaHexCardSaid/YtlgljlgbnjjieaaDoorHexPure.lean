/- Digits: which digits bytes have, and which bytes digits are. -/
import Derived.Test.YtlgljlgbnjjieaaDoorK
import Derived.Lib.Bytealg
namespace Go.Proofs.YtlgljlgbnjjieaaDoor.Hex
open Go.RowKit Go.Proofs.YtlgljlgbnjjieaaDoor.K
set_option linter.unusedVariables false
/-- The digits, in their order. -/
def digs : List UInt8 := [48, 49, 50, 51, 52, 53, 54, 55, 56, 57, 97, 98, 99, 100, 101, 102]
def dig (n : Int) : UInt8 := digs.getD n.toNat 0
def hexL (d : List Int) : List UInt8 := d.flatMap fun b => [dig (b / 16), dig (b % 16)]
/-- A digit's number; -1: it is none. -/
def nib (c : UInt8) : Int := Lib.indexByte digs c
theorem index_range (c : UInt8) : ∀ l : List UInt8, -1 ≤ Lib.indexByte l c ∧ Lib.indexByte l c < l.length
  | [] => ⟨by rw [Lib.indexByte]; decide, by rw [Lib.indexByte]; decide⟩
  | b :: l => by
    have ih := index_range c l
    rw [Lib.indexByte]
    rw [List.length_cons]
    split
    · constructor <;> omega
    · split
      · constructor <;> omega
      · constructor <;> omega
theorem nib_range (c : UInt8) : -1 ≤ nib c ∧ nib c < 16 := index_range c digs
theorem nib_dig (n : Int) (h0 : 0 ≤ n) (h1 : n < 16) : nib (dig n) = n := by
  obtain ⟨k, rfl⟩ := Int.eq_ofNat_of_zero_le h0
  match k, (show k < 16 by omega) with
  | 0, _ => rfl
  | 1, _ => rfl
  | 2, _ => rfl
  | 3, _ => rfl
  | 4, _ => rfl
  | 5, _ => rfl
  | 6, _ => rfl
  | 7, _ => rfl
  | 8, _ => rfl
  | 9, _ => rfl
  | 10, _ => rfl
  | 11, _ => rfl
  | 12, _ => rfl
  | 13, _ => rfl
  | 14, _ => rfl
  | 15, _ => rfl
  | k + 16, h => exact absurd h (by omega)
theorem index_dig : ∀ (l : List UInt8) (c : UInt8), 0 ≤ Lib.indexByte l c → l.getD (Lib.indexByte l c).toNat 0 = c
  | [], c, h => absurd h (by rw [Lib.indexByte]; decide)
  | b :: l, c, h => by
    rw [Lib.indexByte] at h ⊢
    by_cases hb : b == c
    · rw [if_pos hb]
      simpa using hb
    · rw [if_neg hb] at h ⊢
      by_cases h1 : Lib.indexByte l c == -1
      · rw [if_pos h1] at h
        exact absurd h (by decide)
      · rw [if_neg h1] at h ⊢
        have hge : -1 ≤ Lib.indexByte l c := (index_range c l).1
        have h2 : Lib.indexByte l c ≠ -1 := by simpa using h1
        have h3 : 0 ≤ Lib.indexByte l c := by omega
        rw [show (Lib.indexByte l c + 1).toNat = (Lib.indexByte l c).toNat + 1 by omega, List.getD_cons_succ]
        exact index_dig l c h3
theorem dig_nib (c : UInt8) (h : 0 ≤ nib c) : dig (nib c) = c := index_dig digs c h
/-- The digest of the first digits: what stands in the place that is being laid is its first digit alone. -/
def pairs : List UInt8 → List Int
  | a :: b :: l => (16 * nib a + nib b) :: pairs l
  | _ => []
def allDig (s : List UInt8) : Bool := s.all fun c => decide (0 ≤ nib c)
def unhexV (s : List UInt8) : Option (List Int) := if s.length = 64 ∧ allDig s = true then some (pairs s) else none
theorem pairs_hex : ∀ (d : List Int), (∀ x ∈ d, 0 ≤ x ∧ x < 256) → pairs (hexL d) = d
  | [], _ => rfl
  | b :: d, h => by
    have hb := h b List.mem_cons_self
    show pairs (dig (b / 16) :: dig (b % 16) :: hexL d) = b :: d
    rw [pairs, nib_dig _ (by omega) (by omega), nib_dig _ (by omega) (by omega), pairs_hex d (fun x hx => h x (List.mem_cons_of_mem _ hx)), show 16 * (b / 16) + b % 16 = b by omega]
theorem hex_length (d : List Int) : (hexL d).length = 2 * d.length := by
  induction d with
  | nil => rfl
  | cons b d ih =>
    show (dig (b / 16) :: dig (b % 16) :: hexL d).length = _
    rw [List.length_cons, List.length_cons, ih, List.length_cons]
    omega
theorem hex_dig : ∀ (d : List Int), (∀ x ∈ d, 0 ≤ x ∧ x < 256) → allDig (hexL d) = true
  | [], _ => rfl
  | b :: d, h => by
    have hb := h b List.mem_cons_self
    show (dig (b / 16) :: dig (b % 16) :: hexL d).all _ = true
    rw [List.all_cons, List.all_cons, nib_dig _ (by omega) (by omega), nib_dig _ (by omega) (by omega)]
    have := hex_dig d (fun x hx => h x (List.mem_cons_of_mem _ hx))
    rw [allDig] at this
    rw [this]
    simp
    omega
theorem unhex_hex (d : List Int) (hd : d.length = 32) (h : ∀ x ∈ d, 0 ≤ x ∧ x < 256) : unhexV (hexL d) = some d := by
  rw [unhexV, if_pos ⟨by rw [hex_length, hd], hex_dig d h⟩, pairs_hex d h]
theorem hex_pairs (n : Nat) : ∀ (s : List UInt8), s.length = 2 * n → allDig s = true → hexL (pairs s) = s ∧ (pairs s).length = n ∧ ∀ x ∈ pairs s, 0 ≤ x ∧ x < 256 := by
  induction n with
  | zero =>
    intro s hs _
    obtain rfl : s = [] := List.eq_nil_of_length_eq_zero (by omega)
    exact ⟨rfl, rfl, fun x hx => by cases hx⟩
  | succ n ih =>
    intro s hs ha
    match s, hs with
    | a :: b :: s, hs =>
      rw [allDig, List.all_cons, List.all_cons] at ha
      simp only [Bool.and_eq_true, decide_eq_true_eq] at ha
      obtain ⟨h1, h2, h3⟩ := ha
      obtain ⟨i1, i2, i3⟩ := ih s (by simp at hs; omega) h3
      have ra := nib_range a
      have rb := nib_range b
      refine ⟨?_, ?_, ?_⟩
      · show dig ((16 * nib a + nib b) / 16) :: dig ((16 * nib a + nib b) % 16) :: hexL (pairs s) = _
        rw [show (16 * nib a + nib b) / 16 = nib a by omega, show (16 * nib a + nib b) % 16 = nib b by omega, dig_nib a h1, dig_nib b h2, i1]
      · show ((16 * nib a + nib b) :: pairs s).length = n + 1
        rw [List.length_cons, i2]
      · intro x hx
        rcases List.mem_cons.1 hx with rfl | hx
        · omega
        · exact i3 x hx
theorem hex_unhex (s : List UInt8) (d : List Int) (h : unhexV s = some d) : hexL d = s ∧ d.length = 32 ∧ ∀ x ∈ d, 0 ≤ x ∧ x < 256 := by
  rw [unhexV] at h
  by_cases hc : s.length = 64 ∧ allDig s = true
  · rw [if_pos hc] at h
    injection h with h
    subst h
    exact hex_pairs 32 s hc.1 hc.2
  · rw [if_neg hc] at h
    cases h
end Go.Proofs.YtlgljlgbnjjieaaDoor.Hex
