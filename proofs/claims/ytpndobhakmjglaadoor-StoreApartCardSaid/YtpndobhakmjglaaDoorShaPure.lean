/- sha: the plain functions: words of 32 bits, a block's turn, what a hash has taken, the digest. -/
import Derived.Test.YtpndobhakmjglaaDoorK
namespace Go.Proofs.YtpndobhakmjglaaDoor.Sha
open Go.RowKit Go.Proofs.YtpndobhakmjglaaDoorW.PrintWords Go.Proofs.YtpndobhakmjglaaDoorW.PrintLast Go.Proofs.YtpndobhakmjglaaDoorW.PrintMore Go.Proofs.YtpndobhakmjglaaDoor.K
set_option linter.unusedVariables false
abbrev W32 := BitVec 32
/-- A word's number. -/
def wi (x : W32) : Int := (x.toNat : Int)
theorem wi_range (x : W32) : 0 ≤ wi x ∧ wi x < 4294967296 := by
  have := x.isLt
  unfold wi
  omega
theorem wi_inj {x y : W32} (h : wi x = wi y) : x = y := by
  apply BitVec.eq_of_toNat_eq
  unfold wi at h
  omega
theorem ofInt_wi (x : W32) : BitVec.ofInt 32 (wi x) = x := by simp [wi]
theorem wi_wrap (n : Nat) (h : n < 4294967296) : IntKind.u32.wrap (n : Int) = (n : Int) := by rw [IntKind.wrap_u32]; omega
theorem u32_xor (x y : W32) : Go.bits .xor .u32 (wi x) (wi y) = wi (x ^^^ y) := by
  show IntKind.u32.wrap ((BitVec.ofInt 32 (wi x) ^^^ BitVec.ofInt 32 (wi y)).toNat : Int) = _
  rw [ofInt_wi, ofInt_wi]
  exact wi_wrap _ (x ^^^ y).isLt
theorem u32_and (x y : W32) : Go.bits .and .u32 (wi x) (wi y) = wi (x &&& y) := by
  show IntKind.u32.wrap ((BitVec.ofInt 32 (wi x) &&& BitVec.ofInt 32 (wi y)).toNat : Int) = _
  rw [ofInt_wi, ofInt_wi]
  exact wi_wrap _ (x &&& y).isLt
theorem u32_or (x y : W32) : Go.bits .or .u32 (wi x) (wi y) = wi (x ||| y) := by
  show IntKind.u32.wrap ((BitVec.ofInt 32 (wi x) ||| BitVec.ofInt 32 (wi y)).toNat : Int) = _
  rw [ofInt_wi, ofInt_wi]
  exact wi_wrap _ (x ||| y).isLt
theorem u32_add (x y : W32) : IntKind.u32.wrap (wi x + wi y) = wi (x + y) := by
  rw [IntKind.wrap_u32]
  unfold wi
  rw [BitVec.toNat_add]
  omega
theorem u32_shr (x : W32) (k : Nat) : wi x / 2 ^ k = wi (x >>> k) := by
  unfold wi
  rw [BitVec.toNat_ushiftRight, Nat.shiftRight_eq_div_pow]
  simp
theorem u32_shl (x : W32) (k : Nat) : IntKind.u32.wrap (wi x * 2 ^ k) = wi (x <<< k) := by
  rw [IntKind.wrap_u32]
  unfold wi
  rw [BitVec.toNat_shiftLeft, Nat.shiftLeft_eq]
  simp
def rotr (x : W32) (k : Nat) : W32 := x >>> k ||| x <<< (32 - k)
theorem u32_rotr (x : W32) (k : Nat) : Go.bits .or .u32 (wi x / 2 ^ k) (IntKind.u32.wrap (wi x * 2 ^ (32 - k))) = wi (rotr x k) := by
  rw [u32_shr, u32_shl, u32_or]
  rfl
def constL : List Nat := [
  0x428a2f98, 0x71374491, 0xb5c0fbcf, 0xe9b5dba5, 0x3956c25b, 0x59f111f1, 0x923f82a4, 0xab1c5ed5,
  0xd807aa98, 0x12835b01, 0x243185be, 0x550c7dc3, 0x72be5d74, 0x80deb1fe, 0x9bdc06a7, 0xc19bf174,
  0xe49b69c1, 0xefbe4786, 0x0fc19dc6, 0x240ca1cc, 0x2de92c6f, 0x4a7484aa, 0x5cb0a9dc, 0x76f988da,
  0x983e5152, 0xa831c66d, 0xb00327c8, 0xbf597fc7, 0xc6e00bf3, 0xd5a79147, 0x06ca6351, 0x14292967,
  0x27b70a85, 0x2e1b2138, 0x4d2c6dfc, 0x53380d13, 0x650a7354, 0x766a0abb, 0x81c2c92e, 0x92722c85,
  0xa2bfe8a1, 0xa81a664b, 0xc24b8b70, 0xc76c51a3, 0xd192e819, 0xd6990624, 0xf40e3585, 0x106aa070,
  0x19a4c116, 0x1e376c08, 0x2748774c, 0x34b0bcb5, 0x391c0cb3, 0x4ed8aa4a, 0x5b9cca4f, 0x682e6ff3,
  0x748f82ee, 0x78a5636f, 0x84c87814, 0x8cc70208, 0x90befffa, 0xa4506ceb, 0xbef9a3f7, 0xc67178f2]
def kL : List W32 := constL.map (BitVec.ofNat 32)
/-- A state. -/
structure St where
  a : W32
  b : W32
  c : W32
  d : W32
  e : W32
  f : W32
  g : W32
  h : W32
def init : St := ⟨0x6a09e667#32, 0xbb67ae85#32, 0x3c6ef372#32, 0xa54ff53a#32, 0x510e527f#32, 0x9b05688c#32, 0x1f83d9ab#32, 0x5be0cd19#32⟩
def St.l (s : St) : List W32 := [s.a, s.b, s.c, s.d, s.e, s.f, s.g, s.h]
/-- Its numbers, as cells. -/
def St.nums (s : St) : List Int := s.l.map wi
def word (b : List Int) (t : Nat) : W32 := BitVec.ofInt 32 (((b.getD (4 * t) 0 * 256 + b.getD (4 * t + 1) 0) * 256 + b.getD (4 * t + 2) 0) * 256 + b.getD (4 * t + 3) 0)
def sig0 (x : W32) : W32 := rotr x 7 ^^^ rotr x 18 ^^^ x >>> 3
def sig1 (x : W32) : W32 := rotr x 17 ^^^ rotr x 19 ^^^ x >>> 10
def wAt (b : List Int) (w : List W32) (t : Nat) : W32 :=
  if t < 16 then word b t else w.getD (t - 16) 0 + w.getD (t - 7) 0 + sig0 (w.getD (t - 15) 0) + sig1 (w.getD (t - 2) 0)
/-- The first t words of a block. -/
def ws (b : List Int) : Nat → List W32
  | 0 => []
  | t + 1 => ws b t ++ [wAt b (ws b t) t]
theorem ws_length (b : List Int) (t : Nat) : (ws b t).length = t := by
  induction t with
  | zero => rfl
  | succ t ih => simp [ws, ih]
def pOf (s : St) (k w : W32) : W32 := s.h + (rotr s.e 6 ^^^ rotr s.e 11 ^^^ rotr s.e 25) + (s.g ^^^ s.e &&& (s.f ^^^ s.g)) + k + w
def qOf (s : St) : W32 := (rotr s.a 2 ^^^ rotr s.a 13 ^^^ rotr s.a 22) + (s.a &&& s.b ||| s.c &&& (s.a ||| s.b))
def rnd (s : St) (k w : W32) : St := ⟨pOf s k w + qOf s, s.a, s.b, s.c, s.d + pOf s k w, s.e, s.f, s.g⟩
/-- t rounds. -/
def rs (s : St) (w : List W32) : Nat → St
  | 0 => s
  | t + 1 => rnd (rs s w t) (kL.getD t 0) (w.getD t 0)
def St.add (s t : St) : St := ⟨s.a + t.a, s.b + t.b, s.c + t.c, s.d + t.d, s.e + t.e, s.f + t.f, s.g + t.g, s.h + t.h⟩
def turnV (s : St) (b : List Int) : St := (rs s (ws b 64) 64).add s
/-- What a hash is, which was s and r (less than a block), after its bytes. -/
def absorb (s : St) (l : List Int) : St × List Int :=
  if h : l.length < 64 then (s, l) else absorb (turnV s (l.take 64)) (l.drop 64)
termination_by l.length
decreasing_by simp only [List.length_drop]; omega
theorem absorb_lt {s : St} {l : List Int} (h : l.length < 64) : absorb s l = (s, l) := by rw [absorb, dif_pos h]
theorem absorb_ge {s : St} {l : List Int} (h : ¬ l.length < 64) : absorb s l = absorb (turnV s (l.take 64)) (l.drop 64) := by rw [absorb, dif_neg h]
theorem absorb_append (n : Nat) : ∀ (s : St) (l m : List Int), l.length ≤ n → absorb s (l ++ m) = absorb (absorb s l).1 ((absorb s l).2 ++ m) := by
  induction n with
  | zero =>
    intro s l m hn
    rw [absorb_lt (l := l) (by omega)]
  | succ n ih =>
    intro s l m hn
    by_cases h : l.length < 64
    · rw [absorb_lt h]
    · rw [absorb_ge h, absorb_ge (by rw [List.length_append]; omega), List.take_append_of_le_length (by omega), List.drop_append_of_le_length (by omega)]
      exact ih _ _ _ (by rw [List.length_drop]; omega)
theorem absorb_rest (n : Nat) : ∀ (s : St) (l : List Int), l.length ≤ n → (absorb s l).2.length = l.length % 64 ∧ ((∀ x ∈ l, 0 ≤ x ∧ x < 256) → ∀ x ∈ (absorb s l).2, 0 ≤ x ∧ x < 256) := by
  induction n with
  | zero =>
    intro s l hn
    rw [absorb_lt (by omega)]
    exact ⟨by show l.length = _; omega, fun h => h⟩
  | succ n ih =>
    intro s l hn
    by_cases h : l.length < 64
    · rw [absorb_lt h]
      exact ⟨by show l.length = _; omega, fun h => h⟩
    · rw [absorb_ge h]
      obtain ⟨h1, h2⟩ := ih (turnV s (l.take 64)) (l.drop 64) (by rw [List.length_drop]; omega)
      exact ⟨by rw [h1, List.length_drop]; omega, fun hb => h2 fun x hx => hb x (List.mem_of_mem_drop hx)⟩
/-- What stands behind the bytes of a hash: n is how many they are. -/
def tail1 (n : Nat) : List Int := 128 :: List.replicate ((119 - n % 64) % 64) 0
def digL (s : St) : List Int := s.l.flatMap fun x => be4 x.toNat
def sumOf (s : St) (r : List Int) (n : Nat) : List Int := digL (absorb s (r ++ (tail1 n ++ be8 (8 * n)))).1
/-- The digest of bytes. -/
def shaV (l : List Int) : List Int := sumOf init l l.length
theorem sumOf_absorb (l : List Int) : sumOf (absorb init l).1 (absorb init l).2 l.length = shaV l := by
  unfold shaV sumOf
  rw [absorb_append l.length init l _ (Nat.le_refl _)]
theorem digL_length (s : St) : (digL s).length = 32 := rfl
theorem digL_byte (s : St) : ∀ x ∈ digL s, 0 ≤ x ∧ x < 256 := by
  intro x hx
  obtain ⟨y, _, hy⟩ := List.mem_flatMap.1 hx
  simp only [be4, List.mem_cons, List.not_mem_nil, or_false] at hy
  rcases hy with rfl | rfl | rfl | rfl <;> omega
theorem shaV_length (l : List Int) : (shaV l).length = 32 := digL_length _
theorem shaV_byte (l : List Int) : ∀ x ∈ shaV l, 0 ≤ x ∧ x < 256 := digL_byte _
end Go.Proofs.YtpndobhakmjglaaDoor.Sha
