/- The reference's words: numbers of 32 bits as whole numbers. -/
import Derived.Test.YtpndobhakmjglaaDoorPRefCutx1
import Derived.Test.YtpndobhakmjglaaDoorBunS4
namespace Go.Proofs.YtpndobhakmjglaaDoor.Sha
open Go.RowKit Go.Proofs.YtpndobhakmjglaaDoorW.PrintWords Go.Proofs.YtpndobhakmjglaaDoorW.PrintLast Go.Proofs.YtpndobhakmjglaaDoorW.PrintMore Go.Proofs.YtpndobhakmjglaaDoor.K Go.Proofs.YtpndobhakmjglaaDoor.PRefCut
set_option linter.unusedVariables false
theorem w64_in (x : Int) (h0 : -9223372036854775808 ≤ x) (h1 : x < 9223372036854775808) : wrap64 x = x := by
  rw [wrap64]
  omega
theorem rotr_nat (x : W32) (k : Nat) (h1 : 0 < k) (h2 : k < 32) : (rotr x k).toNat = (x.toNat / 2 ^ k + x.toNat * 2 ^ (32 - k)) % 4294967296 := by
  have hx := x.isLt
  have hp : 2 ^ k * 2 ^ (32 - k) = 4294967296 := by rw [← Nat.pow_add, show k + (32 - k) = 32 by omega]
  have hlt : x.toNat / 2 ^ k < 2 ^ (32 - k) := Nat.div_lt_of_lt_mul (by rw [hp]; exact hx)
  have hm : x.toNat * 2 ^ (32 - k) % 4294967296 = (x.toNat % 2 ^ k) * 2 ^ (32 - k) := by rw [← hp, Nat.mul_mod_mul_right]
  have hlt2 : x.toNat % 2 ^ k < 2 ^ k := Nat.mod_lt _ (Nat.two_pow_pos k)
  have hb : (x.toNat % 2 ^ k) * 2 ^ (32 - k) + x.toNat / 2 ^ k < 4294967296 := by
    have h3 : (x.toNat % 2 ^ k + 1) * 2 ^ (32 - k) ≤ 2 ^ k * 2 ^ (32 - k) := Nat.mul_le_mul_right _ hlt2
    rw [hp, Nat.add_mul, Nat.one_mul] at h3
    omega
  unfold rotr
  rw [BitVec.toNat_or, BitVec.toNat_ushiftRight, BitVec.toNat_shiftLeft, Nat.shiftRight_eq_div_pow, Nat.shiftLeft_eq, show (2 : Nat) ^ 32 = 4294967296 from rfl, hm, Nat.or_comm, ← Nat.shiftLeft_eq, ← Nat.shiftLeft_add_eq_or_of_lt hlt, Nat.shiftLeft_eq, Nat.add_mod, hm,
    Nat.mod_eq_of_lt (show x.toNat / 2 ^ k < 4294967296 by omega), Nat.add_comm (x.toNat / 2 ^ k), Nat.mod_eq_of_lt hb]
theorem turned_f (x : W32) (k : Nat) (h1 : 2 ≤ k) (h2 : k < 32) : cupelref01_turned.f (wi x) (k : Int) = some (wi (rotr x k)) := by
  have hx := x.isLt
  have e1 : wrap64 (32 - (k : Int)) = ((32 - k : Nat) : Int) := by rw [w64_in _ (by omega) (by omega)]; omega
  have hle : 2 ^ (32 - k) ≤ 2 ^ 30 := Nat.pow_le_pow_right (by decide) (by omega)
  have hmul : x.toNat * 2 ^ (32 - k) ≤ 4294967296 * 2 ^ 30 := Nat.mul_le_mul (by omega) hle
  have hdv : x.toNat / 2 ^ k ≤ x.toNat := Nat.div_le_self _ _
  have hr := rotr_nat x k (by omega) h2
  have hk : min k IntKind.i64.bits = k := Nat.min_eq_left (by show k ≤ 64; omega)
  have hk2 : min (32 - k) IntKind.i64.bits = 32 - k := Nat.min_eq_left (by show 32 - k ≤ 64; omega)
  have e2 : shr .i64 (wi x) (k : Int) = ((x.toNat / 2 ^ k : Nat) : Int) := by
    unfold wi
    simp [shr, hk]
  have e3 : shl .i64 (wi x) ((32 - k : Nat) : Int) = IntKind.i64.wrap ((x.toNat * 2 ^ (32 - k) : Nat) : Int) := by
    unfold wi
    simp only [shl, Int.toNat_natCast, hk2]
    first
    | (push_cast; rfl)
    | simp
  rw [cupelref01_turned.f, e1, e2, e3]
  generalize x.toNat / 2 ^ k = q at *
  generalize x.toNat * 2 ^ (32 - k) = m at *
  have hm4 : m ≤ 4611686018427387904 := by omega
  have e5 : IntKind.i64.wrap (m : Int) = (m : Int) := by rw [IntKind.wrap_i64]; omega
  rw [e5, if_pos (by omega), if_pos (by omega), w64_in _ (by omega) (by omega)]
  congr 1
  rw [wi, hr, show (4294967296 : Int) = ((4294967296 : Nat) : Int) from rfl, ← Int.natCast_add, ← Int.ofNat_tmod]
theorem i64_xor (x y : W32) : Go.bits .xor .i64 (wi x) (wi y) = wi (x ^^^ y) := by
  have h1 := x.isLt
  have h2 := y.isLt
  have h3 := (x ^^^ y).isLt
  rw [BitVec.toNat_xor] at h3
  show IntKind.i64.wrap ((BitVec.ofInt 64 (wi x) ^^^ BitVec.ofInt 64 (wi y)).toNat : Int) = _
  have e : ∀ z : W32, (BitVec.ofInt 64 (wi z)).toNat = z.toNat := fun z => by
    have := z.isLt
    unfold wi
    rw [BitVec.toNat_ofInt]
    omega
  rw [BitVec.toNat_xor, e, e, IntKind.wrap_i64, wi, BitVec.toNat_xor]
  omega
theorem i64_and (x y : W32) : Go.bits .and .i64 (wi x) (wi y) = wi (x &&& y) := by
  have h1 := x.isLt
  have h2 := y.isLt
  have h3 := (x &&& y).isLt
  rw [BitVec.toNat_and] at h3
  show IntKind.i64.wrap ((BitVec.ofInt 64 (wi x) &&& BitVec.ofInt 64 (wi y)).toNat : Int) = _
  have e : ∀ z : W32, (BitVec.ofInt 64 (wi z)).toNat = z.toNat := fun z => by
    have := z.isLt
    unfold wi
    rw [BitVec.toNat_ofInt]
    omega
  rw [BitVec.toNat_and, e, e, IntKind.wrap_i64, wi, BitVec.toNat_and]
  omega
theorem wi_not (x : W32) : 4294967295 - wi x = wi (~~~x) := by
  have := x.isLt
  unfold wi
  rw [BitVec.toNat_not]
  omega
theorem wi_add (x y : W32) : wi (x + y) = (wi x + wi y) % 4294967296 := by
  unfold wi
  rw [BitVec.toNat_add]
  omega
theorem ch_eq (e f g : W32) : (e &&& f) ^^^ (~~~e &&& g) = g ^^^ e &&& (f ^^^ g) := by
  apply BitVec.eq_of_getLsbD_eq
  intro i hi
  simp only [BitVec.getLsbD_xor, BitVec.getLsbD_and, BitVec.getLsbD_not, hi, decide_true, Bool.true_and]
  cases e.getLsbD i <;> cases f.getLsbD i <;> cases g.getLsbD i <;> rfl
theorem maj_eq (a b c : W32) : (a &&& b) ^^^ (a &&& c) ^^^ (b &&& c) = a &&& b ||| c &&& (a ||| b) := by
  apply BitVec.eq_of_getLsbD_eq
  intro i hi
  simp only [BitVec.getLsbD_xor, BitVec.getLsbD_and, BitVec.getLsbD_or]
  cases a.getLsbD i <;> cases b.getLsbD i <;> cases c.getLsbD i <;> rfl
end Go.Proofs.YtpndobhakmjglaaDoor.Sha
