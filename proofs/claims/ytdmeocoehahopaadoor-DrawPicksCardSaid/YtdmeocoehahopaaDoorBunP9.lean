/- Texts put together: NumP, RefPure, RefThree, RefBlock. -/
import Derived.Test.YtdmeocoehahopaaDoorPPicks
import Derived.Test.YtdmeocoehahopaaDoorBunP8
import Derived.Great.BuildSlice
import Derived.Deep.WholeRow
set_option linter.unusedVariables false
set_option linter.unusedSimpArgs false
namespace Go.Proofs.YtdmeocoehahopaaDoor.Num
open Go.RowKit Go.Proofs.YtdmeocoehahopaaDoorW.PrintWords Go.Proofs.YtdmeocoehahopaaDoorW.PrintLast Go.Proofs.YtdmeocoehahopaaDoorW.PrintMore Go.Proofs.YtdmeocoehahopaaDoor.K Go.Proofs.YtdmeocoehahopaaDoor.PDrawNumbers
def I64 (x : Int) : Prop := -9223372036854775808 ≤ x ∧ x < 9223372036854775808
theorem w64 (x : Int) (h : I64 x) : wrap64 x = x := by
  have h0 := h.1; have h1 := h.2; rw [wrap64]
  first
  | (rw [IntKind.wrap_i64]; omega)
  | omega
theorem num_step (k : Nat) (x : Int) (xs : List Int) (j : Nat) (h : I64 x) (hj : j < xs.length) (hs : xs.length ≤ 8) :
    cupelref02_Number.l0 (k + 1) x xs (j : Int) = cupelref02_Number.l0 k (x / 256) (xs.set j (x % 256)) ((j : Int) - 1) := by
  have h0 := h.1; have h1 := h.2; have hr := Int.tmod_def x 256
  have hd : Int.tdiv x 256 = if 0 ≤ x ∨ x % 256 = 0 then x / 256 else x / 256 + 1 := by
    rw [Int.tdiv_eq_ediv]
    have : (256 : Int) ∣ x ↔ x % 256 = 0 := by omega
    simp only [this]; have hs : Int.sign 256 = 1 := rfl
    split <;> simp [hs]
  have hj0 : (0 : Int) ≤ (j : Int) := by omega
  have hj1 : (j : Int) < (xs.length : Int) := by omega
  have hw : wrap64 ((j : Int) - 1) = (j : Int) - 1 := w64 _ ⟨by omega, by omega⟩; rw [cupelref02_Number.l0, if_pos hj0]
  by_cases hx : 0 ≤ x ∨ x % 256 = 0
  · rw [if_pos hx] at hd
    have e1 : Int.tmod x 256 = x % 256 := by rw [hr, hd]; omega
    rw [e1, if_neg (by omega), if_pos hj0, if_pos hj1, hd, hw, w64 (x / 256) ⟨by omega, by omega⟩, Int.emod_emod_of_dvd _ (Int.dvd_refl 256), Int.toNat_natCast]
  · rw [if_neg hx] at hd
    have e1 : Int.tmod x 256 = x % 256 - 256 := by rw [hr, hd]; omega
    rw [e1, if_pos (by omega), if_pos hj0, if_pos hj1, hd, hw, w64 (x / 256 + 1) ⟨by omega, by omega⟩, w64 (x / 256 + 1 - 1) ⟨by omega, by omega⟩, w64 (x % 256 - 256 + 256) ⟨by omega, by omega⟩, Int.toNat_natCast]
    congr 2 <;> omega
theorem num_eight (k : Nat) (x : Int) (h : I64 x) : cupelref02_Number.f (k + 9) x = some (be8 x) := by
  have h0 := h.1; have h1 := h.2; have hd : ∀ y : Int, I64 y → I64 (y / 256) := fun y hy => ⟨by have := hy.1; omega, by have := hy.2; omega⟩; have hs := hd; rw [cupelref02_Number.f, if_pos (by decide)]; have q7 := num_step (k + 8) x (List.replicate 8 0) 7 h (by decide) (by decide); have a1 := hd _ h; have q6 := num_step (k + 7) _ ((List.replicate 8 0).set 7 (x % 256)) 6 a1 (by simp) (by simp); have a2 := hd _ a1; have q5 := num_step (k + 6) _ (((List.replicate 8 0).set 7 (x % 256)).set 6 (x / 256 % 256)) 5 a2 (by simp) (by simp); have a3 := hd _ a2; have q4 := num_step (k + 5) _ ((((List.replicate 8 0).set 7 (x % 256)).set 6 (x / 256 % 256)).set 5 (x / 256 / 256 % 256)) 4 a3 (by simp) (by simp); have a4 := hd _ a3; have q3 := num_step (k + 4) _ (((((List.replicate 8 0).set 7 (x % 256)).set 6 (x / 256 % 256)).set 5 (x / 256 / 256 % 256)).set 4 (x / 256 / 256 / 256 % 256)) 3 a4 (by simp) (by simp); have a5 := hd _ a4; have q2 := num_step (k + 3) _ ((((((List.replicate 8 0).set 7 (x % 256)).set 6 (x / 256 % 256)).set 5 (x / 256 / 256 % 256)).set 4 (x / 256 / 256 / 256 % 256)).set 3 (x / 256 / 256 / 256 / 256 % 256)) 2 a5 (by simp) (by simp); have a6 := hd _ a5; have q1 := num_step (k + 2) _ (((((((List.replicate 8 0).set 7 (x % 256)).set 6 (x / 256 % 256)).set 5 (x / 256 / 256 % 256)).set 4 (x / 256 / 256 / 256 % 256)).set 3 (x / 256 / 256 / 256 / 256 % 256)).set 2 (x / 256 / 256 / 256 / 256 / 256 % 256)) 1 a6 (by simp) (by simp); have a7 := hd _ a6; have q0 := num_step (k + 1) _ ((((((((List.replicate 8 0).set 7 (x % 256)).set 6 (x / 256 % 256)).set 5 (x / 256 / 256 % 256)).set 4 (x / 256 / 256 / 256 % 256)).set 3 (x / 256 / 256 / 256 / 256 % 256)).set 2 (x / 256 / 256 / 256 / 256 / 256 % 256)).set 1 (x / 256 / 256 / 256 / 256 / 256 / 256 % 256)) 0 a7 (by simp) (by simp); have e7 : ((7 : Nat) : Int) = 7 := rfl; have e6 : ((7 : Nat) : Int) - 1 = ((6 : Nat) : Int) := rfl; have e5 : ((6 : Nat) : Int) - 1 = ((5 : Nat) : Int) := rfl; have e4 : ((5 : Nat) : Int) - 1 = ((4 : Nat) : Int) := rfl; have e3 : ((4 : Nat) : Int) - 1 = ((3 : Nat) : Int) := rfl; have e2 : ((3 : Nat) : Int) - 1 = ((2 : Nat) : Int) := rfl; have e1 : ((2 : Nat) : Int) - 1 = ((1 : Nat) : Int) := rfl; have e0 : ((1 : Nat) : Int) - 1 = ((0 : Nat) : Int) := rfl; rw [← e7, q7, e6, q6, e5, q5, e4, q4, e3, q3, e2, q2, e1, q1, e0, q0, cupelref02_Number.l0, if_neg (by decide)]
  have c2 : x / 256 / 256 = x / 65536 := by omega
  have c3 : x / 256 / 256 / 256 = x / 16777216 := by omega
  have c4 : x / 256 / 256 / 256 / 256 = x / 4294967296 := by omega
  have c5 : x / 256 / 256 / 256 / 256 / 256 = x / 1099511627776 := by omega
  have c6 : x / 256 / 256 / 256 / 256 / 256 / 256 = x / 281474976710656 := by omega
  have c7 : x / 256 / 256 / 256 / 256 / 256 / 256 / 256 = x / 72057594037927936 := by omega
  rw [c7, c6, c5, c4, c3, c2]
  rfl
theorem nums_f (l : List Int) (hl : ∀ x ∈ l, I64 x) (hb : l.length * 8 ≤ 1000000) : ∀ d i, i + d = l.length → cupelref02_Numbers.l0 (d + 10) l (numsL (l.take i)) (i : Int) = some (numsL l)
  | 0, i, h => by
    rw [cupelref02_Numbers.l0, if_neg (by omega), List.take_of_length_le (by omega)]
  | d + 1, i, h => by
    have hi : i < l.length := by omega
    rw [show d + 1 + 10 = (d + 10) + 1 by omega, cupelref02_Numbers.l0, if_pos (by omega), if_pos (by omega), show d + 10 = (d + 1) + 9 by omega]
    have hx : I64 (rd l (i : Int)) := by
      rw [rd, Int.toNat_natCast, List.getD, List.getElem?_eq_getElem hi]; exact hl _ (List.getElem_mem hi)
    rw [num_eight _ _ hx, Option.bind_some]; have hlen := numsL_len (l.take i); rw [List.length_take] at hlen; rw [if_pos (by simp only [be8, List.length_cons, List.length_nil]; omega), w64 _ ⟨by omega, by omega⟩]; have hs := numsL_snoc l i hi; rw [rd, Int.toNat_natCast, ← hs, show (d + 1) + 9 = d + 10 by omega]; exact nums_f l hl hb d (i + 1) (by omega)
theorem numbers_f (l : List Int) (hl : ∀ x ∈ l, I64 x) (hb : l.length * 8 ≤ 1000000) : cupelref02_Numbers.f (l.length + 10) l = some (numsL l) := nums_f l hl hb l.length 0 (by omega)
end Go.Proofs.YtdmeocoehahopaaDoor.Num
namespace Go.Proofs.YtdmeocoehahopaaDoor.Sha
open Go.RowKit Go.Proofs.YtdmeocoehahopaaDoorW.PrintWords Go.Proofs.YtdmeocoehahopaaDoorW.PrintLast Go.Proofs.YtdmeocoehahopaaDoorW.PrintMore Go.Proofs.YtdmeocoehahopaaDoor.K Go.Proofs.YtdmeocoehahopaaDoor.PDrawNumbers
theorem w64_in (x : Int) (h0 : -9223372036854775808 ≤ x) (h1 : x < 9223372036854775808) : wrap64 x = x := by
  rw [wrap64]
  omega
theorem rotr_nat (x : W32) (k : Nat) (h1 : 0 < k) (h2 : k < 32) : (rotr x k).toNat = (x.toNat / 2 ^ k + x.toNat * 2 ^ (32 - k)) % 4294967296 := by
  have hx := x.isLt
  have hp : 2 ^ k * 2 ^ (32 - k) = 4294967296 := by rw [← Nat.pow_add, show k + (32 - k) = 32 by omega]
  have hlt : x.toNat / 2 ^ k < 2 ^ (32 - k) := Nat.div_lt_of_lt_mul (by rw [hp]; exact hx)
  have hm : x.toNat * 2 ^ (32 - k) % 4294967296 = (x.toNat % 2 ^ k) * 2 ^ (32 - k) := by rw [← hp, Nat.mul_mod_mul_right]
  have hlt2 : x.toNat % 2 ^ k < 2 ^ k := Nat.mod_lt _ (Nat.two_pow_pos k)
  have hb : (x.toNat % 2 ^ k) * 2 ^ (32 - k) + x.toNat / 2 ^ k < 4294967296 := by
    have h3 : (x.toNat % 2 ^ k + 1) * 2 ^ (32 - k) ≤ 2 ^ k * 2 ^ (32 - k) := Nat.mul_le_mul_right _ hlt2; rw [hp, Nat.add_mul, Nat.one_mul] at h3
    omega
  unfold rotr
  rw [BitVec.toNat_or, BitVec.toNat_ushiftRight, BitVec.toNat_shiftLeft, Nat.shiftRight_eq_div_pow, Nat.shiftLeft_eq, show (2 : Nat) ^ 32 = 4294967296 from rfl, hm, Nat.or_comm, ← Nat.shiftLeft_eq, ← Nat.shiftLeft_add_eq_or_of_lt hlt, Nat.shiftLeft_eq, Nat.add_mod, hm,
    Nat.mod_eq_of_lt (show x.toNat / 2 ^ k < 4294967296 by omega), Nat.add_comm (x.toNat / 2 ^ k), Nat.mod_eq_of_lt hb]
theorem turned_f (x : W32) (k : Nat) (h1 : 2 ≤ k) (h2 : k < 32) : cupelref01_turned.f (wi x) (k : Int) = some (wi (rotr x k)) := by
  have hx := x.isLt
  have e1 : wrap64 (32 - (k : Int)) = ((32 - k : Nat) : Int) := by rw [w64_in _ (by omega) (by omega)]; omega
  have hle : 2 ^ (32 - k) ≤ 2 ^ 30 := Nat.pow_le_pow_right (by decide) (by omega); have hmul : x.toNat * 2 ^ (32 - k) ≤ 4294967296 * 2 ^ 30 := Nat.mul_le_mul (by omega) hle; have hdv : x.toNat / 2 ^ k ≤ x.toNat := Nat.div_le_self _ _; have hr := rotr_nat x k (by omega) h2; have hk : min k IntKind.i64.bits = k := Nat.min_eq_left (by show k ≤ 64; omega); have hk2 : min (32 - k) IntKind.i64.bits = 32 - k := Nat.min_eq_left (by show 32 - k ≤ 64; omega)
  have e2 : shr .i64 (wi x) (k : Int) = ((x.toNat / 2 ^ k : Nat) : Int) := by
    unfold wi
    simp [shr, hk]
  have e3 : shl .i64 (wi x) ((32 - k : Nat) : Int) = IntKind.i64.wrap ((x.toNat * 2 ^ (32 - k) : Nat) : Int) := by
    unfold wi; simp only [shl, Int.toNat_natCast, hk2]
    first
    | (push_cast; rfl)
    | simp
  rw [cupelref01_turned.f, e1, e2, e3]; generalize x.toNat / 2 ^ k = q at *; generalize x.toNat * 2 ^ (32 - k) = m at *
  have hm4 : m ≤ 4611686018427387904 := by omega
  have e5 : IntKind.i64.wrap (m : Int) = (m : Int) := by rw [IntKind.wrap_i64]; omega
  rw [e5, if_pos (by omega), if_pos (by omega), w64_in _ (by omega) (by omega)]
  congr 1
  rw [wi, hr, show (4294967296 : Int) = ((4294967296 : Nat) : Int) from rfl, ← Int.natCast_add, ← Int.ofNat_tmod]
theorem i64_xor (x y : W32) : Go.bits .xor .i64 (wi x) (wi y) = wi (x ^^^ y) := by
  have h1 := x.isLt; have h2 := y.isLt; have h3 := (x ^^^ y).isLt; rw [BitVec.toNat_xor] at h3
  show IntKind.i64.wrap ((BitVec.ofInt 64 (wi x) ^^^ BitVec.ofInt 64 (wi y)).toNat : Int) = _
  have e : ∀ z : W32, (BitVec.ofInt 64 (wi z)).toNat = z.toNat := fun z => by
    have := z.isLt; unfold wi; rw [BitVec.toNat_ofInt]
    omega
  rw [BitVec.toNat_xor, e, e, IntKind.wrap_i64, wi, BitVec.toNat_xor]
  omega
theorem i64_and (x y : W32) : Go.bits .and .i64 (wi x) (wi y) = wi (x &&& y) := by
  have h1 := x.isLt; have h2 := y.isLt; have h3 := (x &&& y).isLt; rw [BitVec.toNat_and] at h3
  show IntKind.i64.wrap ((BitVec.ofInt 64 (wi x) &&& BitVec.ofInt 64 (wi y)).toNat : Int) = _
  have e : ∀ z : W32, (BitVec.ofInt 64 (wi z)).toNat = z.toNat := fun z => by
    have := z.isLt; unfold wi; rw [BitVec.toNat_ofInt]
    omega
  rw [BitVec.toNat_and, e, e, IntKind.wrap_i64, wi, BitVec.toNat_and]
  omega
theorem wi_not (x : W32) : 4294967295 - wi x = wi (~~~x) := by
  have := x.isLt; unfold wi; rw [BitVec.toNat_not]
  omega
theorem wi_add (x y : W32) : wi (x + y) = (wi x + wi y) % 4294967296 := by
  unfold wi; rw [BitVec.toNat_add]
  omega
theorem ch_eq (e f g : W32) : (e &&& f) ^^^ (~~~e &&& g) = g ^^^ e &&& (f ^^^ g) := by
  apply BitVec.eq_of_getLsbD_eq
  intro i hi; simp only [BitVec.getLsbD_xor, BitVec.getLsbD_and, BitVec.getLsbD_not, hi, decide_true, Bool.true_and]
  cases e.getLsbD i <;> cases f.getLsbD i <;> cases g.getLsbD i <;> rfl
theorem maj_eq (a b c : W32) : (a &&& b) ^^^ (a &&& c) ^^^ (b &&& c) = a &&& b ||| c &&& (a ||| b) := by
  apply BitVec.eq_of_getLsbD_eq
  intro i hi; simp only [BitVec.getLsbD_xor, BitVec.getLsbD_and, BitVec.getLsbD_or]
  cases a.getLsbD i <;> cases b.getLsbD i <;> cases c.getLsbD i <;> rfl
end Go.Proofs.YtdmeocoehahopaaDoor.Sha
namespace Go.Proofs.YtdmeocoehahopaaDoor.Sha
open Go.RowKit Go.Proofs.YtdmeocoehahopaaDoorW.PrintWords Go.Proofs.YtdmeocoehahopaaDoorW.PrintLast Go.Proofs.YtdmeocoehahopaaDoorW.PrintMore Go.Proofs.YtdmeocoehahopaaDoor.K Go.Proofs.YtdmeocoehahopaaDoor.PDrawNumbers
theorem turned_q (x : W32) (k : Int) (w : World) (n : Nat) (h1 : 2 ≤ k) (h2 : k < 32) :
    Calls Tryd.prog 65 #[.int .i64 (wi x), .int .i64 k] (w.drewN n) fun e w' => e = .returned (.int .i64 (wi (rotr x k.toNat))) ∧ ∃ m, w' = w.drewN m := by
  obtain ⟨j, rfl⟩ := Int.eq_ofNat_of_zero_le (show 0 ≤ k by omega); refine (cupelref01_turned.calls (wi x) (j : Int) _ _ (turned_f x j (by omega) (by omega))).mono ?_; rintro e w' ⟨he, m, hm⟩; exact ⟨he, n + m, by rw [hm, World.drewN_drewN]⟩
theorem turned_p (x : W32) (k : Int) (w : World) (h1 : 2 ≤ k) (h2 : k < 32) :
    Calls Tryd.prog 65 #[.int .i64 (wi x), .int .i64 k] w fun e w' => e = .returned (.int .i64 (wi (rotr x k.toNat))) ∧ Drawn0 w w' := by
  obtain ⟨j, rfl⟩ := Int.eq_ofNat_of_zero_le (show 0 ≤ k by omega); exact cupelref01_turned.calls (wi x) (j : Int) _ _ (turned_f x j (by omega) (by omega))
def threeV (x : W32) (k0 k1 k2 : Nat) (down : Bool) : W32 := rotr x k0 ^^^ rotr x k1 ^^^ if down then x >>> k2 else rotr x k2
set_option maxHeartbeats 1000000 in
theorem three_calls (x : W32) (k0 k1 k2 : Nat) (down : Bool) (w : World) (h0 : 2 ≤ k0 ∧ k0 < 32) (h1 : 2 ≤ k1 ∧ k1 < 32) (h2 : 2 ≤ k2 ∧ k2 < 32) :
    Calls Tryd.prog 55 #[.int .i64 (wi x), .agg #[.int .i64 (k0 : Int), .int .i64 (k1 : Int), .int .i64 (k2 : Int)], .bool down] w fun e w' => e = .returned (.int .i64 (wi (threeV x k0 k1 k2 down))) ∧ Below w.heap.size w w' := by
  obtain ⟨a0, b0⟩ := h0; obtain ⟨a1, b1⟩ := h1; obtain ⟨a2, b2⟩ := h2
  have c0 : (2 : Int) ≤ k0 := by omega
  have c1 : (2 : Int) ≤ k1 := by omega
  have c2 : (2 : Int) ≤ k2 := by omega
  have d0 : (k0 : Int) < 32 := by omega
  have d1 : (k1 : Int) < 32 := by omega
  have d2 : (k2 : Int) < 32 := by omega
  have hsh : wi x / 2 ^ k2 = wi (x >>> k2) := u32_shr x k2; have hk : min k2 IntKind.i64.bits = k2 := Nat.min_eq_left (by show k2 ≤ 64; omega); have HB : Aside0 (Below w.heap.size w (w.alloc (.cells #[.int .i64 (k0 : Int), .int .i64 (k1 : Int), .int .i64 (k2 : Int)] 92))) := ⟨bel_alloc (Below.refl _ _) _⟩; have HT : Aside0 (∀ d, threeV x k0 k1 k2 d = rotr x k0 ^^^ rotr x k1 ^^^ if d then x >>> k2 else rotr x k2) := ⟨fun _ => rfl⟩
  go_enter Tryd.func55, Tryd.ntmps55
  go_wp2_with (fail); refine (turned_p x (k2 : Int) _ c2 d2).mono ?_; rintro e w1 ⟨rfl, hd⟩; rw [Int.toNat_natCast]; have HB1 : Aside0 (Below w.heap.size w w1) := ⟨below_step HB.out hd.below⟩
  have g0 : w1.cell? ⟨w.heap.size, 0, none⟩ = some (.int .i64 (k0 : Int)) := by rw [drawn_cell hd, World.cell?, heap_alloc_new]; rfl
  have g1 : w1.cell? ⟨w.heap.size, 1, none⟩ = some (.int .i64 (k1 : Int)) := by rw [drawn_cell hd, World.cell?, heap_alloc_new]; rfl
  have g2 : w1.cell? ⟨w.heap.size, 2, none⟩ = some (.int .i64 (k2 : Int)) := by rw [drawn_cell hd, World.cell?, heap_alloc_new]; rfl
  clear hd; have ax : ∀ p q : W32, Go.bits .xor .i64 (wi p) (wi q) = wi (p ^^^ q) := i64_xor
  cases down with
  | true =>
    go_wp2
    go_quiet ((go_at_call 65; exact turned_q _ _ _ _ (by assumption) (by assumption)))
    rw [Int.toNat_natCast, Int.toNat_natCast]; go_wp2; go_ret; exact ⟨by rw [HT.out]; rfl, pw_below_drewN HB1.out _⟩
  | false =>
    go_wp2
    go_quiet ((go_at_call 65; exact turned_q _ _ _ _ (by assumption) (by assumption)))
    rw [Int.toNat_natCast, Int.toNat_natCast]; go_wp2; go_ret; exact ⟨by rw [HT.out]; rfl, pw_below_drewN HB1.out _⟩
def nArr (l : List W32) : Array Value := (nums .i64 (l.map wi)).toArray
theorem nArr_one (l : List W32) : (nArr l).all (·.oneCell') = true := by
  rw [Array.all_eq_true_iff_forall_mem]; intro v hv; simp only [nArr, nums, List.mem_toArray, List.mem_map] at hv; obtain ⟨x, _, rfl⟩ := hv
  rfl
theorem nArr_size (l : List W32) : (nArr l).size = l.length := by simp [nArr, nums]
theorem z64_lit : (#[.int .i64 0, .int .i64 0, .int .i64 0, .int .i64 0, .int .i64 0, .int .i64 0, .int .i64 0, .int .i64 0, .int .i64 0, .int .i64 0, .int .i64 0, .int .i64 0, .int .i64 0, .int .i64 0, .int .i64 0, .int .i64 0, .int .i64 0, .int .i64 0, .int .i64 0, .int .i64 0, .int .i64 0, .int .i64 0, .int .i64 0, .int .i64 0, .int .i64 0, .int .i64 0, .int .i64 0, .int .i64 0, .int .i64 0, .int .i64 0, .int .i64 0, .int .i64 0, .int .i64 0, .int .i64 0, .int .i64 0, .int .i64 0, .int .i64 0, .int .i64 0, .int .i64 0, .int .i64 0, .int .i64 0, .int .i64 0, .int .i64 0, .int .i64 0, .int .i64 0, .int .i64 0, .int .i64 0, .int .i64 0, .int .i64 0, .int .i64 0, .int .i64 0, .int .i64 0, .int .i64 0, .int .i64 0, .int .i64 0, .int .i64 0, .int .i64 0, .int .i64 0, .int .i64 0, .int .i64 0, .int .i64 0, .int .i64 0, .int .i64 0, .int .i64 0] : Array Value) = nArr (List.replicate 64 0) := by kernel_rfl
theorem kA_info : (Tryd.prog.info? 90).map (·.size) = some (nArr kL).size := by rw [nArr_size]; kernel_rfl
set_option maxRecDepth 100000 in
set_option maxHeartbeats 1000000 in
theorem constants_calls (w : World) :
    Calls Tryd.prog 56 #[] w fun e w' => e = .returned (.agg (nArr kL)) ∧ Below w.heap.size w w' := by
  have HK1 := Aside0.mk kA_info; have HK2 := Aside0.mk (nArr_one kL); have HK3 : Aside0 ((nArr (List.replicate 64 0)).size = (nArr kL).size) := ⟨by rw [nArr_size, nArr_size]; rfl⟩
  go_enter Tryd.func56, Tryd.ntmps56
  go_wp2_with (first
    | (refine wpList_buildTo rfl 90 _ rfl (some 1) rfl (nArr kL) (by kernel_rfl) ?_; simp only [Act.put, List.setIfInBounds_toArray, List.set_cons_zero, List.set_cons_succ])
    | (rw [z64_lit]; with_reducible refine wpList_store_rowTo rfl 90 (.tmp 0) (.tmp 1) rfl rfl w.heap.size (nArr kL) rfl rfl 90 (nArr (List.replicate 64 0)) (heap_alloc_new _ _) HK1.out HK3.out HK2.out ?_; rw [World.setRow_alloc_new]; have HB : Aside0 (Below w.heap.size w (w.alloc (.cells (nArr kL) 90))) := ⟨bel_alloc (Below.refl _ _) _⟩; have HR : Aside0 ((w.alloc (.cells (nArr kL) 90)).heap[w.heap.size]? = some (.cells (nArr kL) 90 (0, 0))) := ⟨heap_alloc_new _ _⟩; generalize w.alloc (.cells (nArr kL) 90) = w1 at *))
  exact bodyPost_ret (results_cell_row Tryd.results56 _ _ w.heap.size 90 (nArr kL) (0, 0) _ rfl HR.out Tryd.underlying90 rfl HK1.out) rfl ⟨rfl, HB.out⟩
end Go.Proofs.YtdmeocoehahopaaDoor.Sha
namespace Go.Proofs.YtdmeocoehahopaaDoor.Sha
open Go.RowKit Go.Proofs.YtdmeocoehahopaaDoorW.PrintWords Go.Proofs.YtdmeocoehahopaaDoorW.PrintLast Go.Proofs.YtdmeocoehahopaaDoorW.PrintMore Go.Proofs.YtdmeocoehahopaaDoor.K Go.Proofs.YtdmeocoehahopaaDoor.PDrawNumbers
theorem i64_small (x : Int) (h0 : 0 ≤ x) (h1 : x < 9223372036854775808) : IntKind.i64.wrap x = x := by rw [IntKind.wrap_i64]; omega
theorem nArr_get (l : List W32) (i : Nat) (h : i < l.length) : (nArr l)[i]? = some (.int .i64 (wi (l.getD i 0))) := by
  simp [nArr, nums, List.getElem?_eq_getElem h, List.getD_eq_getElem?_getD]
theorem nArr_set (l : List W32) (i : Nat) (x : W32) : (nArr l).setIfInBounds i (.int .i64 (wi x)) = nArr (l.set i x) := by
  apply Array.ext'
  simp [nArr, nums, List.map_set]
def BlkW (w : World) (a : Array Value) (l : List W32) (wr : World) : Prop :=
  wr.heap[w.heap.size]? = some (.cells a 72 (0, 0)) ∧ wr.heap[w.heap.size + 1]? = some (.cells (nArr (List.replicate 8 0)) 72 (0, 0)) ∧ wr.heap[w.heap.size + 1 + 1]? = some (.cells (nArr l) 90 (0, 0)) ∧ Below w.heap.size w wr
theorem BlkW.start (w : World) (a b l : Array Value) (t1 t2 t3 : Nat) (L : List W32) (hb : b = nArr (List.replicate 8 0)) (hl : l = nArr L) (h1 : t1 = 72) (h2 : t2 = 72) (h3 : t3 = 90) : BlkW w a L (((w.alloc (.cells a t1)).alloc (.cells b t2)).alloc (.cells l t3)) := by
  unfold BlkW; rw [← hb, ← hl, ← h2, ← h3]; obtain ⟨e1, e2, e3⟩ := alloc3 w (.cells a t1) (.cells b t2) (.cells l t3); rw [h1] at e1 e2 e3 ⊢; exact ⟨by rw [e1, h2], e2, e3, bel_alloc (bel_alloc (bel_alloc (Below.refl _ _) _) _) _⟩
theorem BlkW.below {w w1 w2 : World} {a : Array Value} {l : List W32} (h : BlkW w a l w1) (hb : Below w1.heap.size w1 w2) : BlkW w a l w2 :=
  ⟨(hb.block _ (blk_lt h.1)).trans h.1, (hb.block _ (blk_lt h.2.1)).trans h.2.1, (hb.block _ (blk_lt h.2.2.1)).trans h.2.2.1, below_step h.2.2.2 hb⟩
theorem BlkW.set {w w1 : World} {a : Array Value} {l : List W32} (h : BlkW w a l w1) (i : Nat) (x : W32) : BlkW w a (l.set i x) (w1.setCell ⟨w.heap.size + 1 + 1, i, none⟩ (.int .i64 (wi x))) :=
  ⟨blk_far h.1 (by show w.heap.size ≠ w.heap.size + 1 + 1; omega) _, blk_far h.2.1 (by show w.heap.size + 1 ≠ w.heap.size + 1 + 1; omega) _, by rw [← nArr_set]; exact blk_set h.2.2.1 i _, h.2.2.2.setCell (by simp; omega) _⟩
theorem BlkW.cell {w w1 : World} {a : Array Value} {l : List W32} (h : BlkW w a l w1) (i : Nat) (hi : i < l.length) : w1.cell? ⟨w.heap.size + 1 + 1, i, none⟩ = some (.int .i64 (wi (l.getD i 0))) :=
  (blk_cell h.2.2.1 i).trans (nArr_get l i hi)
theorem BlkW.froz {w w1 : World} {a : Array Value} {l : List W32} (h : BlkW w a l w1) (i : Nat) : w1.frozen? ⟨w.heap.size + 1 + 1, i, none⟩ = false := blk_frozen h.2.2.1 i
theorem blkN_set {w : World} {g t : Nat} {m : List W32} (h : w.heap[g]? = some (.cells (nArr m) t (0, 0))) (i : Nat) (x : W32) : (w.setCell ⟨g, i, none⟩ (.int .i64 (wi x))).heap[g]? = some (.cells (nArr (m.set i x)) t (0, 0)) := by
  rw [← nArr_set]; exact blk_set h i _
theorem blkN_set8 {w : World} {g t : Nat} {m : List W32} (h : w.heap[g]? = some (.cells (nArr m) t (0, 0))) (hm : m.length = 8) (s : St) :
    ((((((((w.setCell ⟨g, 0, none⟩ (.int .i64 (wi s.a))).setCell ⟨g, 1, none⟩ (.int .i64 (wi s.b))).setCell ⟨g, 2, none⟩ (.int .i64 (wi s.c))).setCell ⟨g, 3, none⟩ (.int .i64 (wi s.d))).setCell ⟨g, 4, none⟩ (.int .i64 (wi s.e))).setCell ⟨g, 5, none⟩ (.int .i64 (wi s.f))).setCell ⟨g, 6, none⟩ (.int .i64 (wi s.g))).setCell ⟨g, 7, none⟩ (.int .i64 (wi s.h))).heap[g]? = some (.cells (nArr s.l) t (0, 0)) := by
  have h8 := blkN_set (blkN_set (blkN_set (blkN_set (blkN_set (blkN_set (blkN_set (blkN_set h 0 s.a) 1 s.b) 2 s.c) 3 s.d) 4 s.e) 5 s.f) 6 s.g) 7 s.h; rw [set8_list m hm s] at h8; exact h8
theorem BlkW.other {w w1 : World} {a : Array Value} {l : List W32} (h : BlkW w a l w1) (n i : Nat) (hn : w.heap.size + 1 + 1 < n) (v : Value) : BlkW w a l (w1.setCell ⟨n, i, none⟩ v) :=
  ⟨blk_far h.1 (by show w.heap.size ≠ n; omega) _, blk_far h.2.1 (by show w.heap.size + 1 ≠ n; omega) _, blk_far h.2.2.1 (by show w.heap.size + 1 + 1 ≠ n; omega) _, h.2.2.2.setCell (by show w.heap.size ≤ n; omega) _⟩
/-- The second part: the state that is turned, in a block of its own; the constants in another one. -/
def BlkL (w : World) (a : Array Value) (wl : List W32) (nk n : Nat) (l : List W32) (wr : World) : Prop :=
  BlkW w a wl wr ∧ wr.heap[nk]? = some (.cells (nArr kL) 90 (0, 0)) ∧ wr.heap[n]? = some (.cells (nArr l) 72 (0, 0)) ∧ w.heap.size + 1 + 1 < nk ∧ nk < n
theorem BlkL.below {w w1 w2 : World} {a : Array Value} {l m : List W32} {nk n : Nat} (h : BlkL w a l nk n m w1) (hb : Below w1.heap.size w1 w2) : BlkL w a l nk n m w2 :=
  ⟨h.1.below hb, (hb.block _ (blk_lt h.2.1)).trans h.2.1, (hb.block _ (blk_lt h.2.2.1)).trans h.2.2.1, h.2.2.2⟩
theorem BlkL.set {w w1 : World} {a : Array Value} {l m : List W32} {nk n : Nat} (h : BlkL w a l nk n m w1) (i : Nat) (x : W32) : BlkL w a l nk n (m.set i x) (w1.setCell ⟨n, i, none⟩ (.int .i64 (wi x))) :=
  ⟨h.1.other n i (Nat.lt_trans h.2.2.2.1 h.2.2.2.2) _, blk_far h.2.1 (by show nk ≠ n; have := h.2.2.2.2; omega) _, by rw [← nArr_set]; exact blk_set h.2.2.1 i _, h.2.2.2⟩
theorem BlkL.set8 {w w1 : World} {a : Array Value} {l m : List W32} {nk n : Nat} (h : BlkL w a l nk n m w1) (hm : m.length = 8) (t : St) :
    BlkL w a l nk n t.l ((((((((w1.setCell ⟨n, 0, none⟩ (.int .i64 (wi t.a))).setCell ⟨n, 1, none⟩ (.int .i64 (wi t.b))).setCell ⟨n, 2, none⟩ (.int .i64 (wi t.c))).setCell ⟨n, 3, none⟩ (.int .i64 (wi t.d))).setCell ⟨n, 4, none⟩ (.int .i64 (wi t.e))).setCell ⟨n, 5, none⟩ (.int .i64 (wi t.f))).setCell ⟨n, 6, none⟩ (.int .i64 (wi t.g))).setCell ⟨n, 7, none⟩ (.int .i64 (wi t.h))) := by
  have h8 := (((((((h.set 0 t.a).set 1 t.b).set 2 t.c).set 3 t.d).set 4 t.e).set 5 t.f).set 6 t.g).set 7 t.h; rw [set8_list m hm t] at h8; exact h8
theorem BlkL.out8 {w w1 : World} {a : Array Value} {l m : List W32} {nk n : Nat} (h : BlkL w a l nk n m w1) (t : St) :
    ((((((((w1.setCell ⟨w.heap.size + 1, 0, none⟩ (.int .i64 (wi t.a))).setCell ⟨w.heap.size + 1, 1, none⟩ (.int .i64 (wi t.b))).setCell ⟨w.heap.size + 1, 2, none⟩ (.int .i64 (wi t.c))).setCell ⟨w.heap.size + 1, 3, none⟩ (.int .i64 (wi t.d))).setCell ⟨w.heap.size + 1, 4, none⟩ (.int .i64 (wi t.e))).setCell ⟨w.heap.size + 1, 5, none⟩ (.int .i64 (wi t.f))).setCell ⟨w.heap.size + 1, 6, none⟩ (.int .i64 (wi t.g))).setCell ⟨w.heap.size + 1, 7, none⟩ (.int .i64 (wi t.h))).heap[w.heap.size + 1]? = some (.cells (nArr t.l) 72 (0, 0)) ∧
    Below w.heap.size w ((((((((w1.setCell ⟨w.heap.size + 1, 0, none⟩ (.int .i64 (wi t.a))).setCell ⟨w.heap.size + 1, 1, none⟩ (.int .i64 (wi t.b))).setCell ⟨w.heap.size + 1, 2, none⟩ (.int .i64 (wi t.c))).setCell ⟨w.heap.size + 1, 3, none⟩ (.int .i64 (wi t.d))).setCell ⟨w.heap.size + 1, 4, none⟩ (.int .i64 (wi t.e))).setCell ⟨w.heap.size + 1, 5, none⟩ (.int .i64 (wi t.f))).setCell ⟨w.heap.size + 1, 6, none⟩ (.int .i64 (wi t.g))).setCell ⟨w.heap.size + 1, 7, none⟩ (.int .i64 (wi t.h))) :=
  ⟨blkN_set8 h.1.2.1 (List.length_replicate ..) t,
    (((((((h.1.2.2.2.setCell (Nat.le_succ _) _).setCell (Nat.le_succ _) _).setCell (Nat.le_succ _) _).setCell (Nat.le_succ _) _).setCell (Nat.le_succ _) _).setCell (Nat.le_succ _) _).setCell (Nat.le_succ _) _).setCell (Nat.le_succ _) _⟩
/-- What a round lays. -/
theorem roundN (p0 p1 p2 p3 p4 p5 p6 p7 kt wt : W32) : ∃ e0 e1 e2 e3 e4 e5 e6 e7 kk ww c1 n4 c2 ch m1 m2 m3 m4 mj t4 t0 u1 u2 u3 P Q R0 R4 r0 r4 : Int,
    (wi p0 = e0 ∧ wi p1 = e1 ∧ wi p2 = e2 ∧ wi p3 = e3 ∧ wi p4 = e4 ∧ wi p5 = e5 ∧ wi p6 = e6 ∧ wi p7 = e7 ∧ wi kt = kk ∧ wi wt = ww ∧ wi (threeV p4 6 11 25 false) = t4 ∧ wi (threeV p0 2 13 22 false) = t0) ∧
    (Go.bits .and .i64 e4 e5 = c1 ∧ IntKind.i64.wrap (4294967295 - e4) = n4 ∧ Go.bits .and .i64 n4 e6 = c2 ∧ Go.bits .xor .i64 c1 c2 = ch ∧ Go.bits .and .i64 e0 e1 = m1 ∧ Go.bits .and .i64 e0 e2 = m2 ∧ Go.bits .xor .i64 m1 m2 = m3 ∧ Go.bits .and .i64 e1 e2 = m4 ∧ Go.bits .xor .i64 m3 m4 = mj) ∧
    (IntKind.i64.wrap (e7 + t4) = u1 ∧ IntKind.i64.wrap (u1 + ch) = u2 ∧ IntKind.i64.wrap (u2 + kk) = u3 ∧ IntKind.i64.wrap (u3 + ww) = P ∧ IntKind.i64.wrap (t0 + mj) = Q) ∧
    (IntKind.i64.wrap (P + Q) = R0 ∧ Int.tmod R0 4294967296 = r0 ∧ R0 % 4294967296 = r0 ∧ 0 ≤ R0 ∧ IntKind.i64.wrap (e3 + P) = R4 ∧ Int.tmod R4 4294967296 = r4 ∧ R4 % 4294967296 = r4 ∧ 0 ≤ R4) ∧
    r0 = wi (rnd ⟨p0, p1, p2, p3, p4, p5, p6, p7⟩ kt wt).a ∧ r4 = wi (rnd ⟨p0, p1, p2, p3, p4, p5, p6, p7⟩ kt wt).e := by
  obtain ⟨CH, hCH⟩ : ∃ CH, CH = p6 ^^^ p4 &&& (p5 ^^^ p6) := ⟨_, rfl⟩
  obtain ⟨MJ, hMJ⟩ : ∃ MJ, MJ = p0 &&& p1 ||| p2 &&& (p0 ||| p1) := ⟨_, rfl⟩
  have q3 := wi_range p3; have q4 := wi_range p4; have q7 := wi_range p7; have qk := wi_range kt; have qw := wi_range wt; have qc := wi_range CH; have qm := wi_range MJ; have q1 := wi_range (threeV p4 6 11 25 false); have q0 := wi_range (threeV p0 2 13 22 false)
  have hn : IntKind.i64.wrap (4294967295 - wi p4) = wi (~~~p4) := by rw [i64_small _ (by omega) (by omega), wi_not]
  have hP : pOf ⟨p0, p1, p2, p3, p4, p5, p6, p7⟩ kt wt = p7 + threeV p4 6 11 25 false + CH + kt + wt := by rw [hCH]; rfl
  have hQ : qOf ⟨p0, p1, p2, p3, p4, p5, p6, p7⟩ = threeV p0 2 13 22 false + MJ := by rw [hMJ]; rfl
  rw [← ch_eq] at hCH; rw [← maj_eq] at hMJ
  refine ⟨_, _, _, _, _, _, _, _, _, _, _, _, _, wi CH, _, _, _, _, wi MJ, _, _, wi p7 + wi (threeV p4 6 11 25 false), wi p7 + wi (threeV p4 6 11 25 false) + wi CH, wi p7 + wi (threeV p4 6 11 25 false) + wi CH + wi kt, wi p7 + wi (threeV p4 6 11 25 false) + wi CH + wi kt + wi wt, wi (threeV p0 2 13 22 false) + wi MJ,
    wi p7 + wi (threeV p4 6 11 25 false) + wi CH + wi kt + wi wt + (wi (threeV p0 2 13 22 false) + wi MJ), wi p3 + (wi p7 + wi (threeV p4 6 11 25 false) + wi CH + wi kt + wi wt), _, _, ⟨rfl, rfl, rfl, rfl, rfl, rfl, rfl, rfl, rfl, rfl, rfl, rfl⟩, ⟨i64_and _ _, hn, i64_and _ _, by rw [i64_xor, hCH], i64_and _ _, i64_and _ _, i64_xor _ _, i64_and _ _, by rw [i64_xor, hMJ]⟩,
    ⟨i64_small _ (by omega) (by omega), i64_small _ (by omega) (by omega), i64_small _ (by omega) (by omega), i64_small _ (by omega) (by omega), i64_small _ (by omega) (by omega)⟩,
    ⟨i64_small _ (by omega) (by omega), Int.tmod_eq_emod_of_nonneg (by omega), rfl, by omega, i64_small _ (by omega) (by omega), Int.tmod_eq_emod_of_nonneg (by omega), rfl, by omega⟩, ?_, ?_⟩
  · show _ = wi (pOf _ kt wt + qOf _)
    rw [hP, hQ, wi_add, wi_add (p7 + threeV p4 6 11 25 false + CH + kt), wi_add (p7 + threeV p4 6 11 25 false + CH), wi_add (p7 + threeV p4 6 11 25 false), wi_add p7, wi_add (threeV p0 2 13 22 false)]
    omega
  · show _ = wi (p3 + pOf _ kt wt)
    rw [hP, wi_add, wi_add (p7 + threeV p4 6 11 25 false + CH + kt), wi_add (p7 + threeV p4 6 11 25 false + CH), wi_add (p7 + threeV p4 6 11 25 false), wi_add p7]
    omega
theorem three_v (x : W32) (k0 k1 k2 : Nat) (i0 i1 i2 q v : Int) (down : Bool) (w : World) (e0 : (k0 : Int) = i0) (e1 : (k1 : Int) = i1) (e2 : (k2 : Int) = i2) (hq : wi x = q) (hv : wi (threeV x k0 k1 k2 down) = v) (h0 : 2 ≤ k0 ∧ k0 < 32) (h1 : 2 ≤ k1 ∧ k1 < 32) (h2 : 2 ≤ k2 ∧ k2 < 32) :
    Calls Tryd.prog 55 #[.int .i64 q, .agg #[.int .i64 i0, .int .i64 i1, .int .i64 i2], .bool down] w fun e w' => e = .returned (.int .i64 v) ∧ Below w.heap.size w w' := by
  subst e0 e1 e2 hq hv; exact three_calls x k0 k1 k2 down w h0 h1 h2
/-- What the second loop lays. -/
theorem sched (y0 y1 y9 y14 : W32) : ∃ q0 q1 q9 q14 a1 a14 z1 z2 z3 r : Int, wi y0 = q0 ∧ wi y1 = q1 ∧ wi y9 = q9 ∧ wi y14 = q14 ∧ wi (threeV y1 7 18 3 true) = a1 ∧ wi (threeV y14 17 19 10 true) = a14 ∧ IntKind.i64.wrap (a14 + q9) = z1 ∧ IntKind.i64.wrap (z1 + a1) = z2 ∧ IntKind.i64.wrap (z2 + q0) = z3 ∧
    Int.tmod z3 4294967296 = r ∧ z3 % 4294967296 = r ∧ 0 ≤ z3 ∧ r = wi (y0 + y9 + sig0 y1 + sig1 y14) := by
  have r0 := wi_range y0; have r9 := wi_range y9; have s1 := wi_range (threeV y1 7 18 3 true); have s14 := wi_range (threeV y14 17 19 10 true); refine ⟨_, _, _, _, _, _, _, _, _, _, rfl, rfl, rfl, rfl, rfl, rfl, i64_small _ (by omega) (by omega), i64_small _ (by omega) (by omega), i64_small _ (by omega) (by omega), Int.tmod_eq_emod_of_nonneg (by omega), rfl, by omega, ?_⟩; have e1 : sig0 y1 = threeV y1 7 18 3 true := rfl; have e14 : sig1 y14 = threeV y14 17 19 10 true := rfl; rw [e1, e14, wi_add, wi_add, wi_add]
  omega
set_option maxHeartbeats 8000000 in
set_option maxRecDepth 100000 in
theorem block_calls (s : St) (A : Option Addr) (c : Nat) (b : List Int) (w : World) (hb : Kd.C (Kd.int .u8) w A b.length b) (hbl : b.length = 64) (hc : 64 ≤ c) (hby : ∀ x ∈ b, 0 ≤ x ∧ x < 256) :
    Calls Tryd.prog 42 #[.agg (nArr s.l), .slice A 64 c] w fun e w' => e = .returned (.agg (nArr (turnV s b).l)) ∧ Below w.heap.size w w' := by
  have HC := Aside0.mk hb; have HBl := Aside0.mk hbl; have HBy := Aside0.mk hby; clear hb hby hbl; obtain ⟨a, ha⟩ : ∃ a, a = nArr s.l := ⟨_, rfl⟩; rw [← ha]; have HA := Aside0.mk ha; clear ha
  go_enter Tryd.func42, Tryd.ntmps42
  go_wp2
  go_loopw [6] (fun v6 wr => ∃ t : Nat, t ≤ 16 ∧ v6 = .int .i64 t ∧ Aside0 (BlkW w a (wcells b t) wr)) (fun v6 _ => 16 - (intOf v6).toNat)
  case atStart => exact ⟨0, Nat.zero_le _, rfl, ⟨BlkW.start w a _ _ _ _ _ (wcells b 0) rfl rfl rfl rfl rfl⟩⟩
  case round =>
    obtain ⟨t, ht, rfl, HW⟩ := hrel
    by_cases hlt : t < 16
    · obtain ⟨k0, hk0⟩ : ∃ k0, k0 = 4 * t := ⟨_, rfl⟩; have hbl := HBl.out; obtain ⟨ad, rfl, hx0⟩ := int_at' HC.out HW.out.2.2.2 k0 (by omega); have hx1 := int_cell HC.out HW.out.2.2.2 (k0 + 1) (by omega); have hx2 := int_cell HC.out HW.out.2.2.2 (k0 + 2) (by omega); have hx3 := int_cell HC.out HW.out.2.2.2 (k0 + 3) (by omega); have HWd := Aside0.mk (wcells_set b t (by omega)); have HWa : Aside0 (wAt b (ws b t) t = BitVec.ofInt 32 (((b.getD k0 0 * 256 + b.getD (k0 + 1) 0) * 256 + b.getD (k0 + 2) 0) * 256 + b.getD (k0 + 3) 0)) := ⟨by rw [hk0]; exact if_pos hlt⟩; obtain ⟨a0, a0'⟩ := byte_at HBy.out k0; obtain ⟨a1, a1'⟩ := byte_at HBy.out (k0 + 1); obtain ⟨a2, a2'⟩ := byte_at HBy.out (k0 + 2); obtain ⟨a3, a3'⟩ := byte_at HBy.out (k0 + 3); generalize b.getD k0 0 = x0 at *; generalize b.getD (k0 + 1) 0 = x1 at *; generalize b.getD (k0 + 2) 0 = x2 at *; generalize b.getD (k0 + 3) 0 = x3 at *; have HV := Aside0.mk (word_val x0 x1 x2 x3 a0 a1 a2 a3 a0' a1' a2' a3'); obtain ⟨k1, hk1⟩ : ∃ k1, k1 = k0 + 1 := ⟨_, rfl⟩; obtain ⟨k2, hk2⟩ : ∃ k2, k2 = k0 + 2 := ⟨_, rfl⟩; obtain ⟨k3, hk3⟩ : ∃ k3, k3 = k0 + 3 := ⟨_, rfl⟩; rw [← hk1] at hx1; rw [← hk2] at hx2; rw [← hk3] at hx3
      have fi0 : IntKind.i64.wrap (4 * (t : Int)) = (k0 : Int) := by rw [IntWalk.i64_in _ (by omega)]; omega
      have fi1 : IntKind.i64.wrap ((k0 : Int) + 1) = (k1 : Int) := by rw [IntWalk.i64_in _ (by omega)]; omega
      have fi2 : IntKind.i64.wrap ((k0 : Int) + 2) = (k2 : Int) := by rw [IntWalk.i64_in _ (by omega)]; omega
      have fi3 : IntKind.i64.wrap ((k0 : Int) + 3) = (k3 : Int) := by rw [IntWalk.i64_in _ (by omega)]; omega
      have hti : (t : Int) < 64 := by omega
      have htj : t < 64 := by omega
      have hi0 : (k0 : Int) < 64 := by omega
      have hi1 : (k1 : Int) < 64 := by omega
      have hi2 : (k2 : Int) < 64 := by omega
      have hi3 : (k3 : Int) < 64 := by omega
      have hj0 : k0 < 64 := by omega
      have hj1 : k1 < 64 := by omega
      have hj2 : k2 < 64 := by omega
      have hj3 : k3 < 64 := by omega
      have fw0 : IntKind.i64.wrap x0 = x0 := IntWalk.i64_in _ (by omega); have fw1 : IntKind.i64.wrap x1 = x1 := IntWalk.i64_in _ (by omega); have fw2 : IntKind.i64.wrap x2 = x2 := IntWalk.i64_in _ (by omega); have fw3 : IntKind.i64.wrap x3 = x3 := IntWalk.i64_in _ (by omega); obtain ⟨y0, hy0⟩ : ∃ y, y = x0 * 16777216 := ⟨_, rfl⟩; obtain ⟨y1, hy1⟩ : ∃ y, y = x1 * 65536 := ⟨_, rfl⟩; obtain ⟨y2, hy2⟩ : ∃ y, y = x2 * 256 := ⟨_, rfl⟩
      have fm0 : IntKind.i64.wrap (x0 * 16777216) = y0 := by rw [IntWalk.i64_in _ (by omega), hy0]
      have fm1 : IntKind.i64.wrap (x1 * 65536) = y1 := by rw [IntWalk.i64_in _ (by omega), hy1]
      have fm2 : IntKind.i64.wrap (x2 * 256) = y2 := by rw [IntWalk.i64_in _ (by omega), hy2]
      obtain ⟨z1, hz1⟩ : ∃ y, y = y0 + y1 := ⟨_, rfl⟩; obtain ⟨z2, hz2⟩ : ∃ y, y = z1 + y2 := ⟨_, rfl⟩; obtain ⟨z3, hz3⟩ : ∃ y, y = z2 + x3 := ⟨_, rfl⟩
      have fs1 : IntKind.i64.wrap (y0 + y1) = z1 := by rw [IntWalk.i64_in _ (by omega), hz1]
      have fs2 : IntKind.i64.wrap (z1 + y2) = z2 := by rw [IntWalk.i64_in _ (by omega), hz2]
      have fs3 : IntKind.i64.wrap (z2 + x3) = z3 := by rw [IntWalk.i64_in _ (by omega), hz3]
      have HV3 : Aside0 (wi (BitVec.ofInt 32 (((x0 * 256 + x1) * 256 + x2) * 256 + x3)) = z3) := ⟨by rw [HV.out, hz3, hz2, hz1, hy0, hy1, hy2]⟩; clear hz3 hz2 hz1 hy0 hy1 hy2 hk1 hk2 hk3 hk0 HV hbl; have hst : ∃ v, wr.cell? ⟨w.heap.size + 1 + 1, t, none⟩ = some v := ⟨_, HW.out.cell t (by rw [wcells_length _ _ (by omega)]; omega)⟩; obtain ⟨v0, hst⟩ := hst; go_wp2
      go_still_tail 35, (by kernel_rfl)
      have HW2 : Aside0 (BlkW w a (wcells b t) wr.drew) := ⟨HW.out.below (below_drew (Below.refl _ _))⟩; have hfz2 := HW2.out.froz t; have hst2 : wr.drew.cell? ⟨w.heap.size + 1 + 1, t, none⟩ = some v0 := hst
      change wpList _ _ _ _ _ wr.drew
      generalize wr.drew = w2 at *; go_wp2; go_roundw
      case measure => simp [intOf]; omega
      case rel => exact ⟨t + 1, by omega, by go_num, ⟨by rw [← HWd.out, HWa.out]; have := HW2.out.set t (BitVec.ofInt 32 (((x0 * 256 + x1) * 256 + x2) * 256 + x3)); rw [HV3.out] at this; exact this⟩⟩
    · obtain rfl : t = 16 := by omega
      clear hlt ht; go_wp2
      go_loopw [7] (fun v7 wr => ∃ t : Nat, 16 ≤ t ∧ t ≤ 64 ∧ v7 = .int .i64 t ∧ Aside0 (BlkW w a (wcells b t) wr)) (fun v7 _ => 64 - (intOf v7).toNat)
      case atStart => exact ⟨16, Nat.le_refl _, by decide, rfl, HW⟩
      case round =>
        clear HW; obtain ⟨t, h16, ht, rfl, HW⟩ := hrel
        by_cases hlt2 : t < 64
        · obtain ⟨m, rfl⟩ : ∃ m, t = m + 16 := ⟨t - 16, by omega⟩; have HWd := Aside0.mk (wcells_set b (m + 16) hlt2); have HLn : Aside0 ((wcells b (m + 16)).length = 64) := ⟨wcells_length _ _ (by omega)⟩; have HWa : Aside0 (wAt b (ws b (m + 16)) (m + 16) = (ws b (m + 16)).getD m 0 + (ws b (m + 16)).getD (m + 9) 0 + sig0 ((ws b (m + 16)).getD (m + 1) 0) + sig1 ((ws b (m + 16)).getD (m + 14) 0)) := ⟨by rw [wAt, if_neg (by omega)]; rfl⟩; have hl := HLn.out
          have hd : ∀ i, i < m + 16 → ∀ W : World, W.heap[w.heap.size + 1 + 1]? = some (.cells (nArr (wcells b (m + 16))) 90 (0, 0)) → W.cell? ⟨w.heap.size + 1 + 1, i, none⟩ = some (.int .i64 (wi ((ws b (m + 16)).getD i 0))) := fun i hi W hW => by
            rw [← wcells_get b (m + 16) i hi]; exact (blk_cell hW i).trans (nArr_get _ i (by omega))
          have d0 := hd m (by omega); have d1 := hd (m + 1) (by omega); have d9 := hd (m + 9) (by omega); have d14 := hd (m + 14) (by omega); clear hd hl; obtain ⟨q0, q1, q9, q14, a1, a14, z1, z2, z3, r, eq0, eq1, eq9, eq14, ea1, ea14, s1, s2, s3, s4, s5, s6, er⟩ := sched ((ws b (m + 16)).getD m 0) ((ws b (m + 16)).getD (m + 1) 0) ((ws b (m + 16)).getD (m + 9) 0) ((ws b (m + 16)).getD (m + 14) 0); rw [← HWa.out] at er; generalize (ws b (m + 16)).getD m 0 = y0 at *; generalize (ws b (m + 16)).getD (m + 1) 0 = y1 at *; generalize (ws b (m + 16)).getD (m + 9) 0 = y9 at *; generalize (ws b (m + 16)).getD (m + 14) 0 = y14 at *; rw [eq0] at d0; rw [eq1] at d1; rw [eq9] at d9; rw [eq14] at d14; have Eq1 := Aside0.mk eq1; have Eq14 := Aside0.mk eq14; have Ea1 := Aside0.mk ea1; have Ea14 := Aside0.mk ea14; have Er := Aside0.mk er; clear eq0 eq1 eq9 eq14 ea1 ea14 er HWa
          have i0 : IntKind.i64.wrap (((m + 16 : Nat) : Int) - 16) = (m : Int) := by rw [show ((m + 16 : Nat) : Int) - 16 = (m : Int) by omega]; exact IntWalk.i64_in _ (by omega)
          have i1 : IntKind.i64.wrap (((m + 16 : Nat) : Int) - 15) = ((m + 1 : Nat) : Int) := by rw [show ((m + 16 : Nat) : Int) - 15 = ((m + 1 : Nat) : Int) by omega]; exact IntWalk.i64_in _ (by omega)
          have i9 : IntKind.i64.wrap (((m + 16 : Nat) : Int) - 7) = ((m + 9 : Nat) : Int) := by rw [show ((m + 16 : Nat) : Int) - 7 = ((m + 9 : Nat) : Int) by omega]; exact IntWalk.i64_in _ (by omega)
          have i14 : IntKind.i64.wrap (((m + 16 : Nat) : Int) - 2) = ((m + 14 : Nat) : Int) := by rw [show ((m + 16 : Nat) : Int) - 2 = ((m + 14 : Nat) : Int) by omega]; exact IntWalk.i64_in _ (by omega)
          have b0 : (m : Int) < 64 := by omega
          have b1 : ((m + 1 : Nat) : Int) < 64 := by omega
          have b9 : ((m + 9 : Nat) : Int) < 64 := by omega
          have b14 : ((m + 14 : Nat) : Int) < 64 := by omega
          have b16 : ((m + 16 : Nat) : Int) < 64 := by omega
          generalize m + 16 = t at *; generalize m + 1 = n1 at *; generalize m + 9 = n9 at *; generalize m + 14 = n14 at *; have D0 := Aside0.mk d0; have D1 := Aside0.mk d1; have D9 := Aside0.mk d9; have D14 := Aside0.mk d14; clear d0 d1 d9 d14; have hc0 : wr.cell? ⟨w.heap.size + 1 + 1, m, none⟩ = some (.int .i64 q0) := D0.out _ HW.out.2.2.1; have hc1 : wr.cell? ⟨w.heap.size + 1 + 1, n1, none⟩ = some (.int .i64 q1) := D1.out _ HW.out.2.2.1; have hc9 : wr.cell? ⟨w.heap.size + 1 + 1, n9, none⟩ = some (.int .i64 q9) := D9.out _ HW.out.2.2.1; have hc14 : wr.cell? ⟨w.heap.size + 1 + 1, n14, none⟩ = some (.int .i64 q14) := D14.out _ HW.out.2.2.1; go_wp2; refine start_ (n := 27) (S := fun w' => w'.cell? ⟨w.heap.size + 1 + 1, m, none⟩ = some (.int .i64 q0) ∧ w'.cell? ⟨w.heap.size + 1 + 1, n1, none⟩ = some (.int .i64 q1) ∧ w'.cell? ⟨w.heap.size + 1 + 1, n9, none⟩ = some (.int .i64 q9) ∧ w'.cell? ⟨w.heap.size + 1 + 1, n14, none⟩ = some (.int .i64 q14)) (ds := [26]) #[false, false, false, false, false, false, false, false, false, false, false, false, false, false, false, false, false, false, false, false, false, false, false, false, false, false, false] (by kernel_rfl) rfl rfl ⟨hc0, hc1, hc9, hc14⟩ (fun hHeld => ?_); refine pure_ (i := 0) (N := some 59) (v := ?_) (a' := ?_) #[true, false, false, false, false, false, false, false, false, false, false, false, false, false, false, false, false, false, false, false, false, false, false, false, false, false, false] rfl rfl (by kernel_rfl) (fun _ _ _ h => h) (Or.inl ⟨by rfl, ?_⟩) ?_ ?_
          rotate_left
          · intro w'
            go_simp
            with_reducible rfl
          rotate_left
          · simp only [Act.put, List.setIfInBounds_toArray, List.set_cons_zero, List.set_cons_succ]
            rfl
          refine pure_ (i := 1) (N := some 60) (v := ?_) (a' := ?_) #[true, true, false, false, false, false, false, false, false, false, false, false, false, false, false, false, false, false, false, false, false, false, false, false, false, false, false] rfl rfl (by kernel_rfl) (fun _ _ _ h => h) (Or.inl ⟨by rfl, ?_⟩) ?_ ?_
          rotate_left
          · intro w'
            go_simp
            with_reducible rfl
          rotate_left
          · simp only [Act.put, List.setIfInBounds_toArray, List.set_cons_zero, List.set_cons_succ]
            rfl
          refine pure_ (i := 2) (N := some 61) (v := ?_) (a' := ?_) #[true, true, true, false, false, false, false, false, false, false, false, false, false, false, false, false, false, false, false, false, false, false, false, false, false, false, false] rfl rfl (by kernel_rfl) (fun _ _ _ h => h) (Or.inl ⟨by rfl, ?_⟩) ?_ ?_
          rotate_left
          · intro w'
            go_simp
            with_reducible rfl
          rotate_left
          · simp only [Act.put, List.setIfInBounds_toArray, List.set_cons_zero, List.set_cons_succ]
            rfl
          refine pure_ (i := 3) (N := some 62) (v := ?_) (a' := ?_) #[true, true, true, true, false, false, false, false, false, false, false, false, false, false, false, false, false, false, false, false, false, false, false, false, false, false, false] rfl rfl (by kernel_rfl) (fun _ _ _ h => h) (Or.inl ⟨by rfl, ?_⟩) ?_ ?_
          rotate_left
          · intro w'
            go_simp
            with_reducible rfl
          rotate_left
          · simp only [Act.put, List.setIfInBounds_toArray, List.set_cons_zero, List.set_cons_succ]
            rfl
          refine pure_ (i := 5) (N := some 64) (v := ?_) (a' := ?_) #[true, true, true, true, false, true, false, false, false, false, false, false, false, false, false, false, false, false, false, false, false, false, false, false, false, false, false] rfl rfl (by kernel_rfl) (fun _ _ _ h => h) (Or.inl ⟨by rfl, ?_⟩) ?_ ?_
          rotate_left
          · intro w'
            go_simp
            with_reducible rfl
          rotate_left
          · simp only [Act.put, List.setIfInBounds_toArray, List.set_cons_zero, List.set_cons_succ]
            rfl
          refine pure_ (i := 7) (N := some 66) (v := ?_) (a' := ?_) #[true, true, true, true, false, true, false, true, false, false, false, false, false, false, false, false, false, false, false, false, false, false, false, false, false, false, false] rfl rfl (by kernel_rfl) (fun _ _ _ h => h) (Or.inl ⟨by rfl, ?_⟩) ?_ ?_
          rotate_left
          · intro w'
            go_simp
            with_reducible rfl
          rotate_left
          · simp only [Act.put, List.setIfInBounds_toArray, List.set_cons_zero, List.set_cons_succ]
            rfl
          refine pure_ (i := 8) (N := some 67) (v := ?_) (a' := ?_) #[true, true, true, true, false, true, false, true, true, false, false, false, false, false, false, false, false, false, false, false, false, false, false, false, false, false, false] rfl rfl (by kernel_rfl) (fun _ _ _ h => h) (Or.inl ⟨by rfl, ?_⟩) ?_ ?_
          rotate_left
          · intro w'
            go_simp
            with_reducible rfl
          rotate_left
          · simp only [Act.put, List.setIfInBounds_toArray, List.set_cons_zero, List.set_cons_succ]
            rfl
          refine pure_ (i := 9) (N := some 68) (v := ?_) (a' := ?_) #[true, true, true, true, false, true, false, true, true, true, false, false, false, false, false, false, false, false, false, false, false, false, false, false, false, false, false] rfl rfl (by kernel_rfl) (fun _ _ _ h => h) (Or.inl ⟨by rfl, ?_⟩) ?_ ?_
          rotate_left
          · intro w'
            go_simp
            with_reducible rfl
          rotate_left
          · simp only [Act.put, List.setIfInBounds_toArray, List.set_cons_zero, List.set_cons_succ]
            rfl
          refine pure_ (i := 12) (N := some 71) (v := ?_) (a' := ?_) #[true, true, true, true, false, true, false, true, true, true, false, false, true, false, false, false, false, false, false, false, false, false, false, false, false, false, false] rfl rfl (by kernel_rfl) (fun _ _ _ h => h) (Or.inl ⟨by rfl, ?_⟩) ?_ ?_
          rotate_left
          · intro w'
            go_simp
            with_reducible rfl
          rotate_left
          · simp only [Act.put, List.setIfInBounds_toArray, List.set_cons_zero, List.set_cons_succ]
            rfl
          refine pure_ (i := 13) (N := some 72) (v := ?_) (a' := ?_) #[true, true, true, true, false, true, false, true, true, true, false, false, true, true, false, false, false, false, false, false, false, false, false, false, false, false, false] rfl rfl (by kernel_rfl) (fun _ _ _ h => h) (Or.inl ⟨by rfl, ?_⟩) ?_ ?_
          rotate_left
          · intro w'
            go_simp
            with_reducible rfl
          rotate_left
          · simp only [Act.put, List.setIfInBounds_toArray, List.set_cons_zero, List.set_cons_succ]
            rfl
          refine pure_ (i := 14) (N := some 73) (v := ?_) (a' := ?_) #[true, true, true, true, false, true, false, true, true, true, false, false, true, true, true, false, false, false, false, false, false, false, false, false, false, false, false] rfl rfl (by kernel_rfl) (fun _ _ _ h => h) (Or.inl ⟨by rfl, ?_⟩) ?_ ?_
          rotate_left
          · intro w'
            go_simp
            with_reducible rfl
          rotate_left
          · simp only [Act.put, List.setIfInBounds_toArray, List.set_cons_zero, List.set_cons_succ]
            rfl
          refine pure_ (i := 16) (N := some 75) (v := ?_) (a' := ?_) #[true, true, true, true, false, true, false, true, true, true, false, false, true, true, true, false, true, false, false, false, false, false, false, false, false, false, false] rfl rfl (by kernel_rfl) (fun _ _ _ h => h) (Or.inl ⟨by rfl, ?_⟩) ?_ ?_
          rotate_left
          · intro w'
            go_simp
            with_reducible rfl
          rotate_left
          · simp only [Act.put, List.setIfInBounds_toArray, List.set_cons_zero, List.set_cons_succ]
            rfl
          refine pure_ (i := 19) (N := some 78) (v := ?_) (a' := ?_) #[true, true, true, true, false, true, false, true, true, true, false, false, true, true, true, false, true, false, false, true, false, false, false, false, false, false, false] rfl rfl (by kernel_rfl) (fun _ _ _ h => h) (Or.inl ⟨by rfl, ?_⟩) ?_ ?_
          rotate_left
          · intro w'
            go_simp
            with_reducible rfl
          rotate_left
          · simp only [Act.put, List.setIfInBounds_toArray, List.set_cons_zero, List.set_cons_succ]
            rfl
          refine pure_ (i := 20) (N := some 79) (v := ?_) (a' := ?_) #[true, true, true, true, false, true, false, true, true, true, false, false, true, true, true, false, true, false, false, true, true, false, false, false, false, false, false] rfl rfl (by kernel_rfl) (fun _ _ _ h => h) (Or.inl ⟨by rfl, ?_⟩) ?_ ?_
          rotate_left
          · intro w'
            go_simp
            with_reducible rfl
          rotate_left
          · simp only [Act.put, List.setIfInBounds_toArray, List.set_cons_zero, List.set_cons_succ]
            rfl
          refine pure_ (i := 21) (N := some 80) (v := ?_) (a' := ?_) #[true, true, true, true, false, true, false, true, true, true, false, false, true, true, true, false, true, false, false, true, true, true, false, false, false, false, false] rfl rfl (by kernel_rfl) (fun _ _ _ h => h) (Or.inl ⟨by rfl, ?_⟩) ?_ ?_
          rotate_left
          · intro w'
            go_simp
            with_reducible rfl
          rotate_left
          · simp only [Act.put, List.setIfInBounds_toArray, List.set_cons_zero, List.set_cons_succ]
            rfl
          refine take_ (i := 4) (N := some 63) (v := ?_) (a' := ?_) #[true, true, true, true, true, true, false, true, true, true, false, false, true, true, true, false, true, false, false, true, true, true, false, false, false, false, false] rfl rfl (by kernel_rfl) (fun _ _ _ h => h) (Or.inl ⟨by rfl, ?_⟩) hHeld ?_ ?_
          rotate_left
          · rintro w' ⟨s0, s1, s2, s3⟩
            go_simp
            with_reducible rfl
          rotate_left
          · simp only [Act.put, List.setIfInBounds_toArray, List.set_cons_zero, List.set_cons_succ]
            rfl
          refine take_ (i := 10) (N := some 69) (v := ?_) (a' := ?_) #[true, true, true, true, true, true, false, true, true, true, true, false, true, true, true, false, true, false, false, true, true, true, false, false, false, false, false] rfl rfl (by kernel_rfl) (fun _ _ _ h => h) (Or.inl ⟨by rfl, ?_⟩) hHeld ?_ ?_
          rotate_left
          · rintro w' ⟨s0, s1, s2, s3⟩
            go_simp
            with_reducible rfl
          rotate_left
          · simp only [Act.put, List.setIfInBounds_toArray, List.set_cons_zero, List.set_cons_succ]
            rfl
          refine take_ (i := 15) (N := some 74) (v := ?_) (a' := ?_) #[true, true, true, true, true, true, false, true, true, true, true, false, true, true, true, true, true, false, false, true, true, true, false, false, false, false, false] rfl rfl (by kernel_rfl) (fun _ _ _ h => h) (Or.inl ⟨by rfl, ?_⟩) hHeld ?_ ?_
          rotate_left
          · rintro w' ⟨s0, s1, s2, s3⟩
            go_simp
            with_reducible rfl
          rotate_left
          · simp only [Act.put, List.setIfInBounds_toArray, List.set_cons_zero, List.set_cons_succ]
            rfl
          refine take_ (i := 22) (N := some 81) (v := ?_) (a' := ?_) #[true, true, true, true, true, true, false, true, true, true, true, false, true, true, true, true, true, false, false, true, true, true, true, false, false, false, false] rfl rfl (by kernel_rfl) (fun _ _ _ h => h) (Or.inl ⟨by rfl, ?_⟩) hHeld ?_ ?_
          rotate_left
          · rintro w' ⟨s0, s1, s2, s3⟩
            go_simp
            with_reducible rfl
          rotate_left
          · simp only [Act.put, List.setIfInBounds_toArray, List.set_cons_zero, List.set_cons_succ]
            rfl
          refine one_ (i := 6) (N := some 65) #[true, true, true, true, true, true, true, true, true, true, true, false, true, true, true, true, true, false, false, true, true, true, true, false, false, false, false] rfl rfl (by kernel_rfl) (by decide) (fun K hK => ?_); refine goes_ Tryd.func55 (by kernel_rfl) rfl #[.int .i64 q14, .agg #[.int .i64 17, .int .i64 19, .int .i64 10], .bool true] (by rfl) rfl rfl (by simp only [List.map_toArray, List.map_cons, List.map_nil]; rfl) ?_
          with_reducible refine (three_v y14 17 19 10 17 19 10 q14 a14 true _ rfl rfl rfl Eq14.out Ea14.out (by decide) (by decide) (by decide)).mono ?_
          rintro e w3 ⟨rfl, hb⟩; refine ⟨_, rfl, ?_⟩; have HW3 : Aside0 (BlkW w a (wcells b t) w3) := ⟨(HW.out.below (below_drew (Below.refl _ _))).below hb⟩; clear hb; have g0 : w3.cell? ⟨w.heap.size + 1 + 1, m, none⟩ = some (.int .i64 q0) := D0.out _ HW3.out.2.2.1; have g1 : w3.cell? ⟨w.heap.size + 1 + 1, n1, none⟩ = some (.int .i64 q1) := D1.out _ HW3.out.2.2.1; have g2 : w3.cell? ⟨w.heap.size + 1 + 1, n9, none⟩ = some (.int .i64 q9) := D9.out _ HW3.out.2.2.1; have g3 : w3.cell? ⟨w.heap.size + 1 + 1, n14, none⟩ = some (.int .i64 q14) := D14.out _ HW3.out.2.2.1; refine hK.out _ _ ⟨g0, g1, g2, g3⟩ (fun hHeld => ?_); clear hK K; refine norm_ (a' := ?_) ?_ ?_
          rotate_left
          · show Act.put _ (some 65) _ = _
            simp only [Act.put, List.setIfInBounds_toArray, List.set_cons_zero, List.set_cons_succ]
            rfl
          refine pure_ (i := 11) (N := some 70) (v := ?_) (a' := ?_) #[true, true, true, true, true, true, true, true, true, true, true, true, true, true, true, true, true, false, false, true, true, true, true, false, false, false, false] rfl rfl (by kernel_rfl) (fun _ _ _ h => h) (Or.inl ⟨by rfl, ?_⟩) ?_ ?_
          rotate_left
          · intro w'
            go_simp
            with_reducible rfl
          rotate_left
          · simp only [Act.put, List.setIfInBounds_toArray, List.set_cons_zero, List.set_cons_succ]
            rfl
          refine one_ (i := 17) (N := some 76) #[true, true, true, true, true, true, true, true, true, true, true, true, true, true, true, true, true, true, false, true, true, true, true, false, false, false, false] rfl rfl (by kernel_rfl) (by decide) (fun K hK => ?_); refine goes_ Tryd.func55 (by kernel_rfl) rfl #[.int .i64 q1, .agg #[.int .i64 7, .int .i64 18, .int .i64 3], .bool true] (by rfl) rfl rfl (by simp only [List.map_toArray, List.map_cons, List.map_nil]; rfl) ?_
          with_reducible refine (three_v y1 7 18 3 7 18 3 q1 a1 true _ rfl rfl rfl Eq1.out Ea1.out (by decide) (by decide) (by decide)).mono ?_
          rintro e w4 ⟨rfl, hb⟩; refine ⟨_, rfl, ?_⟩; have HW4 : Aside0 (BlkW w a (wcells b t) w4) := ⟨HW3.out.below hb⟩; clear hb; have k0 : w4.cell? ⟨w.heap.size + 1 + 1, m, none⟩ = some (.int .i64 q0) := D0.out _ HW4.out.2.2.1; have k1 : w4.cell? ⟨w.heap.size + 1 + 1, n1, none⟩ = some (.int .i64 q1) := D1.out _ HW4.out.2.2.1; have k2 : w4.cell? ⟨w.heap.size + 1 + 1, n9, none⟩ = some (.int .i64 q9) := D9.out _ HW4.out.2.2.1; have k3 : w4.cell? ⟨w.heap.size + 1 + 1, n14, none⟩ = some (.int .i64 q14) := D14.out _ HW4.out.2.2.1; have f4 : w4.frozen? ⟨w.heap.size + 1 + 1, t, none⟩ = false := HW4.out.froz t; obtain ⟨v4, hst4⟩ : ∃ v, w4.cell? ⟨w.heap.size + 1 + 1, t, none⟩ = some v := ⟨_, HW4.out.cell t (by rw [HLn.out]; omega)⟩; refine hK.out _ _ ⟨k0, k1, k2, k3⟩ (fun hHeld => ?_); clear hK K; refine norm_ (a' := ?_) ?_ ?_
          rotate_left
          · show Act.put _ (some 76) _ = _
            simp only [Act.put, List.setIfInBounds_toArray, List.set_cons_zero, List.set_cons_succ]
            rfl
          refine pure_ (i := 18) (N := some 77) (v := ?_) (a' := ?_) #[true, true, true, true, true, true, true, true, true, true, true, true, true, true, true, true, true, true, true, true, true, true, true, false, false, false, false] rfl rfl (by kernel_rfl) (fun _ _ _ h => h) (Or.inl ⟨by rfl, ?_⟩) ?_ ?_
          rotate_left
          · intro w'
            go_simp
            with_reducible rfl
          rotate_left
          · simp only [Act.put, List.setIfInBounds_toArray, List.set_cons_zero, List.set_cons_succ]
            rfl
          refine pure_ (i := 23) (N := some 82) (v := ?_) (a' := ?_) #[true, true, true, true, true, true, true, true, true, true, true, true, true, true, true, true, true, true, true, true, true, true, true, true, false, false, false] rfl rfl (by kernel_rfl) (fun _ _ _ h => h) (Or.inl ⟨by rfl, ?_⟩) ?_ ?_
          rotate_left
          · intro w'
            go_simp
            with_reducible rfl
          rotate_left
          · simp only [Act.put, List.setIfInBounds_toArray, List.set_cons_zero, List.set_cons_succ]
            rfl
          refine pure_ (i := 24) (N := some 83) (v := ?_) (a' := ?_) #[true, true, true, true, true, true, true, true, true, true, true, true, true, true, true, true, true, true, true, true, true, true, true, true, true, false, false] rfl rfl (by kernel_rfl) (fun _ _ _ h => h) (Or.inl ⟨by rfl, ?_⟩) ?_ ?_
          rotate_left
          · intro w'
            go_simp
            with_reducible rfl
          rotate_left
          · simp only [Act.put, List.setIfInBounds_toArray, List.set_cons_zero, List.set_cons_succ]
            rfl
          refine pure_ (i := 25) (N := some 84) (v := ?_) (a' := ?_) #[true, true, true, true, true, true, true, true, true, true, true, true, true, true, true, true, true, true, true, true, true, true, true, true, true, true, false] rfl rfl (by kernel_rfl) (fun _ _ _ h => h) (Or.inl ⟨by rfl, ?_⟩) ?_ ?_
          rotate_left
          · intro w'
            go_simp
            with_reducible rfl
          rotate_left
          · simp only [Act.put, List.setIfInBounds_toArray, List.set_cons_zero, List.set_cons_succ]
            rfl
          refine last_ (i := 26) (N := none) #[true, true, true, true, true, true, true, true, true, true, true, true, true, true, true, true, true, true, true, true, true, true, true, true, true, true, true] rfl rfl (by kernel_rfl) (by decide) (fun K hK => ?_); refine skip_ (w1 := ?_) (by rfl) rfl ?_ ?_
          rotate_left
          · go_simp
            rfl
          refine hK.out _ _ ?_; clear hK K; refine done_ (by kernel_rfl) ?_; clear hHeld hc0 hc1 hc9 hc14 g0 g1 g2 g3 k0 k1 k2 k3 s1 s2 s3 s4 s5 s6 f4 hst4; go_wp2; go_roundw
          case measure => simp [intOf]; omega
          case rel => exact ⟨t + 1, by omega, by omega, by go_num, ⟨by rw [← HWd.out]; have := HW4.out.set t (wAt b (ws b t) t); rw [← Er.out] at this; exact this⟩⟩
        · obtain rfl : t = 64 := by omega
          have hw64 : wcells b 64 = ws b 64 := by simp [wcells]
          rw [hw64] at HW; clear hw64 hlt2 ht h16; have hln : (ws b 64).length = 64 := ws_length b 64; obtain ⟨wl, hwl⟩ : ∃ wl, wl = ws b 64 := ⟨_, rfl⟩; rw [← hwl] at HW hln; have HWl := Aside0.mk hwl; have HLn := Aside0.mk hln; clear hwl hln; obtain ⟨sa, sb, sc, sd, se, sf, sg, sh⟩ := s; obtain rfl : a = #[.int .i64 (wi sa), .int .i64 (wi sb), .int .i64 (wi sc), .int .i64 (wi sd), .int .i64 (wi se), .int .i64 (wi sf), .int .i64 (wi sg), .int .i64 (wi sh)] := HA.out; go_wp2_with (fail); refine (constants_calls _).mono ?_; rintro e w3 ⟨rfl, hb⟩; have HW3 : Aside0 (BlkW w #[.int .i64 (wi sa), .int .i64 (wi sb), .int .i64 (wi sc), .int .i64 (wi sd), .int .i64 (wi se), .int .i64 (wi sf), .int .i64 (wi sg), .int .i64 (wi sh)] wl w3) := ⟨HW.out.below hb⟩; clear hb HW HA; have HK1 := Aside0.mk kA_info; have HK2 := Aside0.mk (nArr_one kL); have HK3 : Aside0 ((nArr (List.replicate 64 0)).size = (nArr kL).size) := ⟨by rw [nArr_size, nArr_size]; rfl⟩; have HS0 : Aside0 (∀ o : Obj, (w3.alloc o).cell? ⟨w.heap.size, 0, none⟩ = some (.int .i64 (wi sa))) := ⟨fun o => blk_cell (HW3.out.below (bel_alloc (Below.refl _ _) o)).1 0⟩; have HS1 : Aside0 (∀ o : Obj, (w3.alloc o).cell? ⟨w.heap.size, 1, none⟩ = some (.int .i64 (wi sb))) := ⟨fun o => blk_cell (HW3.out.below (bel_alloc (Below.refl _ _) o)).1 1⟩; have HS2 : Aside0 (∀ o : Obj, (w3.alloc o).cell? ⟨w.heap.size, 2, none⟩ = some (.int .i64 (wi sc))) := ⟨fun o => blk_cell (HW3.out.below (bel_alloc (Below.refl _ _) o)).1 2⟩; have HS3 : Aside0 (∀ o : Obj, (w3.alloc o).cell? ⟨w.heap.size, 3, none⟩ = some (.int .i64 (wi sd))) := ⟨fun o => blk_cell (HW3.out.below (bel_alloc (Below.refl _ _) o)).1 3⟩; have HS4 : Aside0 (∀ o : Obj, (w3.alloc o).cell? ⟨w.heap.size, 4, none⟩ = some (.int .i64 (wi se))) := ⟨fun o => blk_cell (HW3.out.below (bel_alloc (Below.refl _ _) o)).1 4⟩; have HS5 : Aside0 (∀ o : Obj, (w3.alloc o).cell? ⟨w.heap.size, 5, none⟩ = some (.int .i64 (wi sf))) := ⟨fun o => blk_cell (HW3.out.below (bel_alloc (Below.refl _ _) o)).1 5⟩; have HS6 : Aside0 (∀ o : Obj, (w3.alloc o).cell? ⟨w.heap.size, 6, none⟩ = some (.int .i64 (wi sg))) := ⟨fun o => blk_cell (HW3.out.below (bel_alloc (Below.refl _ _) o)).1 6⟩; have HS7 : Aside0 (∀ o : Obj, (w3.alloc o).cell? ⟨w.heap.size, 7, none⟩ = some (.int .i64 (wi sh))) := ⟨fun o => blk_cell (HW3.out.below (bel_alloc (Below.refl _ _) o)).1 7⟩; go_wp2_with (rw [z64_lit]; (with_reducible refine wpList_store_row rfl 90 (.tmp 8) (.tmp 85) rfl w3.heap.size (nArr kL) rfl rfl 90 (nArr (List.replicate 64 0)) (heap_alloc_new _ _) HK1.out HK3.out HK2.out ?_); rw [World.setRow_alloc_new]; have HN4 : Aside0 ((w3.alloc (.cells (nArr kL) 90)).heap[w3.heap.size]? = some (.cells (nArr kL) 90 (0, 0))) := ⟨heap_alloc_new _ _⟩; have HW4 : Aside0 (BlkW w #[.int .i64 (wi sa), .int .i64 (wi sb), .int .i64 (wi sc), .int .i64 (wi sd), .int .i64 (wi se), .int .i64 (wi sf), .int .i64 (wi sg), .int .i64 (wi sh)] wl (w3.alloc (.cells (nArr kL) 90))) := ⟨HW3.out.below (bel_alloc (Below.refl _ _) _)⟩; have HZ4 : Aside0 (w.heap.size + 1 + 1 < w3.heap.size) := ⟨blk_lt HW3.out.2.2.1⟩; have hs0 := HS0.out (.cells (nArr kL) 90); have hs1 := HS1.out (.cells (nArr kL) 90); have hs2 := HS2.out (.cells (nArr kL) 90); have hs3 := HS3.out (.cells (nArr kL) 90); have hs4 := HS4.out (.cells (nArr kL) 90); have hs5 := HS5.out (.cells (nArr kL) 90); have hs6 := HS6.out (.cells (nArr kL) 90); have hs7 := HS7.out (.cells (nArr kL) 90); generalize w3.alloc (.cells (nArr kL) 90) = w4 at *; generalize w3.heap.size = nk at *); have HL5 : Aside0 (BlkL w #[.int .i64 (wi sa), .int .i64 (wi sb), .int .i64 (wi sc), .int .i64 (wi sd), .int .i64 (wi se), .int .i64 (wi sf), .int .i64 (wi sg), .int .i64 (wi sh)] wl nk w4.heap.size (rs ⟨sa, sb, sc, sd, se, sf, sg, sh⟩ wl 0).l (w4.alloc (.cells #[.int .i64 (wi sa), .int .i64 (wi sb), .int .i64 (wi sc), .int .i64 (wi sd), .int .i64 (wi se), .int .i64 (wi sf), .int .i64 (wi sg), .int .i64 (wi sh)] 72))) := ⟨HW4.out.below (bel_alloc (Below.refl _ _) _), ((bel_alloc (Below.refl _ _) _).block _ (blk_lt HN4.out)).trans HN4.out, heap_alloc_new _ _, HZ4.out, blk_lt HN4.out⟩; generalize w4.heap.size = n3 at *; generalize w4.alloc (.cells #[.int .i64 (wi sa), .int .i64 (wi sb), .int .i64 (wi sc), .int .i64 (wi sd), .int .i64 (wi se), .int .i64 (wi sf), .int .i64 (wi sg), .int .i64 (wi sh)] 72) = w5 at *; clear HS0 HS1 HS2 HS3 HS4 HS5 HS6 HS7 hs0 hs1 hs2 hs3 hs4 hs5 hs6 hs7 HW4 HN4 HZ4 HW3
          go_loopw [10] (fun v10 wr' => ∃ t : Nat, t ≤ 64 ∧ v10 = .int .i64 t ∧ Aside0 (BlkL w #[.int .i64 (wi sa), .int .i64 (wi sb), .int .i64 (wi sc), .int .i64 (wi sd), .int .i64 (wi se), .int .i64 (wi sf), .int .i64 (wi sg), .int .i64 (wi sh)] wl nk n3 (rs ⟨sa, sb, sc, sd, se, sf, sg, sh⟩ wl t).l wr')) (fun v10 _ => 64 - (intOf v10).toNat)
          case atStart => exact ⟨0, Nat.zero_le _, rfl, HL5⟩
          case round =>
            clear HL5; obtain ⟨t, ht, rfl, HT⟩ := hrel
            by_cases hlt : t < 64
            · have hltI : (t : Int) < 64 := by omega
              obtain ⟨kt, hkt⟩ : ∃ kt, kL.getD t 0 = kt := ⟨_, rfl⟩; obtain ⟨wt, hwt⟩ : ∃ wt, wl.getD t 0 = wt := ⟨_, rfl⟩; obtain ⟨st, hst⟩ : ∃ st, st = rs ⟨sa, sb, sc, sd, se, sf, sg, sh⟩ wl t := ⟨_, rfl⟩
              have HN : Aside0 (rs ⟨sa, sb, sc, sd, se, sf, sg, sh⟩ wl (t + 1) = rnd st kt wt) := ⟨by
                show rnd (rs ⟨sa, sb, sc, sd, se, sf, sg, sh⟩ wl t) (kL.getD t 0) (wl.getD t 0) = _
                rw [← hst, hkt, hwt]⟩
              rw [← hst] at HT; obtain ⟨p0, p1, p2, p3, p4, p5, p6, p7⟩ := st; obtain ⟨e0, e1, e2, e3, e4, e5, e6, e7, kk, ww, c1, n4, c2, ch, m1, m2, m3, m4, mj, t4, t0, u1, u2, u3, P, Q, R0, R4, r0, r4, ⟨E0, E1, E2, E3, E4, E5, E6, E7, EK, EW, ET4, ET0⟩, ⟨a1, a2, a3, a4, a5, a6, a7, a8, a9⟩, ⟨b1, b2, b3, b4, b5⟩, ⟨d1, d2, d3, d4, d5, d6, d7, d8⟩, ER0, ER4⟩ := roundN p0 p1 p2 p3 p4 p5 p6 p7 kt wt; have HKc : Aside0 (∀ W : World, W.heap[nk]? = some (.cells (nArr kL) 90 (0, 0)) → W.cell? ⟨nk, t, none⟩ = some (.int .i64 kk)) := ⟨fun W hW => by rw [← EK, ← hkt]; exact (blk_cell hW t).trans (nArr_get _ t hlt)⟩; have HWc : Aside0 (∀ W : World, W.heap[w.heap.size + 1 + 1]? = some (.cells (nArr wl) 90 (0, 0)) → W.cell? ⟨w.heap.size + 1 + 1, t, none⟩ = some (.int .i64 ww)) := ⟨fun W hW => by rw [← EW, ← hwt]; exact (blk_cell hW t).trans (nArr_get _ t (by rw [HLn.out]; exact hlt))⟩; have HT : Aside0 (BlkL w #[.int .i64 (wi sa), .int .i64 (wi sb), .int .i64 (wi sc), .int .i64 (wi sd), .int .i64 (wi se), .int .i64 (wi sf), .int .i64 (wi sg), .int .i64 (wi sh)] wl nk n3 [p0, p1, p2, p3, p4, p5, p6, p7] wr) := HT; clear hkt hwt hst EK EW; replace E0 := Aside0.mk E0; replace E1 := Aside0.mk E1; replace E2 := Aside0.mk E2; replace E3 := Aside0.mk E3; replace E4 := Aside0.mk E4; replace E5 := Aside0.mk E5; replace E6 := Aside0.mk E6; replace E7 := Aside0.mk E7; replace ET4 := Aside0.mk ET4; replace ET0 := Aside0.mk ET0; replace ER0 := Aside0.mk ER0; replace ER4 := Aside0.mk ER4
              have h0 : wr.cell? ⟨n3, 0, none⟩ = some (.int .i64 e0) := by rw [← E0.out]; exact blk_cell HT.out.2.2.1 0
              have h1 : wr.cell? ⟨n3, 1, none⟩ = some (.int .i64 e1) := by rw [← E1.out]; exact blk_cell HT.out.2.2.1 1
              have h2 : wr.cell? ⟨n3, 2, none⟩ = some (.int .i64 e2) := by rw [← E2.out]; exact blk_cell HT.out.2.2.1 2
              have h3 : wr.cell? ⟨n3, 3, none⟩ = some (.int .i64 e3) := by rw [← E3.out]; exact blk_cell HT.out.2.2.1 3
              have h4 : wr.cell? ⟨n3, 4, none⟩ = some (.int .i64 e4) := by rw [← E4.out]; exact blk_cell HT.out.2.2.1 4
              have h5 : wr.cell? ⟨n3, 5, none⟩ = some (.int .i64 e5) := by rw [← E5.out]; exact blk_cell HT.out.2.2.1 5
              have h6 : wr.cell? ⟨n3, 6, none⟩ = some (.int .i64 e6) := by rw [← E6.out]; exact blk_cell HT.out.2.2.1 6
              have h7 : wr.cell? ⟨n3, 7, none⟩ = some (.int .i64 e7) := by rw [← E7.out]; exact blk_cell HT.out.2.2.1 7
              have hk := HKc.out wr HT.out.2.1; have hw := HWc.out wr HT.out.1.2.2.1; go_wp2; refine start_ (n := 18) (S := fun w' => w'.cell? ⟨n3, 7, none⟩ = some (.int .i64 e7) ∧ w'.cell? ⟨n3, 4, none⟩ = some (.int .i64 e4) ∧ w'.cell? ⟨nk, t, none⟩ = some (.int .i64 kk) ∧ w'.cell? ⟨w.heap.size + 1 + 1, t, none⟩ = some (.int .i64 ww)) (ds := []) #[false, false, false, false, false, false, false, false, false, false, false, false, false, false, false, false, false, false] (by kernel_rfl) rfl rfl ⟨h7, h4, hk, hw⟩ (fun hHeld => ?_); refine pure_ (i := 0) (N := some 120) (v := ?_) (a' := ?_) #[true, false, false, false, false, false, false, false, false, false, false, false, false, false, false, false, false, false] rfl rfl (by kernel_rfl) (fun _ _ _ h => h) (Or.inl ⟨by rfl, ?_⟩) ?_ ?_
              rotate_left
              · intro w'
                go_simp
                with_reducible rfl
              rotate_left
              · simp only [Act.put, List.setIfInBounds_toArray, List.set_cons_zero, List.set_cons_succ]
                rfl
              refine pure_ (i := 2) (N := some 122) (v := ?_) (a' := ?_) #[true, false, true, false, false, false, false, false, false, false, false, false, false, false, false, false, false, false] rfl rfl (by kernel_rfl) (fun _ _ _ h => h) (Or.inl ⟨by rfl, ?_⟩) ?_ ?_
              rotate_left
              · intro w'
                go_simp
                with_reducible rfl
              rotate_left
              · simp only [Act.put, List.setIfInBounds_toArray, List.set_cons_zero, List.set_cons_succ]
                rfl
              refine pure_ (i := 4) (N := some 124) (v := ?_) (a' := ?_) #[true, false, true, false, true, false, false, false, false, false, false, false, false, false, false, false, false, false] rfl rfl (by kernel_rfl) (fun _ _ _ h => h) (Or.inl ⟨by rfl, ?_⟩) ?_ ?_
              rotate_left
              · intro w'
                go_simp
                with_reducible rfl
              rotate_left
              · simp only [Act.put, List.setIfInBounds_toArray, List.set_cons_zero, List.set_cons_succ]
                rfl
              refine pure_ (i := 7) (N := some 127) (v := ?_) (a' := ?_) #[true, false, true, false, true, false, false, true, false, false, false, false, false, false, false, false, false, false] rfl rfl (by kernel_rfl) (fun _ _ _ h => h) (Or.inl ⟨by rfl, ?_⟩) ?_ ?_
              rotate_left
              · intro w'
                go_simp
                with_reducible rfl
              rotate_left
              · simp only [Act.put, List.setIfInBounds_toArray, List.set_cons_zero, List.set_cons_succ]
                rfl
              refine pure_ (i := 9) (N := some 129) (v := ?_) (a' := ?_) #[true, false, true, false, true, false, false, true, false, true, false, false, false, false, false, false, false, false] rfl rfl (by kernel_rfl) (fun _ _ _ h => h) (Or.inl ⟨by rfl, ?_⟩) ?_ ?_
              rotate_left
              · intro w'
                go_simp
                with_reducible rfl
              rotate_left
              · simp only [Act.put, List.setIfInBounds_toArray, List.set_cons_zero, List.set_cons_succ]
                rfl
              refine pure_ (i := 10) (N := some 130) (v := ?_) (a' := ?_) #[true, false, true, false, true, false, false, true, false, true, true, false, false, false, false, false, false, false] rfl rfl (by kernel_rfl) (fun _ _ _ h => h) (Or.inl ⟨by rfl, ?_⟩) ?_ ?_
              rotate_left
              · intro w'
                go_simp
                with_reducible rfl
              rotate_left
              · simp only [Act.put, List.setIfInBounds_toArray, List.set_cons_zero, List.set_cons_succ]
                rfl
              refine pure_ (i := 13) (N := some 133) (v := ?_) (a' := ?_) #[true, false, true, false, true, false, false, true, false, true, true, false, false, true, false, false, false, false] rfl rfl (by kernel_rfl) (fun _ _ _ h => h) (Or.inl ⟨by rfl, ?_⟩) ?_ ?_
              rotate_left
              · intro w'
                go_simp
                with_reducible rfl
              rotate_left
              · simp only [Act.put, List.setIfInBounds_toArray, List.set_cons_zero, List.set_cons_succ]
                rfl
              refine pure_ (i := 14) (N := some 134) (v := ?_) (a' := ?_) #[true, false, true, false, true, false, false, true, false, true, true, false, false, true, true, false, false, false] rfl rfl (by kernel_rfl) (fun _ _ _ h => h) (Or.inl ⟨by rfl, ?_⟩) ?_ ?_
              rotate_left
              · intro w'
                go_simp
                with_reducible rfl
              rotate_left
              · simp only [Act.put, List.setIfInBounds_toArray, List.set_cons_zero, List.set_cons_succ]
                rfl
              refine take_ (i := 1) (N := some 121) (v := ?_) (a' := ?_) #[true, true, true, false, true, false, false, true, false, true, true, false, false, true, true, false, false, false] rfl rfl (by kernel_rfl) (fun _ _ _ h => h) (Or.inl ⟨by rfl, ?_⟩) hHeld ?_ ?_
              rotate_left
              · rintro w' ⟨s0, s1, s2, s3⟩
                go_simp
                with_reducible rfl
              rotate_left
              · simp only [Act.put, List.setIfInBounds_toArray, List.set_cons_zero, List.set_cons_succ]
                rfl
              refine take_ (i := 3) (N := some 123) (v := ?_) (a' := ?_) #[true, true, true, true, true, false, false, true, false, true, true, false, false, true, true, false, false, false] rfl rfl (by kernel_rfl) (fun _ _ _ h => h) (Or.inl ⟨by rfl, ?_⟩) hHeld ?_ ?_
              rotate_left
              · rintro w' ⟨s0, s1, s2, s3⟩
                go_simp
                with_reducible rfl
              rotate_left
              · simp only [Act.put, List.setIfInBounds_toArray, List.set_cons_zero, List.set_cons_succ]
                rfl
              refine take_ (i := 11) (N := some 131) (v := ?_) (a' := ?_) #[true, true, true, true, true, false, false, true, false, true, true, true, false, true, true, false, false, false] rfl rfl (by kernel_rfl) (fun _ _ _ h => h) (Or.inl ⟨by rfl, ?_⟩) hHeld ?_ ?_
              rotate_left
              · rintro w' ⟨s0, s1, s2, s3⟩
                go_simp
                with_reducible rfl
              rotate_left
              · simp only [Act.put, List.setIfInBounds_toArray, List.set_cons_zero, List.set_cons_succ]
                rfl
              refine take_ (i := 15) (N := some 135) (v := ?_) (a' := ?_) #[true, true, true, true, true, false, false, true, false, true, true, true, false, true, true, true, false, false] rfl rfl (by kernel_rfl) (fun _ _ _ h => h) (Or.inl ⟨by rfl, ?_⟩) hHeld ?_ ?_
              rotate_left
              · rintro w' ⟨s0, s1, s2, s3⟩
                go_simp
                with_reducible rfl
              rotate_left
              · simp only [Act.put, List.setIfInBounds_toArray, List.set_cons_zero, List.set_cons_succ]
                rfl
              refine one_ (i := 5) (N := some 125) #[true, true, true, true, true, true, false, true, false, true, true, true, false, true, true, true, false, false] rfl rfl (by kernel_rfl) (by decide) (fun K hK => ?_); refine goes_ Tryd.func55 (by kernel_rfl) rfl #[.int .i64 e4, .agg #[.int .i64 6, .int .i64 11, .int .i64 25], .bool false] (by rfl) rfl rfl (by simp only [List.map_toArray, List.map_cons, List.map_nil]; rfl) ?_
              with_reducible refine (three_v p4 6 11 25 6 11 25 e4 t4 false _ rfl rfl rfl E4.out ET4.out (by decide) (by decide) (by decide)).mono ?_
              rintro e w5 ⟨rfl, hb⟩; refine ⟨_, rfl, ?_⟩; have HT5 : Aside0 (BlkL w #[.int .i64 (wi sa), .int .i64 (wi sb), .int .i64 (wi sc), .int .i64 (wi sd), .int .i64 (wi se), .int .i64 (wi sf), .int .i64 (wi sg), .int .i64 (wi sh)] wl nk n3 [p0, p1, p2, p3, p4, p5, p6, p7] w5) := ⟨(HT.out.below (below_drew (Below.refl _ _))).below hb⟩; clear hb
              have g0 : w5.cell? ⟨n3, 7, none⟩ = some (.int .i64 e7) := by rw [← E7.out]; exact blk_cell HT5.out.2.2.1 7
              have g1 : w5.cell? ⟨n3, 4, none⟩ = some (.int .i64 e4) := by rw [← E4.out]; exact blk_cell HT5.out.2.2.1 4
              have g2 : w5.cell? ⟨nk, t, none⟩ = some (.int .i64 kk) := HKc.out w5 HT5.out.2.1; have g3 : w5.cell? ⟨w.heap.size + 1 + 1, t, none⟩ = some (.int .i64 ww) := HWc.out w5 HT5.out.1.2.2.1; refine hK.out _ _ ⟨g0, g1, g2, g3⟩ (fun hHeld => ?_); clear hK K; refine norm_ (a' := ?_) ?_ ?_
              rotate_left
              · show Act.put _ (some 125) _ = _
                simp only [Act.put, List.setIfInBounds_toArray, List.set_cons_zero, List.set_cons_succ]
                rfl
              refine pure_ (i := 6) (N := some 126) (v := ?_) (a' := ?_) #[true, true, true, true, true, true, true, true, false, true, true, true, false, true, true, true, false, false] rfl rfl (by kernel_rfl) (fun _ _ _ h => h) (Or.inl ⟨by rfl, ?_⟩) ?_ ?_
              rotate_left
              · intro w'
                go_simp
                with_reducible rfl
              rotate_left
              · simp only [Act.put, List.setIfInBounds_toArray, List.set_cons_zero, List.set_cons_succ]
                rfl
              refine pure_ (i := 8) (N := some 128) (v := ?_) (a' := ?_) #[true, true, true, true, true, true, true, true, true, true, true, true, false, true, true, true, false, false] rfl rfl (by kernel_rfl) (fun _ _ _ h => h) (Or.inl ⟨by rfl, ?_⟩) ?_ ?_
              rotate_left
              · intro w'
                go_simp
                with_reducible rfl
              rotate_left
              · simp only [Act.put, List.setIfInBounds_toArray, List.set_cons_zero, List.set_cons_succ]
                rfl
              refine pure_ (i := 12) (N := some 132) (v := ?_) (a' := ?_) #[true, true, true, true, true, true, true, true, true, true, true, true, true, true, true, true, false, false] rfl rfl (by kernel_rfl) (fun _ _ _ h => h) (Or.inl ⟨by rfl, ?_⟩) ?_ ?_
              rotate_left
              · intro w'
                go_simp
                with_reducible rfl
              rotate_left
              · simp only [Act.put, List.setIfInBounds_toArray, List.set_cons_zero, List.set_cons_succ]
                rfl
              refine pure_ (i := 16) (N := some 136) (v := ?_) (a' := ?_) #[true, true, true, true, true, true, true, true, true, true, true, true, true, true, true, true, true, false] rfl rfl (by kernel_rfl) (fun _ _ _ h => h) (Or.inl ⟨by rfl, ?_⟩) ?_ ?_
              rotate_left
              · intro w'
                go_simp
                with_reducible rfl
              rotate_left
              · simp only [Act.put, List.setIfInBounds_toArray, List.set_cons_zero, List.set_cons_succ]
                rfl
              refine pure_ (i := 17) (N := some 13) (v := ?_) (a' := ?_) #[true, true, true, true, true, true, true, true, true, true, true, true, true, true, true, true, true, true] rfl rfl (by kernel_rfl) (fun _ _ _ h => h) (Or.inl ⟨by rfl, ?_⟩) ?_ ?_
              rotate_left
              · intro w'
                go_simp
                with_reducible rfl
              rotate_left
              · simp only [Act.put, List.setIfInBounds_toArray, List.set_cons_zero, List.set_cons_succ]
                rfl
              refine done_ (by kernel_rfl) ?_; clear hHeld h0 h1 h2 h3 h4 h5 h6 h7 hk hw g0 g1 g2 g3 HT
              have h0 : w5.cell? ⟨n3, 0, none⟩ = some (.int .i64 e0) := by rw [← E0.out]; exact blk_cell HT5.out.2.2.1 0
              have h1 : w5.cell? ⟨n3, 1, none⟩ = some (.int .i64 e1) := by rw [← E1.out]; exact blk_cell HT5.out.2.2.1 1
              have h2 : w5.cell? ⟨n3, 2, none⟩ = some (.int .i64 e2) := by rw [← E2.out]; exact blk_cell HT5.out.2.2.1 2
              have h3 : w5.cell? ⟨n3, 3, none⟩ = some (.int .i64 e3) := by rw [← E3.out]; exact blk_cell HT5.out.2.2.1 3
              have h4 : w5.cell? ⟨n3, 4, none⟩ = some (.int .i64 e4) := by rw [← E4.out]; exact blk_cell HT5.out.2.2.1 4
              have h5 : w5.cell? ⟨n3, 5, none⟩ = some (.int .i64 e5) := by rw [← E5.out]; exact blk_cell HT5.out.2.2.1 5
              have h6 : w5.cell? ⟨n3, 6, none⟩ = some (.int .i64 e6) := by rw [← E6.out]; exact blk_cell HT5.out.2.2.1 6
              have h7 : w5.cell? ⟨n3, 7, none⟩ = some (.int .i64 e7) := by rw [← E7.out]; exact blk_cell HT5.out.2.2.1 7
              go_wp2_with (fail); refine (three_v p0 2 13 22 2 13 22 e0 t0 false _ rfl rfl rfl E0.out ET0.out (by decide) (by decide) (by decide)).mono ?_; rintro e w6 ⟨rfl, hb⟩; have HT6 : Aside0 (BlkL w #[.int .i64 (wi sa), .int .i64 (wi sb), .int .i64 (wi sc), .int .i64 (wi sd), .int .i64 (wi se), .int .i64 (wi sf), .int .i64 (wi sg), .int .i64 (wi sh)] wl nk n3 [p0, p1, p2, p3, p4, p5, p6, p7] w6) := ⟨HT5.out.below hb⟩; clear hb h0 h1 h2 h3 h4 h5 h6 h7 HT5
              have h0 : w6.cell? ⟨n3, 0, none⟩ = some (.int .i64 e0) := by rw [← E0.out]; exact blk_cell HT6.out.2.2.1 0
              have h1 : w6.cell? ⟨n3, 1, none⟩ = some (.int .i64 e1) := by rw [← E1.out]; exact blk_cell HT6.out.2.2.1 1
              have h2 : w6.cell? ⟨n3, 2, none⟩ = some (.int .i64 e2) := by rw [← E2.out]; exact blk_cell HT6.out.2.2.1 2
              have h3 : w6.cell? ⟨n3, 3, none⟩ = some (.int .i64 e3) := by rw [← E3.out]; exact blk_cell HT6.out.2.2.1 3
              have h4 : w6.cell? ⟨n3, 4, none⟩ = some (.int .i64 e4) := by rw [← E4.out]; exact blk_cell HT6.out.2.2.1 4
              have h5 : w6.cell? ⟨n3, 5, none⟩ = some (.int .i64 e5) := by rw [← E5.out]; exact blk_cell HT6.out.2.2.1 5
              have h6 : w6.cell? ⟨n3, 6, none⟩ = some (.int .i64 e6) := by rw [← E6.out]; exact blk_cell HT6.out.2.2.1 6
              have h7 : w6.cell? ⟨n3, 7, none⟩ = some (.int .i64 e7) := by rw [← E7.out]; exact blk_cell HT6.out.2.2.1 7
              have f0 : w6.frozen? ⟨n3, 0, none⟩ = false := blk_frozen HT6.out.2.2.1 0; have f1 : w6.frozen? ⟨n3, 1, none⟩ = false := blk_frozen HT6.out.2.2.1 1; have f2 : w6.frozen? ⟨n3, 2, none⟩ = false := blk_frozen HT6.out.2.2.1 2; have f3 : w6.frozen? ⟨n3, 3, none⟩ = false := blk_frozen HT6.out.2.2.1 3; have f4 : w6.frozen? ⟨n3, 4, none⟩ = false := blk_frozen HT6.out.2.2.1 4; have f5 : w6.frozen? ⟨n3, 5, none⟩ = false := blk_frozen HT6.out.2.2.1 5; have f6 : w6.frozen? ⟨n3, 6, none⟩ = false := blk_frozen HT6.out.2.2.1 6; have f7 : w6.frozen? ⟨n3, 7, none⟩ = false := blk_frozen HT6.out.2.2.1 7; go_wp2; go_roundw
              case measure => simp [intOf]; omega
              case rel => exact ⟨t + 1, by omega, by go_num, ⟨by rw [HN.out]; have := HT6.out.set8 rfl (rnd ⟨p0, p1, p2, p3, p4, p5, p6, p7⟩ kt wt); obtain rfl := E0.out; obtain rfl := E1.out; obtain rfl := E2.out; obtain rfl := E3.out; obtain rfl := E4.out; obtain rfl := E5.out; obtain rfl := E6.out; obtain rfl := E7.out; obtain rfl := ER0.out; obtain rfl := ER4.out; exact this⟩⟩
            · obtain rfl : t = 64 := by omega
              clear hlt ht; have HV : Aside0 (turnV ⟨sa, sb, sc, sd, se, sf, sg, sh⟩ b = (rs ⟨sa, sb, sc, sd, se, sf, sg, sh⟩ wl 64).add ⟨sa, sb, sc, sd, se, sf, sg, sh⟩) := ⟨by rw [HWl.out]; rfl⟩; generalize rs ⟨sa, sb, sc, sd, se, sf, sg, sh⟩ wl 64 = st at *; go_wp2
              go_loopw [15] (fun v15 wr' => ∃ i : Nat, i ≤ 8 ∧ v15 = .int .i64 i ∧ Aside0 (BlkL w #[.int .i64 (wi sa), .int .i64 (wi sb), .int .i64 (wi sc), .int .i64 (wi sd), .int .i64 (wi se), .int .i64 (wi sf), .int .i64 (wi sg), .int .i64 (wi sh)] wl nk n3 (mix st.l [sa, sb, sc, sd, se, sf, sg, sh] i) wr')) (fun v15 _ => 8 - (intOf v15).toNat)
              case atStart => exact ⟨0, Nat.zero_le _, rfl, HT⟩
              case round =>
                clear HT; obtain ⟨i, hi, rfl, HT⟩ := hrel
                by_cases hlt : i < 8
                · have hltI : (i : Int) < 8 := by omega
                  have HS2 := Aside0.mk (mix_set st.l [sa, sb, sc, sd, se, sf, sg, sh] i hlt)
                  have h1 : wr.cell? ⟨n3, i, none⟩ = some (.int .i64 (wi (st.l.getD i 0))) := by rw [blk_cell HT.out.2.2.1 i, nArr_get _ _ (by rw [mix_length]; exact hlt), mix_at _ _ _ _ hlt, if_neg (Nat.lt_irrefl _)]
                  have h2 : wr.cell? ⟨w.heap.size, i, none⟩ = some (.int .i64 (wi ([sa, sb, sc, sd, se, sf, sg, sh].getD i 0))) := by rw [blk_cell HT.out.1.1 i]; exact nArr_get [sa, sb, sc, sd, se, sf, sg, sh] i hlt
                  generalize st.l.getD i 0 = x at *; generalize [sa, sb, sc, sd, se, sf, sg, sh].getD i 0 = y at *
                  obtain ⟨ex, ey, z, r, ax, ay, az, am, am', a0, ar⟩ : ∃ ex ey z r : Int, wi x = ex ∧ wi y = ey ∧ IntKind.i64.wrap (ex + ey) = z ∧ Int.tmod z 4294967296 = r ∧ z % 4294967296 = r ∧ 0 ≤ z ∧ r = wi (x + y) := by
                    have q1 := wi_range x; have q2 := wi_range y; exact ⟨_, _, _, _, rfl, rfl, i64_small _ (by omega) (by omega), Int.tmod_eq_emod_of_nonneg (by omega), rfl, by omega, (wi_add x y).symm⟩
                  rw [ax] at h1; rw [ay] at h2; have AR := Aside0.mk ar; clear ax ay ar; go_wp2; refine wp_region_quiet_store 10 (by kernel_rfl) rfl rfl (by kernel_rfl) ?_; simp only [List.take_succ_cons, List.take_zero, List.cons_append, List.nil_append]
                  repeat (go_big_quiet_step (fail))
                  refine wpQuiet_nil ?_; rintro w2 ⟨nq2, rfl⟩; have HW2 : Aside0 _ := ⟨HT.out.below (pw_below_drewN (Below.refl _ _) nq2)⟩; clear h1 h2 HT az am am' a0; have hfz2 : (wr.drewN nq2).frozen? ⟨n3, i, none⟩ = false := blk_frozen HW2.out.2.2.1 i; have hst2 : ∃ v, (wr.drewN nq2).cell? ⟨n3, i, none⟩ = some v := ⟨_, (blk_cell HW2.out.2.2.1 i).trans (nArr_get _ _ (by rw [mix_length]; exact hlt))⟩; obtain ⟨v2, hst2⟩ := hst2; generalize wr.drewN nq2 = w2 at *; go_wp2; go_roundw
                  case measure => simp [intOf]; omega
                  case rel => exact ⟨i + 1, by omega, by go_num, ⟨by rw [← HS2.out]; have := HW2.out.set i (x + y); rw [← AR.out] at this; exact this⟩⟩
                · obtain rfl : i = 8 := by omega
                  rw [show mix st.l [sa, sb, sc, sd, se, sf, sg, sh] 8 = (st.add ⟨sa, sb, sc, sd, se, sf, sg, sh⟩).l from mix_end st ⟨sa, sb, sc, sd, se, sf, sg, sh⟩] at HT; generalize st.add ⟨sa, sb, sc, sd, se, sf, sg, sh⟩ = r at *; obtain ⟨p0, p1, p2, p3, p4, p5, p6, p7⟩ := r; clear hlt hi; have h0 : wr.cell? ⟨n3, 0, none⟩ = some (.int .i64 (wi p0)) := blk_cell HT.out.2.2.1 0; have g0 : wr.cell? ⟨w.heap.size + 1, 0, none⟩ = some (.int .i64 (wi 0)) := blk_cell HT.out.1.2.1 0; have f0 : wr.frozen? ⟨w.heap.size + 1, 0, none⟩ = false := blk_frozen HT.out.1.2.1 0; have h1 : wr.cell? ⟨n3, 1, none⟩ = some (.int .i64 (wi p1)) := blk_cell HT.out.2.2.1 1; have g1 : wr.cell? ⟨w.heap.size + 1, 1, none⟩ = some (.int .i64 (wi 0)) := blk_cell HT.out.1.2.1 1; have f1 : wr.frozen? ⟨w.heap.size + 1, 1, none⟩ = false := blk_frozen HT.out.1.2.1 1; have h2 : wr.cell? ⟨n3, 2, none⟩ = some (.int .i64 (wi p2)) := blk_cell HT.out.2.2.1 2; have g2 : wr.cell? ⟨w.heap.size + 1, 2, none⟩ = some (.int .i64 (wi 0)) := blk_cell HT.out.1.2.1 2; have f2 : wr.frozen? ⟨w.heap.size + 1, 2, none⟩ = false := blk_frozen HT.out.1.2.1 2; have h3 : wr.cell? ⟨n3, 3, none⟩ = some (.int .i64 (wi p3)) := blk_cell HT.out.2.2.1 3; have g3 : wr.cell? ⟨w.heap.size + 1, 3, none⟩ = some (.int .i64 (wi 0)) := blk_cell HT.out.1.2.1 3; have f3 : wr.frozen? ⟨w.heap.size + 1, 3, none⟩ = false := blk_frozen HT.out.1.2.1 3; have h4 : wr.cell? ⟨n3, 4, none⟩ = some (.int .i64 (wi p4)) := blk_cell HT.out.2.2.1 4; have g4 : wr.cell? ⟨w.heap.size + 1, 4, none⟩ = some (.int .i64 (wi 0)) := blk_cell HT.out.1.2.1 4; have f4 : wr.frozen? ⟨w.heap.size + 1, 4, none⟩ = false := blk_frozen HT.out.1.2.1 4; have h5 : wr.cell? ⟨n3, 5, none⟩ = some (.int .i64 (wi p5)) := blk_cell HT.out.2.2.1 5; have g5 : wr.cell? ⟨w.heap.size + 1, 5, none⟩ = some (.int .i64 (wi 0)) := blk_cell HT.out.1.2.1 5; have f5 : wr.frozen? ⟨w.heap.size + 1, 5, none⟩ = false := blk_frozen HT.out.1.2.1 5; have h6 : wr.cell? ⟨n3, 6, none⟩ = some (.int .i64 (wi p6)) := blk_cell HT.out.2.2.1 6; have g6 : wr.cell? ⟨w.heap.size + 1, 6, none⟩ = some (.int .i64 (wi 0)) := blk_cell HT.out.1.2.1 6; have f6 : wr.frozen? ⟨w.heap.size + 1, 6, none⟩ = false := blk_frozen HT.out.1.2.1 6; have h7 : wr.cell? ⟨n3, 7, none⟩ = some (.int .i64 (wi p7)) := blk_cell HT.out.2.2.1 7; have g7 : wr.cell? ⟨w.heap.size + 1, 7, none⟩ = some (.int .i64 (wi 0)) := blk_cell HT.out.1.2.1 7; have f7 : wr.frozen? ⟨w.heap.size + 1, 7, none⟩ = false := blk_frozen HT.out.1.2.1 7; have HO := Aside0.mk (HT.out.out8 ⟨p0, p1, p2, p3, p4, p5, p6, p7⟩); go_wp2; exact bodyPost_ret (results_cell_row Tryd.results42 _ _ (w.heap.size + 1) 72 _ (0, 0) _ rfl HO.out.1 Tryd.underlying72 rfl (show (Tryd.prog.info? 72).map (·.size) = some 8 from by kernel_rfl)) rfl ⟨by rw [HV.out], HO.out.2⟩
end Go.Proofs.YtdmeocoehahopaaDoor.Sha
