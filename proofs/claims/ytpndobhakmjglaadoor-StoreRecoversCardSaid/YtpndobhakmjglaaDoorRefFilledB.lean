/- The reference's filled: bytes, filled up. -/
import Derived.Test.YtpndobhakmjglaaDoorRefPureB
namespace Go.Proofs.YtpndobhakmjglaaDoor.Sha
open Go.RowKit Go.Proofs.YtpndobhakmjglaaDoorW.PrintWords Go.Proofs.YtpndobhakmjglaaDoorW.PrintLast Go.Proofs.YtpndobhakmjglaaDoorW.PrintMore Go.Proofs.YtpndobhakmjglaaDoor.K Go.Proofs.YtpndobhakmjglaaDoor.PRefCut
set_option linter.unusedVariables false
set_option maxRecDepth 100000
theorem pow0 (k : Nat) : cupelref01_Power.f (k + 60) 0 = some 1 := by kernel_rfl
theorem pow8 (k : Nat) : cupelref01_Power.f (k + 60) 8 = some 256 := by kernel_rfl
theorem pow16 (k : Nat) : cupelref01_Power.f (k + 60) 16 = some 65536 := by kernel_rfl
theorem pow24 (k : Nat) : cupelref01_Power.f (k + 60) 24 = some 16777216 := by kernel_rfl
theorem pow32 (k : Nat) : cupelref01_Power.f (k + 60) 32 = some 4294967296 := by kernel_rfl
theorem pow40 (k : Nat) : cupelref01_Power.f (k + 60) 40 = some 1099511627776 := by kernel_rfl
theorem pow48 (k : Nat) : cupelref01_Power.f (k + 60) 48 = some 281474976710656 := by kernel_rfl
theorem pow56 (k : Nat) : cupelref01_Power.f (k + 60) 56 = some 72057594037927936 := by kernel_rfl
theorem l1_step (k : Nat) (x : List Int) (m i e p : Int) (hm : 0 ≤ m) (hm2 : m < 1000000000) (hi : 0 ≤ i) (hi2 : i < 8) (hx : x.length < 100000) (he : 8 * i = e) (hp : cupelref01_Power.f k e = some p) (hp0 : 0 < p) :
    cupelref01_filled.l1 (k + 1) x m i = cupelref01_filled.l1 k (x ++ [m / p % 256]) m (i - 1) := by
  have hq : 0 ≤ m / p := Int.ediv_nonneg hm (by omega)
  have hq2 : m / p ≤ m := Int.ediv_le_self _ hm
  rw [cupelref01_filled.l1, if_pos hi, w64_in (8 * i) (by omega) (by omega), he, hp, Option.bind_some, if_neg (by omega), if_pos (by omega), w64_in (i - 1) (by omega) (by omega), Int.tdiv_eq_ediv_of_nonneg hm, w64_in (m / p) (by omega) (by omega), Int.tmod_eq_emod_of_nonneg hq, Int.emod_emod_of_dvd _ (Int.dvd_refl 256)]
theorem l1_all (k : Nat) (x : List Int) (m : Int) (hm : 0 ≤ m) (hm2 : m < 1000000000) (hx : x.length < 90000) : cupelref01_filled.l1 (k + 69) x m 7 = some (x ++ be8 m) := by
  rw [l1_step (k + 68) x m 7 56 _ hm hm2 (by decide) (by decide) (by omega) rfl (pow56 (k + 8)) (by decide),
    l1_step (k + 67) _ m (7 - 1) 48 _ hm hm2 (by decide) (by decide) (by simp; omega) rfl (pow48 (k + 7)) (by decide),
    l1_step (k + 66) _ m (7 - 1 - 1) 40 _ hm hm2 (by decide) (by decide) (by simp; omega) rfl (pow40 (k + 6)) (by decide),
    l1_step (k + 65) _ m (7 - 1 - 1 - 1) 32 _ hm hm2 (by decide) (by decide) (by simp; omega) rfl (pow32 (k + 5)) (by decide),
    l1_step (k + 64) _ m (7 - 1 - 1 - 1 - 1) 24 _ hm hm2 (by decide) (by decide) (by simp; omega) rfl (pow24 (k + 4)) (by decide),
    l1_step (k + 63) _ m (7 - 1 - 1 - 1 - 1 - 1) 16 _ hm hm2 (by decide) (by decide) (by simp; omega) rfl (pow16 (k + 3)) (by decide),
    l1_step (k + 62) _ m (7 - 1 - 1 - 1 - 1 - 1 - 1) 8 _ hm hm2 (by decide) (by decide) (by simp; omega) rfl (pow8 (k + 2)) (by decide),
    l1_step (k + 61) _ m (7 - 1 - 1 - 1 - 1 - 1 - 1 - 1) 0 _ hm hm2 (by decide) (by decide) (by simp; omega) rfl (pow0 (k + 1)) (by decide),
    show k + 61 = (k + 60) + 1 from rfl, cupelref01_filled.l1, if_neg (by decide)]
  simp [be8]
theorem l0_all (K : Nat) (l : List Int) : ∀ (d : Nat) (x : List Int), (x.length + d) % 64 = 56 → (∀ j, j < d → (x.length + j) % 64 ≠ 56) → x.length + d < 90000 →
    cupelref01_filled.l0 (d + 1 + K) l x = cupelref01_filled.l1 K (x ++ List.replicate d 0) (wrap64 (8 * (l.length : Int))) 7
  | 0, x, h, _, _ => by
    rw [show 0 + 1 + K = K + 1 by omega, cupelref01_filled.l0, if_pos (by omega)]
    simp
  | d + 1, x, h, hj, hx => by
    have h0 := hj 0 (by omega)
    rw [show d + 1 + 1 + K = (d + 1 + K) + 1 by omega, cupelref01_filled.l0, if_neg (by omega), if_pos (by omega), l0_all K l d (x ++ [0]) (by rw [List.length_append]; simp; omega) (fun j hjd => by have := hj (j + 1) (by omega); rw [List.length_append]; simp; omega) (by rw [List.length_append]; simp; omega), List.append_assoc]
    rfl
def filledV (l : List Int) : List Int := l ++ (tail1 l.length ++ be8 (8 * (l.length : Int)))
theorem filled_f (l : List Int) (h : l.length ≤ 1000) : cupelref01_filled.f 200 l = some (filledV l) := by
  obtain ⟨d, hd⟩ : ∃ d, d = (119 - l.length % 64) % 64 := ⟨_, rfl⟩
  have hd64 : d < 64 := by omega
  rw [cupelref01_filled.f, if_pos (by simp; omega), Option.bind_some, if_pos (by simp; omega), List.nil_append]
  have h1 := l0_all (199 - d) l d (l ++ [128]) (by simp; omega) (fun j hj => by simp; omega) (by simp; omega)
  rw [show d + 1 + (199 - d) = 200 by omega] at h1
  rw [h1, w64_in _ (by omega) (by omega), show 199 - d = (130 - d) + 69 by omega, l1_all _ _ _ (by omega) (by omega) (by simp; omega)]
  simp only [filledV, tail1, ← hd, List.append_assoc, List.cons_append, List.nil_append]
theorem filledV_length (l : List Int) : (filledV l).length % 64 = 0 ∧ (filledV l).length ≤ l.length + 73 := by
  simp only [filledV, tail1, be8, List.length_append, List.length_cons, List.length_replicate, List.length_nil]
  omega
theorem filledV_byte (l : List Int) (h : ∀ x ∈ l, 0 ≤ x ∧ x < 256) : ∀ x ∈ filledV l, 0 ≤ x ∧ x < 256 := by
  intro x hx
  rcases List.mem_append.1 hx with hx | hx
  · exact h x hx
  · rcases List.mem_append.1 hx with hx | hx
    · rcases List.mem_cons.1 hx with rfl | hx
      · decide
      · rw [List.eq_of_mem_replicate hx]; decide
    · simp only [be8, List.mem_cons, List.not_mem_nil, or_false] at hx
      rcases hx with rfl | rfl | rfl | rfl | rfl | rfl | rfl | rfl <;> omega
theorem filledV_sha (l : List Int) : digL (absorb init (filledV l)).1 = shaV l := rfl
end Go.Proofs.YtpndobhakmjglaaDoor.Sha
