/- Texts put together: FixedR, RCheckD, RMix, RSoft7, TensorShares, RMul, RTurn, AngP, FixedAM. -/
import Derived.Test.YtfameghednapkaaDoorBunT3
set_option linter.unusedVariables false
set_option linter.unusedSimpArgs false
namespace Go.Proofs.YtfameghednapkaaDoor.Fixed
open Go.RowKit Go.Proofs.YtfameghednapkaaDoorW.PrintWords Go.Proofs.YtfameghednapkaaDoorW.PrintLast Go.Proofs.YtfameghednapkaaDoorW.PrintMore Go.Proofs.YtfameghednapkaaDoor.K
set_option linter.unusedVariables false
theorem fdiv_tR (n b : Int) (hb : b ≠ 0) : Int.fdiv n b = if Int.tmod n b ≠ 0 ∧ decide (n < 0) ≠ decide (b < 0) then Int.tdiv n b - 1 else Int.tdiv n b := by
  rw [Int.fdiv_eq_tdiv]
  by_cases h : b ∣ n
  · have h0 : Int.tmod n b = 0 := Int.tmod_eq_zero_of_dvd h
    rw [if_pos h, if_neg (by simp [h0])]
    omega
  · have h0 : Int.tmod n b ≠ 0 := fun e => h (Int.dvd_of_tmod_eq_zero e)
    rw [if_neg h]
    rcases Int.lt_or_le n 0 with hn | hn <;> rcases Int.lt_or_le b 0 with h2 | h2
    · rw [Int.sign_eq_neg_one_of_neg h2, if_neg (by omega), if_neg (by omega), if_neg (by simp; omega)]
      omega
    · rw [Int.sign_eq_one_of_pos (by omega), if_neg (by omega), if_pos h2, if_pos ⟨h0, by simp; omega⟩]
    · rw [if_pos hn, if_neg (by omega), if_pos ⟨h0, by simp; omega⟩]
    · rw [if_pos hn, if_pos h2, if_neg (by simp; omega)]
      omega
theorem tdiv_boundR (n b : Int) : (Int.tdiv n b).natAbs ≤ n.natAbs := by
  rw [Int.natAbs_tdiv]
  exact Nat.div_le_self _ _
theorem Is_calls (n : Int) (w : World) (b : Bool) (hb : inR n = b) :
    Calls Tryd.prog 39 #[.int .i64 n] w fun e w' => e = .returned (.bool b) ∧ w = w' := by
  subst hb
  rcases Int.lt_or_le n (-2147483648) with h1 | h1
  · have HV := Aside0.mk (show inR n = false by unfold inR; simp; omega)
    rw [HV.out]
    have h1D : decide (-2147483648 ≤ n) = false := by simp; omega
    go_enter Tryd.func39, Tryd.ntmps39
    go_wp2
    go_ret
    exact ⟨rfl, rfl⟩
  · have HV := Aside0.mk (show inR n = decide (n ≤ 2147483647) by unfold inR; simp [h1])
    rw [HV.out]
    have h1D : decide (-2147483648 ≤ n) = true := by simp; omega
    go_enter Tryd.func39, Tryd.ntmps39
    go_wp2
    go_ret
    exact ⟨rfl, rfl⟩
theorem floor_t (n d : Int) (hd : 0 < d) : n / d = if Int.tmod n d < 0 then Int.tdiv n d - 1 else Int.tdiv n d := by
  rw [← Int.fdiv_eq_ediv_of_nonneg n (Int.le_of_lt hd), fdiv_tR n d (by omega)]
  rcases Int.lt_or_le n 0 with hn | hn
  · have h2 : Int.tmod n d ≤ 0 := by
      have h3 := Int.tmod_nonneg d (show 0 ≤ -n by omega)
      rw [Int.neg_tmod] at h3
      omega
    by_cases h : Int.tmod n d = 0
    · rw [if_neg (by simp [h]), if_neg (by omega)]
    · rw [if_pos ⟨h, by simp; omega⟩, if_pos (by omega)]
  · have h2 : 0 ≤ Int.tmod n d := Int.tmod_nonneg _ hn
    rw [if_neg (by simp; omega), if_neg (by omega)]
set_option maxHeartbeats 1000000 in
theorem Floor_calls (n d : Int) (w : World) (hd : 0 < d) (hd2 : d ≤ 9223372036854775807) (h1 : -9223372036854775000 ≤ n) (h2 : n ≤ 9223372036854775000) (r : Int) (hr : n / d = r) :
    Calls Tryd.prog 65 #[.int .i64 n, .int .i64 d] w fun e w' => e = .returned (.int .i64 r) ∧ w = w' := by
  subst hr
  rw [floor_t n d hd]
  have hz : ¬ (d = 0) := by omega
  have hqb := tdiv_boundR n d
  generalize hq : Int.tdiv n d = q at *
  generalize hmm : Int.tmod n d = m at *
  have hq1 : -9223372036854775000 ≤ q := by omega
  have hq2 : q ≤ 9223372036854775000 := by omega
  clear hqb
  by_cases hneg : m < 0
  · rw [if_pos hneg]
    have hnD : decide (m < 0) = true := by simpa using hneg
    go_enter Tryd.func65, Tryd.ntmps65
    go_wp2
    go_ret
    exact ⟨rfl, rfl⟩
  · rw [if_neg hneg]
    have hnD : decide (m < 0) = false := by simpa using hneg
    go_enter Tryd.func65, Tryd.ntmps65
    go_wp2
    go_ret
    exact ⟨rfl, rfl⟩
def roundV (n : Int) : Int := (n + 32768) / 65536
theorem prodV_round (a b : Int) : prodV a b = roundV (a * b) := rfl
theorem Round_calls (n : Int) (w : World) (h1 : -9223372036854700000 ≤ n) (h2 : n ≤ 9223372036854700000) (r : Int) (hr : roundV n = r) :
    Calls Tryd.prog 41 #[.int .i64 n] w fun e w' => e = .returned (.int .i64 r) ∧ w = w' := by
  have HR := Aside0.mk hr
  clear hr
  go_enter Tryd.func41, Tryd.ntmps41
  go_wp2_with (go_at_call 65; refine (Floor_calls (n + 32768) 65536 _ (by decide) (by decide) (by omega) (by omega) r HR.out).mono ?_; rintro e w' ⟨rfl, rfl⟩)
  go_ret
  exact ⟨rfl, rfl⟩
theorem bit_step (m j : Nat) : m % 2 ^ (j + 1) = m % 2 ^ j + 2 ^ j * (m / 2 ^ j % 2) := by rw [Nat.pow_succ, Nat.mod_mul]
set_option maxHeartbeats 2000000 in
set_option maxRecDepth 100000 in
theorem rExp_calls (n : Int) (w : World) (hn : n ≤ 0) (h9 : -9223372036854775808 ≤ n) :
    Calls Tryd.prog 50 #[.int .i64 n] w fun e w' => e = .returned (.int .i64 (expV n)) ∧ Below w.heap.size w w' := by
  by_cases hs : n ≤ -1048576
  · have HV := Aside0.mk (show expV n = 0 from if_pos hs)
    rw [HV.out]
    have hnD2 : decide (n ≤ -1048576) = true := by simp; omega
    go_enter Tryd.func50, Tryd.ntmps50
    go_wp2
    go_ret
    exact ⟨rfl, Below.refl _ _⟩
  · have HV := Aside0.mk (show expV n = expF (-n) 20 from if_neg hs)
    rw [HV.out]
    clear HV
    obtain ⟨m, hm⟩ : ∃ m : Nat, -n = (m : Int) := ⟨(-n).toNat, by omega⟩
    rw [hm]
    have hnD2 : decide (n ≤ -1048576) = false := by simp; omega
    have hm1 : m < 1048576 := by omega
    go_enter Tryd.func50, Tryd.ntmps50
    go_wp2
    go_loopw [4, 5, 6, 7] (fun v4 v5 v6 v7 wr => ∃ k : Nat, k ≤ 20 ∧ v7 = .int .i64 k ∧ v4 = .int .i64 (expF m k) ∧ v5 = .int .i64 (m % 2 ^ (20 - k) : Nat) ∧ v6 = .int .i64 (2 ^ (20 - k) / 2 : Nat) ∧ wr = w.alloc (.cells (nums .i64 stepsL).toArray 3)) (fun _ _ _ v7 _ => 20 - (intOf v7).toNat)
    case atStart => exact ⟨0, Nat.zero_le _, rfl, rfl, by rw [Nat.mod_eq_of_lt (by omega)], rfl, rfl⟩
    case round =>
      obtain ⟨k, hk, rfl, rfl, rfl, rfl, rfl⟩ := hrel
      by_cases hlt : k < 20
      · obtain ⟨j, hj⟩ : ∃ j, 19 - k = j := ⟨_, rfl⟩
        have HJ := Aside0.mk (show 20 - k = j + 1 by omega)
        have HJ2 := Aside0.mk (show 20 - (k + 1) = j by omega)
        have HJ3 := Aside0.mk hj
        rw [HJ.out]
        clear hj
        obtain ⟨P, hP⟩ : ∃ P, 2 ^ j = P := ⟨_, rfl⟩
        have hP0 : 0 < P := by rw [← hP]; exact Nat.pow_pos (by decide)
        have hP1 : P ≤ 524288 := by rw [← hP]; exact Nat.le_trans (Nat.pow_le_pow_right (n := 2) (by decide) (show j ≤ 19 by have := HJ3.out; omega)) (by decide)
        have hbs := bit_step m j
        have hhalf : 2 ^ (j + 1) / 2 = P := by rw [Nat.pow_succ, hP]; omega
        rw [hhalf]
        rw [hP] at hbs
        have HSt := Aside0.mk (show expF m (k + 1) = expStep m k (expF m k) from rfl)
        have HBt := Aside0.mk (show (m : Int) / 2 ^ (19 - k) % 2 = ((m / P % 2 : Nat) : Int) by rw [HJ3.out, ← hP]; simp)
        have HPo := Aside0.mk hP
        have HE := Aside0.mk (expF_bound m k)
        have HSb := Aside0.mk (steps_bound k)
        have hr0 : m % P < P := Nat.mod_lt _ hP0
        obtain ⟨r1, hr1⟩ : ∃ r1, m % 2 ^ (j + 1) = r1 := ⟨_, rfl⟩
        rw [hr1] at hbs ⊢
        clear hr1 hP hhalf
        rcases Nat.mod_two_eq_zero_or_one (m / P) with hb | hb
        · have HN2 := Aside0.mk (show expF m (k + 1) = expF m k by rw [HSt.out, expStep, if_pos (by rw [HBt.out, hb]; rfl)])
          rw [hb, Nat.mul_zero, Nat.add_zero] at hbs
          have HR1 := Aside0.mk hbs
          have hgD : decide (P ≤ r1) = false := by simp; omega
          clear hbs hb HSt HBt
          generalize expF m k = out at *
          go_wp2
          go_roundw
          case measure => simp [intOf]; omega
          case rel => exact ⟨k + 1, by omega, by go_num, by rw [HN2.out], by rw [HJ2.out, HPo.out, HR1.out], by rw [HJ2.out, HPo.out]; go_num, trivial⟩
        · have HN2 := Aside0.mk (show expF m (k + 1) = prodV (expF m k) (stepsL.getD k 0) by rw [HSt.out, expStep, if_neg (by rw [HBt.out, hb]; decide)])
          rw [hb, Nat.mul_one] at hbs
          have HR1 := Aside0.mk hbs
          have hgD : decide (P ≤ r1) = true := by simp; omega
          have hPr1 : P ≤ r1 := by omega
          have hr12 : r1 < 2097152 := by omega
          have hrs : (r1 : Int) - (P : Int) = ((m % P : Nat) : Int) := by omega
          have hx : (w.alloc (.cells (nums .i64 stepsL).toArray 3)).cell? ⟨w.heap.size, k, none⟩ = some (.int .i64 (stepsL.getD k 0)) := by
            have h := (reads_lit w .i64 3 stepsL (by decide)).2.2 (by decide)
            obtain ⟨ad, e, h2⟩ := h
            cases e
            have h3 := h2 k hlt
            rwa [add_plain] at h3
          clear hbs hb HSt HBt
          have HP := Aside0.mk (prod_small HE.out HSb.out)
          generalize expF m k = out at *
          generalize stepsL.getD k 0 = sk at *
          obtain ⟨r0, hr0e⟩ : ∃ r0, m % P = r0 := ⟨_, rfl⟩
          have HR0 := Aside0.mk hr0e
          rw [hr0e] at HR1 hrs hr0
          clear hr0e
          obtain ⟨pr, hpr⟩ : ∃ pr, out * sk = pr := ⟨_, rfl⟩
          have HPr := Aside0.mk hpr
          have hp0 : 0 ≤ pr := by rw [← hpr]; exact HP.out.1
          have hp1 : pr ≤ 65536 * 65535 := by rw [← hpr]; exact HP.out.2
          go_wp2_with (go_at_call 41; refine (Round_calls pr _ (by omega) (by omega) (roundV pr) rfl).mono ?_; rintro e w' ⟨rfl, rfl⟩)
          go_roundw
          case measure => simp [intOf]; omega
          case rel => exact ⟨k + 1, by omega, by go_num, by rw [HN2.out, prodV_round, HPr.out], by rw [HJ2.out, HPo.out, HR0.out], by rw [HJ2.out, HPo.out]; go_num, trivial⟩
      · obtain rfl : k = 20 := by omega
        go_wp2
        go_ret
        exact ⟨rfl, bel_alloc (Below.refl _ _) _⟩
end Go.Proofs.YtfameghednapkaaDoor.Fixed
namespace Go.Proofs.YtfameghednapkaaDoor.Ten
open Go.RowKit Go.Proofs.YtfameghednapkaaDoorW.PrintWords Go.Proofs.YtfameghednapkaaDoorW.PrintLast Go.Proofs.YtfameghednapkaaDoorW.PrintMore Go.Proofs.YtfameghednapkaaDoor.K Go.Proofs.YtfameghednapkaaDoor.Fixed
set_option linter.unusedVariables false
set_option linter.unusedSimpArgs false
set_option maxHeartbeats 4000000 in
set_option maxRecDepth 100000 in
theorem rcheck_calls (A : Option Addr) (c : Nat) (l : List Int) (w : World) (hC : Kd.C (Kd.int .i64) w A l.length l) :
    Calls Tryd.prog 17 #[.slice A l.length c] w fun e w' => e = .returned (.int .i64 (checkV l)) ∧ Below w.heap.size w w' := by
  have HC := Aside0.mk hC
  have hm := hC.2.1
  clear hC
  by_cases h0 : l.length = 0
  · have HV := Aside0.mk (checkV_size (l := l) (.inl h0))
    have hD : decide ((l.length : Int) < 1) = true := by simp; omega
    clear h0
    go_enter Tryd.func17, Tryd.ntmps17
    go_wp2
    go_ret
    exact ⟨congrArg (fun x => Ending.returned (Value.int .i64 x)) HV.out.symm, Below.refl _ _⟩
  · have hD : decide ((l.length : Int) < 1) = false := by simp; omega
    by_cases h1 : 512 < l.length
    · have HV := Aside0.mk (checkV_size (l := l) (.inr h1))
      have hD1 : decide (512 < (l.length : Int)) = true := by simp; omega
      clear h0 h1
      go_enter Tryd.func17, Tryd.ntmps17
      go_wp2
      go_ret
      exact ⟨congrArg (fun x => Ending.returned (Value.int .i64 x)) HV.out.symm, Below.refl _ _⟩
    · have hD1 : decide (512 < (l.length : Int)) = false := by simp; omega
      have HN : Aside0 (¬ (l.length = 0 ∨ 512 < l.length)) := ⟨by omega⟩
      clear h0 h1
      go_enter Tryd.func17, Tryd.ntmps17
      go_wp2_with (fail)
      go_loopw [3] (fun i wr => ∃ k : Nat, k ≤ l.length ∧ i = .int .i64 (k : Int) ∧ Aside0 ((l.take k).all inR = true ∧ Below w.heap.size w wr)) (fun i _ => l.length - (intOf i).toNat)
      case atStart => exact ⟨0, Nat.zero_le _, rfl, ⟨by simp, Below.refl _ _⟩⟩
      case round =>
        obtain ⟨k, hk, rfl, HR⟩ := hrel
        by_cases hlt : k < l.length
        · obtain ⟨ad, rfl, hc⟩ := int_at' HC.out HR.out.2 k hlt
          have HS : Aside0 ((l.take (k + 1)).all inR = inR (l.getD k 0)) := ⟨by rw [List.take_succ_eq_append_getElem hlt, List.all_append, HR.out.1, List.getD_eq_getElem?_getD, List.getElem?_eq_getElem hlt]; simp⟩
          have HX : Aside0 (inR (l.getD k 0) = false → l.all inR = false) := ⟨fun h => by
            rw [← List.take_append_drop (k + 1) l, List.all_append, HS.out, h, Bool.false_and]⟩
          generalize l.getD k 0 = x at *
          go_wp2_with (fail)
          refine (Is_calls x wr _ rfl).mono ?_
          rintro e w1 ⟨rfl, rfl⟩
          have HB := Aside0.mk HR.out.2
          clear hc
          cases hp : inR x with
          | true =>
            have HF : Aside0 ((l.take (k + 1)).all inR = true) := ⟨by rw [HS.out, hp]⟩
            clear hp
            go_wp2
            go_roundw
            case rel => exact ⟨k + 1, by omega, by go_num, ⟨HF.out, HB.out⟩⟩
            case measure => simp [intOf]; omega
          | false =>
            have HF : Aside0 (checkV l = 10) := ⟨checkV_bad HN.out (HX.out hp)⟩
            clear hp
            go_wp2
            go_ret
            exact ⟨by rw [HF.out]; rfl, HB.out⟩
        · obtain rfl : k = l.length := by omega
          have HF : Aside0 (checkV l = 0) := ⟨checkV_ok HN.out (by have := HR.out.1; rwa [List.take_of_length_le (Nat.le_refl _)] at this)⟩
          go_wp2
          go_ret
          exact ⟨by rw [HF.out]; rfl, HR.out.2⟩
end Go.Proofs.YtfameghednapkaaDoor.Ten
namespace Go.Proofs.YtfameghednapkaaDoor.Ten
open Go.RowKit Go.Proofs.YtfameghednapkaaDoorW.PrintWords Go.Proofs.YtfameghednapkaaDoorW.PrintLast Go.Proofs.YtfameghednapkaaDoorW.PrintMore Go.Proofs.YtfameghednapkaaDoor.K Go.Proofs.YtfameghednapkaaDoor.RI Go.Proofs.YtfameghednapkaaDoor.Fixed
set_option linter.unusedVariables false
set_option linter.unusedSimpArgs false
theorem rtold_calls (x : Int) (w : World) (r1 r2 : Int) (hr : toldV x = (r1, r2)) :
    Calls Tryd.prog 40 #[.int .i64 x] w fun e w' => e = .returned (.tuple #[.int .i64 r1, .int .i64 r2]) ∧ w = w' := by
  cases h : inR x with
  | true =>
    obtain ⟨rfl, rfl⟩ : x = r1 ∧ (0 : Int) = r2 := by simpa [toldV, h] using hr
    have HI := Aside0.mk (Is_calls x w true h)
    clear hr h
    go_enter Tryd.func40, Tryd.ntmps40
    go_wp2_with (fail)
    refine HI.out.mono ?_
    rintro e w1 ⟨rfl, rfl⟩
    go_wp2_with (fail)
    go_ret2
    exact ⟨rfl, rfl⟩
  | false =>
    obtain ⟨rfl, rfl⟩ : (0 : Int) = r1 ∧ (17 : Int) = r2 := by simpa [toldV, h] using hr
    have HI := Aside0.mk (Is_calls x w false h)
    clear hr h
    go_enter Tryd.func40, Tryd.ntmps40
    go_wp2_with (fail)
    refine HI.out.mono ?_
    rintro e w1 ⟨rfl, rfl⟩
    go_wp2_with (fail)
    go_ret2
    exact ⟨rfl, rfl⟩
theorem listEnd_err {E : Int} {L : List Int} {w w' : World} {e : Ending} {z : Int} (hE : E = z) (hz : z ≠ 0) (he : e = .returned (.tuple #[.slice none 0 0, .int .i64 z])) (hb : Below w.heap.size w w') : ListEnd E L w e w' :=
  ⟨fun _ => by rw [he, hE], fun h => absurd (hE.symm.trans h) hz, hb⟩
theorem sameL_bad {L : List (List Int)} {i : Nat} (hi : i < L.length) (h : (L.getD i []).length ≠ (L.getD 0 []).length) : checksV L = 13 := by
  unfold checksV
  rw [if_neg]
  intro h1
  exact h (of_decide_eq_true (List.all_eq_true.1 h1 _ (getD_mem_ hi)))
theorem sh_bad {sh : List Int} {i : Nat} (hi : i < sh.length) (h : isSh (sh.getD i 0) = false) : sh.all isSh = false := by
  cases h2 : sh.all isSh with
  | false => rfl
  | true =>
    have h3 := sh_get h2 i
    rw [show isSh (sh.getD i 0) = true by unfold isSh; exact decide_eq_true h3] at h
    cases h
theorem all_of_get {α : Type} {l : List α} {p : α → Bool} (d : α) (h : ∀ i, i < l.length → p (l.getD i d) = true) : l.all p = true := by
  rw [List.all_eq_true]
  intro x hx
  obtain ⟨i, hi, rfl⟩ := List.getElem_of_mem hx
  have := h i hi
  rwa [List.getD_eq_getElem?_getD, List.getElem?_eq_getElem hi] at this
theorem firstE_get {L : List (List Int)} : ∀ (i : Nat), i < L.length → (∀ j, j < i → checkV (L.getD j []) = 0) → checkV (L.getD i []) ≠ 0 → firstE L = checkV (L.getD i []) := by
  induction L with
  | nil => intro i hi; simp at hi
  | cons x t ih =>
    intro i hi hj hz
    cases i with
    | zero =>
      simp only [firstE]
      rw [if_neg (by simpa using hz)]
      rfl
    | succ i =>
      have h0 : checkV x = 0 := hj 0 (by omega)
      simp only [firstE]
      rw [if_pos h0]
      exact ih i (by simpa using hi) (fun j h => hj (j + 1) (by omega)) hz
theorem firstE_all {L : List (List Int)} (h : ∀ j, j < L.length → checkV (L.getD j []) = 0) : firstE L = 0 := by
  induction L with
  | nil => rfl
  | cons x t ih =>
    simp only [firstE]
    have h0 : checkV x = 0 := h 0 (by simp)
    rw [if_pos h0]
    exact ih fun j hj => h (j + 1) (by simp; omega)
theorem checks_first {L : List (List Int)} (h : ∀ j, j < L.length → (L.getD j []).length = (L.getD 0 []).length) : checksV L = firstE L := by
  unfold checksV
  rw [if_pos]
  exact all_of_get [] fun i hi => decide_eq_true (h i hi)
set_option maxHeartbeats 16000000 in
set_option maxRecDepth 100000 in
theorem rmix_calls (As : Option Addr) (cs : Nat) (sh : List Int) (Al : Option Addr) (cl : Nat) (L : List (List Int)) (w : World) (hS : Kd.C (Kd.int .i64) w As sh.length sh) (hL : Kd.C (Kd.slice 3 (Kd.int .i64)) w Al L.length L) :
    Calls Tryd.prog 29 #[.slice As sh.length cs, .slice Al L.length cl] w (ListEnd (mixE sh L) (mixL sh L) w) := by
  have HS := Aside0.mk hS
  have HL := Aside0.mk hL
  have hm1 := hS.2.1
  have hm2 := hL.2.1
  clear hS hL
  have HML : Aside0 (mixL sh L = outL (mixF sh L) (L.getD 0 []).length) := ⟨rfl⟩
  by_cases hbad : L.length = 0 ∨ 64 < L.length ∨ sh.length ≠ L.length
  · have HE : Aside0 (mixE sh L = 13) := ⟨if_pos hbad⟩
    by_cases h1 : L.length = 0
    · have d1 : decide ((L.length : Int) < 1) = true := by simp [h1]
      clear hbad h1
      go_enter Tryd.func29, Tryd.ntmps29
      go_wp2
      go_ret2
      exact listEnd_err HE.out (by decide) rfl (Below.refl _ _)
    · have d1 : decide ((L.length : Int) < 1) = false := by simp; omega
      by_cases h2 : 64 < L.length
      · have d2 : decide (64 < (L.length : Int)) = true := by simp; omega
        clear hbad h1 h2
        go_enter Tryd.func29, Tryd.ntmps29
        go_wp2
        go_ret2
        exact listEnd_err HE.out (by decide) rfl (Below.refl _ _)
      · have d2 : decide (64 < (L.length : Int)) = false := by simp; omega
        have h3 : sh.length ≠ L.length := by omega
        have d3 : ((sh.length : Int) != (L.length : Int)) = true := by simp; omega
        have d3' : (sh.length != L.length) = true := by simpa using h3
        clear hbad h1 h2 h3
        go_enter Tryd.func29, Tryd.ntmps29
        go_wp2
        go_ret2
        exact listEnd_err HE.out (by decide) rfl (Below.refl _ _)
  · have HN := Aside0.mk hbad
    have hp : 0 < L.length := by omega
    have d1 : decide ((L.length : Int) < 1) = false := by simp; omega
    have d2 : decide (64 < (L.length : Int)) = false := by simp; omega
    have h3 : sh.length = L.length := by omega
    have d3 : ((sh.length : Int) != (L.length : Int)) = false := by simp [h3]
    have d3' : (sh.length != L.length) = false := by simp [h3]
    have HP64 : Aside0 (L.length ≤ 64 ∧ sh.length = L.length ∧ 0 < L.length) := ⟨by omega⟩
    have HM : Aside0 (mixE sh L = if checksV L = 0 then (if sh.all isSh = true then errF (mixF sh L) (L.getD 0 []).length 0 else 10) else checksV L) := ⟨if_neg hbad⟩
    obtain ⟨adl, A0, c0, rfl, hcell0, hle0, hrow0⟩ := row_get HL.out 0 hp
    rw [add_zero_] at hcell0
    have HC0 := Aside0.mk hcell0
    clear hbad h3 hcell0 hle0 hrow0
    go_enter Tryd.func29, Tryd.ntmps29
    go_wp2_with (fail)
    clear d1 d2 d3 d3'
    go_loopw [6] (fun i wr => ∃ k : Nat, k ≤ L.length ∧ i = .int .i64 (k : Int) ∧ Aside0 ((∀ j, j < k → (L.getD j []).length = (L.getD 0 []).length) ∧ Drawn0 w wr)) (fun i _ => L.length - (intOf i).toNat)
    case atStart => exact ⟨0, Nat.zero_le _, rfl, ⟨fun j h => absurd h (by omega), ⟨⟨0, rfl⟩⟩⟩⟩
    case round =>
      obtain ⟨k, hk, rfl, HR⟩ := hrel
      obtain ⟨hal, ⟨⟨nd, rfl⟩⟩⟩ := HR.out
      have hlen := HP64.out.1
      by_cases hlt : k < L.length
      · obtain ⟨ad, Ak, ck, he, hcellk, hle, hrow⟩ := row_get HL.out k hlt
        obtain rfl : adl = ad := by injection he
        have hck := hcellk w (Below.refl _ _)
        have hc0 := HC0.out w (Below.refl _ _)
        have hwk : IntKind.i64.wrap ((k : Int) + 1) = (k : Int) + 1 := by rw [IntKind.wrap_i64]; omega
        clear hcellk he hle hrow
        obtain ⟨lk, hlk⟩ : ∃ n, n = (L.getD k []).length := ⟨_, rfl⟩
        obtain ⟨l0, hl0⟩ : ∃ n, n = (L.getD 0 []).length := ⟨_, rfl⟩
        by_cases heq : lk = l0
        · have HNext : Aside0 (∀ j, j < k + 1 → (L.getD j []).length = (L.getD 0 []).length) := ⟨fun j hj => by
            rcases Nat.lt_or_ge j k with h | h
            · exact hal j h
            · obtain rfl : j = k := by omega
              rw [← hlk, ← hl0, heq]⟩
          rw [← hlk] at hck
          rw [← hl0] at hc0
          have e1 : ((lk : Int) != (l0 : Int)) = false := by simp [heq]
          have e2 : (lk != l0) = false := by simp [heq]
          clear hal hlk hl0 heq HR hlen
          go_wp2_with (fail)
          go_quiet (fail)
          go_wp2
          go_roundw
          case rel => exact ⟨k + 1, by omega, by go_num, ⟨HNext.out, by first | exact ⟨⟨_, rfl⟩⟩ | exact ⟨⟨_, World.drewN_drewN _ _ _⟩⟩⟩⟩
          case measure => simp [intOf]; omega
        · have HE : Aside0 (mixE sh L = 13) := ⟨by rw [HM.out, sameL_bad hlt (by rw [← hlk, ← hl0]; exact heq), if_neg (by decide)]⟩
          rw [← hlk] at hck
          rw [← hl0] at hc0
          have e1 : ((lk : Int) != (l0 : Int)) = true := by simp; omega
          have e2 : (lk != l0) = true := by simpa using heq
          clear hal hlk hl0 heq HR hlen
          go_wp2_with (fail)
          go_quiet (fail)
          go_wp2
          go_ret2
          exact listEnd_err HE.out (by decide) rfl (by first | exact pw_below_drewN (Below.refl _ _) _ | exact pw_below_drewN (pw_below_drewN (Below.refl _ _) _) _)
      · obtain rfl : k = L.length := by omega
        have HSame := Aside0.mk hal
        have HCk : Aside0 (checksV L = firstE L) := ⟨checks_first hal⟩
        have HB0 : Aside0 (Below w.heap.size w (w.drewN nd)) := ⟨pw_below_drewN (Below.refl _ _) nd⟩
        clear hal HR hlen hlt
        generalize w.drewN nd = w0 at *
        go_wp2_with (fail)
        go_loopw [7] (fun i wr => ∃ k : Nat, k ≤ L.length ∧ i = .int .i64 (k : Int) ∧ Aside0 ((∀ j, j < k → checkV (L.getD j []) = 0) ∧ Below w.heap.size w wr)) (fun i _ => L.length - (intOf i).toNat)
        case atStart => exact ⟨0, Nat.zero_le _, rfl, ⟨fun j h => absurd h (by omega), HB0.out⟩⟩
        case round =>
          obtain ⟨k, hk, rfl, HR⟩ := hrel
          have hlen := HP64.out.1
          by_cases hlt : k < L.length
          · obtain ⟨ad, Ak, ck, he, hcellk, hle, hrow⟩ := row_get HL.out k hlt
            obtain rfl : adl = ad := by injection he
            have hck := hcellk wr HR.out.2
            have hwk : IntKind.i64.wrap ((k : Int) + 1) = (k : Int) + 1 := by rw [IntKind.wrap_i64]; omega
            have HCkk : Aside0 (∀ W, Below w.heap.size w W → Calls Tryd.prog 17 #[.slice Ak (L.getD k []).length ck] W fun e w' => e = .returned (.int .i64 (checkV (L.getD k []))) ∧ Below W.heap.size W w') := ⟨fun W hb => rcheck_calls Ak ck _ W (Kd.C_below hrow hb)⟩
            have HCell : Aside0 (∀ W, Below w.heap.size w W → W.cell? (adl.add k) = some (.slice Ak (L.getD k []).length ck)) := ⟨hcellk⟩
            obtain ⟨z, hz⟩ : ∃ z, z = checkV (L.getD k []) := ⟨_, rfl⟩
            rw [← hz] at HCkk
            clear hcellk he hle hrow
            by_cases hz0 : z = 0
            · subst hz0
              have HNext : Aside0 (∀ j, j < k + 1 → checkV (L.getD j []) = 0) := ⟨fun j hj => by
                rcases Nat.lt_or_ge j k with h | h
                · exact HR.out.1 j h
                · obtain rfl : j = k := by omega
                  exact hz.symm⟩
              clear hz HCell
              generalize (L.getD k []).length = lk at *
              go_wp2_with (fail)
              refine (HCkk.out wr HR.out.2).mono ?_
              rintro e w1 ⟨rfl, hb⟩
              have HB1 := Aside0.mk (below_step HR.out.2 hb)
              clear hb hck
              go_wp2_with (fail)
              go_roundw
              case rel => exact ⟨k + 1, by omega, by go_num, ⟨HNext.out, HB1.out⟩⟩
              case measure => simp [intOf]; omega
            · have HE : Aside0 (mixE sh L = z) := ⟨by
                have h1 : checksV L = z := by rw [HCk.out, hz]; exact firstE_get k hlt HR.out.1 (by rw [← hz]; exact hz0)
                rw [HM.out, h1, if_neg hz0]⟩
              have dz : (z != 0) = true := by simpa using hz0
              have HZ0 := Aside0.mk hz0
              clear hz hz0
              generalize (L.getD k []).length = lk at *
              go_wp2_with (fail)
              refine (HCkk.out wr HR.out.2).mono ?_
              rintro e w1 ⟨rfl, hb⟩
              have HB1 := Aside0.mk (below_step HR.out.2 hb)
              have hck1 := HCell.out w1 HB1.out
              clear hb hck
              go_wp2_with (fail)
              refine (HCkk.out w1 HB1.out).mono ?_
              rintro e w2 ⟨rfl, hb⟩
              have HB2 := Aside0.mk (below_step HB1.out hb)
              clear hb hck1
              go_wp2_with (fail)
              go_ret2
              exact listEnd_err HE.out HZ0.out rfl HB2.out
          · obtain rfl : k = L.length := by omega
            have HC9 : Aside0 (checksV L = 0) := ⟨by rw [HCk.out]; exact firstE_all HR.out.1⟩
            have HM2 : Aside0 (mixE sh L = if sh.all isSh = true then errF (mixF sh L) (L.getD 0 []).length 0 else 10) := ⟨by rw [HM.out, if_pos HC9.out]⟩
            have HB1 := Aside0.mk HR.out.2
            clear HR hlen hlt HB0
            obtain ⟨w1, rfl⟩ : ∃ w1 : World, w1 = wr := ⟨_, rfl⟩
            go_wp2_with (fail)
            go_loop [8] (fun i => ∃ k : Nat, k ≤ L.length ∧ i = .int .i64 (k : Int) ∧ Aside0 (∀ j, j < k → isSh (sh.getD j 0) = true)) (fun i => L.length - (intOf i).toNat)
            case atStart => exact ⟨0, Nat.zero_le _, rfl, ⟨fun j h => absurd h (by omega)⟩⟩
            case round =>
              obtain ⟨k, hk, rfl, HR⟩ := hrel
              have hlen := HP64.out.1
              by_cases hlt : k < L.length
              · have hks : k < sh.length := by have := HP64.out.2.1; omega
                obtain ⟨ads, rfl, hx⟩ := int_at (Kd.C_below HS.out HB1.out) k hks
                have hwk : IntKind.i64.wrap ((k : Int) + 1) = (k : Int) + 1 := by rw [IntKind.wrap_i64]; omega
                obtain ⟨x, hxe⟩ : ∃ x, x = sh.getD k 0 := ⟨_, rfl⟩
                rw [← hxe] at hx
                have hbadE : isSh x = false → Aside0 (mixE sh L = 10) := fun h => ⟨by rw [HM2.out, sh_bad hks (by rw [← hxe]; exact h), if_neg (by simp)]⟩
                by_cases b1 : x < 0
                · have e1 : decide (x < 0) = true := by simpa using b1
                  have HE := hbadE (by unfold isSh; simp; omega)
                  clear hbadE hxe b1
                  go_wp2
                  go_ret2
                  exact listEnd_err HE.out (by decide) rfl HB1.out
                · have e1 : decide (x < 0) = false := by simpa using b1
                  by_cases b2 : 65536 < x
                  · have e2 : decide (65536 < x) = true := by simpa using b2
                    have HE := hbadE (by unfold isSh; simp; omega)
                    clear hbadE hxe b1 b2
                    go_wp2
                    go_ret2
                    exact listEnd_err HE.out (by decide) rfl HB1.out
                  · have e2 : decide (65536 < x) = false := by simpa using b2
                    have HNext : Aside0 (∀ j, j < k + 1 → isSh (sh.getD j 0) = true) := ⟨fun j hj => by
                      rcases Nat.lt_or_ge j k with h | h
                      · exact HR.out j h
                      · obtain rfl : j = k := by omega
                        rw [← hxe]
                        unfold isSh
                        simp
                        omega⟩
                    clear hbadE hxe b1 b2
                    go_wp2
                    go_round
                    case rel => exact ⟨k + 1, by omega, by go_num, HNext⟩
                    case measure => simp [intOf]; omega
              · obtain rfl : k = L.length := by omega
                have HSh : Aside0 (sh.all isSh = true) := ⟨all_of_get 0 fun i hi => HR.out i (by have := HP64.out.2.1; omega)⟩
                have HE : Aside0 (mixE sh L = errF (mixF sh L) (L.getD 0 []).length 0) := ⟨by rw [HM2.out, if_pos HSh.out]⟩
                clear HR hlen hlt
                go_wp2_with (fail)
                obtain ⟨f, hf⟩ : ∃ f, f = mixF sh L := ⟨_, rfl⟩
                obtain ⟨n0, hn0⟩ : ∃ n, n = (L.getD 0 []).length := ⟨_, rfl⟩
                have HN0 : Aside0 (n0 ≤ 512) := ⟨by rw [hn0]; exact (check_ok_in (checks_ok HC9.out 0 HP64.out.2.2).2).2.2⟩
                have HRow : Aside0 (∀ m, m < L.length → (L.getD m []).length = n0) := ⟨fun m hm => by rw [hn0]; exact (checks_ok HC9.out m hm).1⟩
                have HFk : Aside0 (∀ k, f k = rtV (mixS sh L k sh.length)) := ⟨fun k => by rw [hf]; rfl⟩
                rw [← hf, ← hn0] at HE HML
                rw [← hn0] at HC0
                have HFf := Aside0.mk (And.intro hf hn0)
                clear hf hn0
                go_loopw [9, 10] (fun o i wr => ∃ k : Nat, k ≤ n0 ∧ i = .int .i64 (k : Int) ∧ Aside0 (wr.ownsRow w.heap.size 3 1 o (outL f k).length (nums .i64 (outL f k)) ∧ Below w.heap.size w wr ∧ errF f n0 0 = errF f (n0 - k) k)) (fun _ i _ => n0 - (intOf i).toNat)
                case atStart => exact ⟨0, Nat.zero_le _, rfl, ⟨own_nil _ _ _ _, HB1.out, rfl⟩⟩
                case round =>
                  obtain ⟨k, hk, rfl, HO⟩ := hrel
                  have hn5 := HN0.out
                  obtain ⟨A5, c5, rfl⟩ := own_slice HO.out.1
                  have hc0 := HC0.out wr HO.out.2.1
                  by_cases hlt : k < n0
                  · have d1 : decide ((k : Int) < (n0 : Int)) = true := by simp; omega
                    have d2 : decide (k < n0) = true := by simpa using hlt
                    have HK := Aside0.mk hlt
                    have hwk : IntKind.i64.wrap ((k : Int) + 1) = (k : Int) + 1 := by rw [IntKind.wrap_i64]; omega
                    obtain ⟨wo, rfl⟩ : ∃ wo : World, wo = wr := ⟨_, rfl⟩
                    clear hlt hk hn5
                    go_wp2_with (fail)
                    clear hc0 d1 d2
                    go_loopw [11, 12] (fun s i wx => ∃ m : Nat, m ≤ L.length ∧ i = .int .i64 (m : Int) ∧ s = .int .i64 (mixS sh L k m) ∧ Aside0 (Drawn0 wo wx)) (fun _ i _ => L.length - (intOf i).toNat)
                    case atStart => exact ⟨0, Nat.zero_le _, rfl, rfl, ⟨⟨0, rfl⟩⟩⟩
                    case round =>
                      obtain ⟨m, hm, rfl, rfl, HD⟩ := hrel
                      obtain ⟨⟨nd, rfl⟩⟩ := HD.out
                      have hlen := HP64.out.1
                      by_cases hlt : m < L.length
                      · have hms : m < sh.length := by have := HP64.out.2.1; omega
                        obtain ⟨ads, rfl, hx⟩ := int_at (Kd.C_below HS.out HO.out.2.1) m hms
                        obtain ⟨ad, Am, cm, he, hcellm, hle, hrow⟩ := row_get HL.out m hlt
                        obtain rfl : adl = ad := by injection he
                        have hcm := hcellm wo HO.out.2.1
                        have hkm : k < (L.getD m []).length := by rw [HRow.out m hlt]; exact HK.out
                        obtain ⟨adm, rfl, hy⟩ := int_at (Kd.C_below hrow HO.out.2.1) k hkm
                        have hs1 : mixS sh L k (m + 1) = mixS sh L k m + sh.getD m 0 * (L.getD m []).getD k 0 := rfl
                        have hb1 := mixS_bd (k := k) HSh.out HC9.out (m + 1) hlt
                        have hs3 := sh_get HSh.out m
                        have hs4 := getD_r (check_ok_in (checks_ok HC9.out m hlt).2).1 k
                        have hs2 := mul_bd (a := sh.getD m 0) (b := (L.getD m []).getD k 0) (A := 65536) (B := 2147483648) (by omega) (by omega) (by decide) (by decide)
                        obtain ⟨y, hye⟩ : ∃ y, y = (L.getD m []).getD k 0 := ⟨_, rfl⟩
                        obtain ⟨x, hxe⟩ : ∃ x, x = sh.getD m 0 := ⟨_, rfl⟩
                        rw [← hye] at hy hs1 hs2
                        rw [← hxe] at hx hs1 hs2
                        obtain ⟨q, hq⟩ : ∃ q, q = x * y := ⟨_, rfl⟩
                        obtain ⟨s', hs'⟩ : ∃ s, s = mixS sh L k (m + 1) := ⟨_, rfl⟩
                        rw [← hq] at hs1 hs2
                        rw [← hs'] at hs1 hb1
                        have hw1 : IntKind.i64.wrap (x * y) = q := by rw [← hq, IntKind.wrap_i64]; omega
                        have hw2 : IntKind.i64.wrap (mixS sh L k m + q) = s' := by rw [hs1, IntKind.wrap_i64]; omega
                        have hwm : IntKind.i64.wrap ((m : Int) + 1) = (m : Int) + 1 := by rw [IntKind.wrap_i64]; omega
                        have HS' := Aside0.mk hs'
                        generalize mixS sh L k m = s at *
                        generalize hrw : (L.getD m []).length = lm at *
                        have dkm : decide (k < lm) = true := by simpa using hkm
                        clear hrow hcellm he hs1 hb1 hs2 hs3 hs4 hq hs' hxe hye hle HD hlen hrw
                        go_wp2_with (fail)
                        go_quiet (fail)
                        go_wp2
                        go_roundw
                        case rel => exact ⟨m + 1, by omega, by go_num, by rw [HS'.out], ⟨by first | exact ⟨⟨_, rfl⟩⟩ | exact ⟨⟨_, World.drewN_drewN _ _ _⟩⟩⟩⟩
                        case measure => simp [intOf]; omega
                      · obtain rfl : m = L.length := by omega
                        have hb1 := mixS_bd (k := k) HSh.out HC9.out L.length (Nat.le_refl _)
                        have HR : Aside0 (-4611686018427387904 ≤ mixS sh L k L.length ∧ mixS sh L k L.length ≤ 4611686018427387904) := ⟨by omega⟩
                        have HB2 : Aside0 (Below wo.heap.size wo (wo.drewN nd)) := ⟨pw_below_drewN (Below.refl _ _) nd⟩
                        have HFF : Aside0 (f k = toldV (roundV (mixS sh L k L.length))) := ⟨by rw [HFk.out, HP64.out.2.1]; rfl⟩
                        clear hb1 hlt HD hlen
                        generalize wo.drewN nd = w2 at *
                        generalize mixS sh L k L.length = s at *
                        obtain ⟨⟨p1, p2⟩, hp2⟩ : ∃ p, p = f k := ⟨_, rfl⟩
                        have HT : Aside0 (toldV (roundV s) = (p1, p2)) := ⟨by rw [← HFF.out, ← hp2]⟩
                        obtain ⟨es, hes⟩ : ∃ es, es = outL f k := ⟨_, rfl⟩
                        have HO2 : Aside0 (w2.ownsRow w.heap.size 3 1 (.slice A5 es.length c5) es.length (nums .i64 es) ∧ Below w.heap.size w w2) := ⟨by rw [hes]; exact own_int (Kd.R_below (R_int HO.out.1) HB2.out), below_step HO.out.2.1 HB2.out⟩
                        have HX : Aside0 (outL f (k + 1) = es ++ [p1]) := ⟨by rw [outL_succ, ← hes, ← hp2]⟩
                        have HXl : Aside0 (es.length ≤ 512) := ⟨by have h1 := HK.out; have h2 := HN0.out; rw [hes, outL_length]; omega⟩
                        have hsub : n0 - k = (n0 - (k + 1)) + 1 := by have := HK.out; omega
                        have HEr : Aside0 (errF f n0 0 = if p2 = 0 then errF f (n0 - (k + 1)) (k + 1) else p2) := ⟨by
                          rw [HO.out.2.2, hsub]
                          show (if (f k).2 = 0 then errF f (n0 - (k + 1)) (k + 1) else (f k).2) = _
                          rw [← hp2]⟩
                        rw [← hes]
                        clear hes hp2 hsub HO
                        go_wp2_with (fail)
                        refine (Round_calls s w2 (by have := HR.out; omega) (by have := HR.out; omega) _ rfl).mono ?_
                        rintro e w3 ⟨rfl, rfl⟩
                        go_wp2_with (fail)
                        refine (rtold_calls (roundV s) w2 p1 p2 HT.out).mono ?_
                        rintro e w3 ⟨rfl, rfl⟩
                        by_cases hp0 : p2 = 0
                        · subst hp0
                          have HEn : Aside0 (errF f n0 0 = errF f (n0 - (k + 1)) (k + 1)) := ⟨by rw [HEr.out, if_pos rfl]⟩
                          go_wp2_with (at_builtin; refine print_append_num (w0 := w) w.heap.size rfl (.tmp 118) (.tmp 120) 22 3 .i64 8 rfl Tryd.underlying22 info_int (by decide) _ es _ rfl rfl HO2.out.1 HO2.out.2 HO2.out.2.size ?_ ?_; rotate_left; intro v1 w4 hown hbw hgr hat; have HA := Aside0.mk (And.intro hown hbw); clear hown hbw hgr hat)
                          · refine ⟨⟨k + 1, by have := HK.out; omega, by go_num, ⟨by rw [HX.out]; exact HA.out.1, HA.out.2, HEn.out⟩⟩, by have := HK.out; simp [intOf]; omega⟩
                          · have := HXl.out
                            omega
                        · have HEn : Aside0 (mixE sh L = p2) := ⟨by rw [HE.out, HEr.out, if_neg hp0]⟩
                          have HP0 := Aside0.mk hp0
                          have dp : (p2 != 0) = true := by simpa using hp0
                          clear hp0
                          go_wp2_with (fail)
                          go_ret2
                          exact listEnd_err HEn.out HP0.out rfl HO2.out.2
                  · obtain rfl : k = n0 := by omega
                    have d1 : decide ((k : Int) < (k : Int)) = false := by simp
                    have d2 : decide (k < k) = false := by simp
                    have HEz : Aside0 (mixE sh L = 0) := ⟨by rw [HE.out, HO.out.2.2, Nat.sub_self]; rfl⟩
                    obtain ⟨A3, c3, he3, hC3, hle3⟩ := own_slice_le (R_int HO.out.1)
                    cases he3
                    have HC3 := Aside0.mk hC3
                    have HLe := Aside0.mk hle3
                    clear hC3 hle3 hlt hk hn5
                    go_wp2_with (fail)
                    go_ret2
                    exact ⟨fun h => absurd HEz.out h, fun _ => ⟨A5, c5, by rw [HML.out]; rfl, by rw [HML.out]; exact HC3.out, by rw [HML.out]; exact HLe.out⟩, HO.out.2.1⟩
end Go.Proofs.YtfameghednapkaaDoor.Ten
namespace Go.Proofs.YtfameghednapkaaDoor.Ten
open Go.RowKit Go.Proofs.YtfameghednapkaaDoorW.PrintWords Go.Proofs.YtfameghednapkaaDoorW.PrintLast Go.Proofs.YtfameghednapkaaDoorW.PrintMore Go.Proofs.YtfameghednapkaaDoor.K Go.Proofs.YtfameghednapkaaDoor.RI Go.Proofs.YtfameghednapkaaDoor.Fixed
set_option linter.unusedVariables false
set_option linter.unusedSimpArgs false
set_option maxHeartbeats 4000000 in
set_option maxRecDepth 100000 in
theorem rsoft_calls (A : Option Addr) (c : Nat) (l : List Int) (w : World) (hC : Kd.C (Kd.int .i64) w A l.length l) (h : checkV l = 0) :
    Calls Tryd.prog 27 #[.slice A l.length c] w fun e w' => ∃ A' c', e = .returned (.slice A' l.length c') ∧ Kd.R (Kd.int .i64) 3 w' w.heap.size (fun _ => True) (.slice A' l.length c') (softV l) ∧ Below w.heap.size w w' := by
  have HC := Aside0.mk hC
  have HIn := Aside0.mk (check_ok_in h)
  have HX : Aside0 (∀ k, k < l.length → ∀ W, Below w.heap.size w W → IntKind.i64.wrap (l.getD k 0 - maxV l) = l.getD k 0 - maxV l ∧ Calls Tryd.prog 50 #[.int .i64 (l.getD k 0 - maxV l)] W fun e w' => e = .returned (.int .i64 (expV (l.getD k 0 - maxV l))) ∧ Below W.heap.size W w') := ⟨fun k hk W hb => by
    have h1 := maxF_ge l (l.length - 1) k (by omega)
    have h2 := getD_r HIn.out.1 k
    obtain ⟨j, hj, e⟩ := maxF_at l (l.length - 1)
    have h3 := getD_r HIn.out.1 j
    have h4 : maxV l = l.getD j 0 := e
    have h5 : l.getD k 0 ≤ maxV l := h1
    exact ⟨by rw [IntKind.wrap_i64]; omega, rExp_calls _ W (by omega) (by omega)⟩⟩
  have hm := HC.out.2.1
  have HSB : Aside0 (∀ k : Nat, k ≤ l.length → 0 ≤ sumV ((expsV l).take k) ∧ sumV ((expsV l).take k) ≤ 65536 * (k : Int)) := ⟨fun k hk => by
    have h1 := sumV_bd (l := (expsV l).take k) fun x hx => expsV_bd l x (List.mem_of_mem_take hx)
    rw [List.length_take, Nat.min_eq_left (by simpa [expsV] using hk)] at h1
    exact h1⟩
  obtain ⟨ad, rfl, hc0⟩ := int_at HC.out 0 HIn.out.2.1
  have hc00 : w.cell? ad = some (.int .i64 (maxF l 0)) := by have h := hc0; cases ad; exact h
  have hd0 : decide ((0 : Int) < (l.length : Int)) = true := by have := HIn.out.2.1; simp; omega
  clear hc0
  obtain ⟨x0, hx0⟩ : ∃ x, x = maxF l 0 := ⟨_, rfl⟩
  have HX0 := Aside0.mk hx0
  rw [← hx0] at hc00
  clear hx0 hC h
  go_enter Tryd.func27, Tryd.ntmps27
  go_wp2_with (fail)
  rotate_left
  · exfalso
    have := HIn.out.2.1
    omega
  go_loop [3, 4] (fun s i => ∃ p : Nat, p ≤ l.length ∧ i = .int .i64 (p : Int) ∧ s = .int .i64 (maxF l (p - 1))) (fun _ i => l.length - (intOf i).toNat)
  case atStart => exact ⟨0, Nat.zero_le _, rfl, by rw [HX0.out]⟩
  case round =>
   obtain ⟨p, hk, rfl, rfl⟩ := hrel
   by_cases hlt : p < l.length
   · have hcr := int_cell HC.out (Below.refl _ _) p hlt
     clear hc00
     have HY : Aside0 (maxF l (p + 1 - 1) = if maxF l (p - 1) < l.getD p 0 then l.getD p 0 else maxF l (p - 1)) := ⟨by
       rcases Nat.eq_zero_or_pos p with h0 | h0
       · subst h0
         show maxF l 0 = if maxF l 0 < maxF l 0 then maxF l 0 else maxF l 0
         simp
       · obtain ⟨q, rfl⟩ : ∃ q, p = q + 1 := ⟨p - 1, by omega⟩
         rfl⟩
     generalize l.getD p 0 = x at *
     generalize maxF l (p - 1) = m at *
     go_wp2
     refine ⟨⟨p + 1, by omega, by go_num, by rw [HY.out]⟩, by simp [intOf]; omega⟩
   · obtain rfl : p = l.length := by omega
     have HMx : Aside0 (maxF l (l.length - 1) = maxV l) := ⟨rfl⟩
     clear hc00
     rw [HMx.out]
     have HB : Aside0 (Below w.heap.size w w) := ⟨Below.refl _ _⟩
     go_wp2_with (fail)
     clear hd0
     go_loopw [5, 6, 7] (fun o s i wr => ∃ k : Nat, k ≤ l.length ∧ i = .int .i64 (k : Int) ∧ s = .int .i64 (sumV ((expsV l).take k)) ∧ Aside0 (wr.ownsRow w.heap.size 3 1 o ((expsV l).take k).length (nums .i64 ((expsV l).take k)) ∧ Below w.heap.size w wr)) (fun _ _ i _ => l.length - (intOf i).toNat)
     case atStart => exact ⟨0, Nat.zero_le _, rfl, rfl, ⟨own_nil _ _ _ _, HB.out⟩⟩
     case round =>
       obtain ⟨k, hk, rfl, rfl, HO⟩ := hrel
       have hl512 := HIn.out.2.2
       by_cases hlt : k < l.length
       · have hc := int_cell HC.out HO.out.2 k hlt
         obtain ⟨hw1, hcall⟩ := HX.out k hlt wr HO.out.2
         obtain ⟨df, hdf⟩ : ∃ df, df = l.getD k 0 - maxV l := ⟨_, rfl⟩
         rw [← hdf] at hcall
         have HE := Aside0.mk hcall
         have HS := Aside0.mk (exps_snoc l k hlt)
         have HSn : Aside0 (sumV ((expsV l).take (k + 1)) = sumV ((expsV l).take k) + expV (l.getD k 0 - maxV l)) := ⟨by rw [HS.out, sumV_append]; simp [sumV]⟩
         have hw2 : IntKind.i64.wrap (sumV ((expsV l).take k) + expV (l.getD k 0 - maxV l)) = sumV ((expsV l).take (k + 1)) := by
           have := HSB.out (k + 1) (by omega)
           rw [HSn.out] at this ⊢
           rw [IntKind.wrap_i64]
           omega
         rw [← hdf] at hw1 hw2 HSn
         have HLen : Aside0 (((expsV l).take k).length = k) := ⟨by rw [List.length_take, Nat.min_eq_left (by simpa [expsV] using hk)]⟩
         clear hcall
         rw [← hdf] at HS
         have hw1 : IntKind.i64.wrap (l.getD k 0 - maxV l) = df := by rw [← hdf]; exact hw1
         clear hdf
         generalize expV df = ex at *
         obtain ⟨s1, hs1⟩ : ∃ s1, s1 = sumV ((expsV l).take (k + 1)) := ⟨_, rfl⟩
         rw [← hs1] at hw2 HSn
         have HS1 := Aside0.mk hs1
         clear hs1
         generalize sumV ((expsV l).take k) = s0 at *
         generalize l.getD k 0 = x at *
         generalize (expsV l).take k = es at *
         obtain ⟨A3, c3, rfl⟩ := own_slice HO.out.1
         generalize maxV l = mx at *
         go_wp2_with (fail)
         refine HE.out.mono ?_
         rintro e w4 ⟨rfl, hb4⟩
         have HO4 : Aside0 (w4.ownsRow w.heap.size 3 1 (.slice A3 es.length c3) es.length (nums .i64 es) ∧ Below w.heap.size w w4) := ⟨own_int (Kd.R_below (R_int HO.out.1) hb4), below_step HO.out.2 hb4⟩
         clear hb4
         go_wp2_with (at_builtin; refine print_append_num (w0 := w) w.heap.size rfl (.tmp 38) (.tmp 40) 22 3 .i64 8 rfl Tryd.underlying22 info_int (by decide) _ es _ rfl rfl HO4.out.1 HO4.out.2 HO4.out.2.size ?_ ?_; rotate_left; intro v1 w1 hown hbw hgr hat; have HA := Aside0.mk (And.intro hown hbw); clear hown hbw hgr hat)
         · skip
           go_roundw
           case rel => exact ⟨k + 1, by omega, by go_num, by rw [HS1.out], ⟨by rw [HS.out]; exact HA.out.1, HA.out.2⟩⟩
           case measure => simp [intOf]; omega
         · have := HLen.out
           omega
       · obtain rfl : k = l.length := by omega
         have HEl : Aside0 ((expsV l).length = l.length) := ⟨by simp [expsV]⟩
         have h1 := HO.out.1
         rw [← HEl.out, List.take_length] at h1
         obtain ⟨g, c9, rfl, hg, hglt, hle, hmx9, hdat⟩ := Top.R_dat (R_int h1) (by rw [HEl.out]; exact HIn.out.2.1)
         have HG := Aside0.mk (And.intro hg (And.intro hle hmx9))
         have HD := Aside0.mk hdat
         have HSu : Aside0 (sumV ((expsV l).take l.length) = sumV (expsV l)) := ⟨by rw [← HEl.out, List.take_length]⟩
         have HS0 := Aside0.mk (sumV_pos HIn.out.2.1)
         have HS9 := HSB.out l.length (Nat.le_refl _)
         have HEb := Aside0.mk (expsV_bd l)
         have HV9 : Aside0 (softV l = (expsV l).map fun x => x * 65536 / sumV (expsV l)) := ⟨rfl⟩
         have HVl : Aside0 ((softV l).length = (expsV l).length) := ⟨by simp [softV]⟩
         clear h1 hg hle hmx9 hdat
         rw [HSu.out] at HS9 ⊢
         rw [HEl.out]
         have HB9 := Aside0.mk HO.out.2
         obtain ⟨so, hso⟩ : ∃ so, so = softV l := ⟨_, rfl⟩
         rw [← hso] at HV9 HVl
         have HSo := Aside0.mk hso
         clear hso
         clear HSu HSB HX HO
         generalize sumV (expsV l) = sm at *
         generalize expsV l = es at *
         have hs0 : 0 < sm := by have := HS0.out; omega
         go_wp2_with (fail)
         go_loopw [9] (fun i wq => ∃ k : Nat, k ≤ l.length ∧ i = .int .i64 (k : Int) ∧ Aside0 (Sort.Dat wq g c9 (mixed so es k) ∧ Below w.heap.size w wq)) (fun i _ => l.length - (intOf i).toNat)
         case atStart => exact ⟨0, Nat.zero_le _, rfl, ⟨HD.out, HB9.out⟩⟩
         case round =>
           obtain ⟨k, hk, rfl, HR⟩ := hrel
           by_cases hlt : k < l.length
           · have HL1 : Aside0 ((mixed so es k).length = l.length) := ⟨by rw [mixed_length HVl.out (by rw [HEl.out]; omega), HEl.out]⟩
             obtain ⟨hc, hf⟩ := HR.out.1.at_ k (by rw [HL1.out]; exact hlt)
             rw [mixed_get HVl.out (by rw [HEl.out]; exact hlt)] at hc
             have HMem : es.getD k 0 ∈ es := by
               rw [List.getD_eq_getElem?_getD, List.getElem?_eq_getElem (by rw [HEl.out]; exact hlt)]
               exact List.getElem_mem _
             have hxb := HEb.out _ HMem
             have HY : Aside0 (so.getD k 0 = es.getD k 0 * 65536 / sm) := ⟨by
               rw [HV9.out, List.getD_eq_getElem?_getD, List.getD_eq_getElem?_getD, List.getElem?_map, List.getElem?_eq_getElem (by rw [HEl.out]; exact hlt)]
               rfl⟩
             have HSet := Aside0.mk (mixed_set (a := so) (b := es) (k := k) HVl.out (by rw [HEl.out]; exact hlt))
             clear HMem
             generalize es.getD k 0 = x at *
             go_wp2
             refine ⟨⟨k + 1, by omega, by go_num, ⟨?_, HR.out.2.setCell HG.out.1 _⟩⟩, by simp [intOf]; omega⟩
             rw [← HSet.out, HY.out]
             exact HR.out.1.set k _ (by rw [HL1.out]; exact hlt)
           · obtain rfl : k = l.length := by omega
             go_wp2
             go_ret
             have HF : mixed so es l.length = so := by rw [← HEl.out, mixed, List.drop_length, List.append_nil, ← HVl.out, List.take_length]
             have h1 := HR.out.1
             rw [HF] at h1
             have h2 := R_int (own_low (h1.own (by rw [HVl.out]; exact HG.out.2.1) HG.out.2.2) HG.out.1)
             rw [show so.length = l.length by rw [HVl.out, HEl.out]] at h2
             rw [← HSo.out]
             exact ⟨some ⟨g, 0, none⟩, c9, rfl, h2, HR.out.2⟩
end Go.Proofs.YtfameghednapkaaDoor.Ten
namespace Go.Proofs.YtfameghednapkaaDoor.Ten
open Go.RowKit Go.Proofs.YtfameghednapkaaDoorW.PrintWords Go.Proofs.YtfameghednapkaaDoorW.PrintLast Go.Proofs.YtfameghednapkaaDoorW.PrintMore Go.Proofs.YtfameghednapkaaDoor.K Go.Proofs.YtfameghednapkaaDoor.RI Go.Proofs.YtfameghednapkaaDoor.Fixed
set_option linter.unusedVariables false
set_option linter.unusedSimpArgs false
set_option maxHeartbeats 4000000 in
set_option maxRecDepth 100000 in
theorem few7_calls (A : Option Addr) (c : Nat) (xs : List (List Int)) (w : World) (hx : Kd.C (Kd.slice 3 (Kd.int .i64)) w A xs.length xs) :
    Calls Tryd.prog 26 #[.slice A xs.length c] w fun e w' => ∃ b : Bool, e = .returned (.bool b) ∧ Drawn0 w w' := by
  have HX := Aside0.mk hx
  have hm := hx.2.1
  clear hx
  go_enter Tryd.func26, Tryd.ntmps26
  go_wp2
  go_loopw [3] (fun v3 w' => ∃ k : Nat, k ≤ xs.length ∧ v3 = .int .i64 k ∧ ∃ n, w' = w.drewN n) (fun v3 _ => xs.length - (intOf v3).toNat)
  case atStart => exact ⟨0, Nat.zero_le _, rfl, 0, rfl⟩
  case round =>
    obtain ⟨k, hk, rfl, nd, rfl⟩ := hrel
    by_cases hlt : k < xs.length
    · obtain ⟨ad, A1, c1, rfl, hx, hl1, hr1⟩ := row_at HX.out k hlt
      clear hl1
      have hm1 := hr1.2.1
      have hwk : IntKind.i64.wrap ((k : Int) + 1) = (k : Int) + 1 := by rw [IntKind.wrap_i64]; omega
      clear hr1
      generalize xs.getD k [] = x at *
      by_cases h7 : 600 < x.length
      · have h7I : decide (600 < (x.length : Int)) = true := by simp; omega
        have h7N : decide (600 < x.length) = true := by simp; omega
        clear h7
        go_wp2
        go_ret
        exact ⟨_, rfl, by first | exact ⟨_, rfl⟩ | exact ⟨_, World.drewN_drewN _ _ _⟩⟩
      · have h7I : decide (600 < (x.length : Int)) = false := by simp; omega
        have h7N : decide (600 < x.length) = false := by simp; omega
        clear h7
        go_wp2
        go_roundw
        case rel => exact ⟨k + 1, by omega, by go_num, _, rfl⟩
        case measure => simp [intOf]; omega
    · obtain rfl : k = xs.length := by omega
      go_wp2
      go_ret
      exact ⟨_, rfl, ⟨_, rfl⟩⟩
set_option maxHeartbeats 4000000 in
set_option maxRecDepth 100000 in
theorem same7_calls (A : Option Addr) (c : Nat) (xs : List Int) (A' : Option Addr) (c' : Nat) (z : Int) (w : World) (hx : Kd.C (Kd.int .i64) w A xs.length xs) (hy : Kd.C (Kd.int .i64) w A' xs.length xs) :
    Calls Tryd.prog 30 #[.slice A xs.length c, .int .i64 z, .slice A' xs.length c', .int .i64 z] w fun e w' => e = .returned (.bool true) ∧ Below w.heap.size w w' := by
  have HX := Aside0.mk hx
  have HY := Aside0.mk hy
  clear hx hy
  go_enter Tryd.func30, Tryd.ntmps30
  go_wp2_with (fail)
  refine (Law.ints_n A xs.length c xs A' xs.length c' xs w HX.out HY.out true (by simp)).mono ?_
  rintro e w1 ⟨rfl, hd⟩
  have HB := Aside0.mk hd.below
  clear hd
  go_wp2_with (fail)
  go_ret
  exact ⟨rfl, HB.out⟩
theorem listEnd_two {E : Int} {L : List Int} {w w' : World} {e : Ending} (h : ListEnd E L w e w') : ∃ A c xs, e = .returned (.tuple #[.slice A xs.length c, .int .i64 E]) ∧ Kd.C (Kd.int .i64) w' A xs.length xs ∧ (xs = if E = 0 then L else []) ∧ Below w.heap.size w w' := by
  by_cases hE : E = 0
  · obtain ⟨A, c, he, hC, _⟩ := h.2.1 hE
    exact ⟨A, c, L, by rw [he, hE], hC, by rw [if_pos hE], h.2.2⟩
  · exact ⟨none, 0, [], h.1 hE, own_C (own_nil _ w'.heap.size 3 1), by rw [if_neg hE], h.2.2⟩
set_option maxHeartbeats 8000000 in
set_option maxRecDepth 100000 in
theorem shares_calls (Av : Option Addr) (cv : Nat) (v : List Int) (As : Option Addr) (cs : Nat) (sh : List Int) (Al : Option Addr) (cl : Nat) (L : List (List Int)) (w : World)
    (hV : Kd.C (Kd.int .i64) w Av v.length v) (hS : Kd.C (Kd.int .i64) w As sh.length sh) (hLl : Kd.C (Kd.slice 3 (Kd.int .i64)) w Al L.length L) (hL : LaidAt w 0 stepsA) :
    Calls Tryd.prog 9 #[.slice Av v.length cv, .slice As sh.length cs, .slice Al L.length cl] w fun e w' => e = .returned (.bool true) ∧ Below w.heap.size w w' := by
  have HL := Aside0.mk hL
  have HV := Aside0.mk hV
  have HS := Aside0.mk hS
  have HLl := Aside0.mk hLl
  have HB0 : Aside0 (Below w.heap.size w w) := ⟨Below.refl _ _⟩
  have hm1 := hV.2.1
  have hm2 := hS.2.1
  have hm3 := hLl.2.1
  clear hV hS hLl hL
  have HEnd : Aside0 (∀ W, Below w.heap.size w W → Calls Tryd.prog 28 #[.slice As sh.length cs, .slice Al L.length cl] W (ListEnd (mixE sh L) (mixL sh L) W)) := ⟨fun W hb => mix_calls As cs sh Al cl L W (Kd.C_below HS.out hb) (Kd.C_below HLl.out hb)⟩
  have HEnr : Aside0 (∀ W, Below w.heap.size w W → Calls Tryd.prog 29 #[.slice As sh.length cs, .slice Al L.length cl] W (ListEnd (mixE sh L) (mixL sh L) W)) := ⟨fun W hb => rmix_calls As cs sh Al cl L W (Kd.C_below HS.out hb) (Kd.C_below HLl.out hb)⟩
  by_cases h1 : 600 < v.length
  · have dh1 : decide (600 < (v.length : Int)) = true := by simp; omega
    clear h1
    go_enter Tryd.func9, Tryd.ntmps9
    go_wp2_with (fail)
    refine (awake07_calls w (HL.out.below HB0.out)).mono ?_
    rintro e wz ⟨rfl, hb⟩
    have HBz := Aside0.mk (below_step HB0.out hb)
    clear hb
    go_wp2_with (fail)
    go_ret
    exact ⟨rfl, HBz.out⟩
  · have dh1 : decide (600 < (v.length : Int)) = false := by simp; omega
    by_cases h2 : 70 < sh.length
    · have dh2 : decide (70 < (sh.length : Int)) = true := by simp; omega
      clear h1 h2
      go_enter Tryd.func9, Tryd.ntmps9
      go_wp2_with (fail)
      refine (awake07_calls w (HL.out.below HB0.out)).mono ?_
      rintro e wz ⟨rfl, hb⟩
      have HBz := Aside0.mk (below_step HB0.out hb)
      clear hb
      go_wp2_with (fail)
      go_ret
      exact ⟨rfl, HBz.out⟩
    · have dh2 : decide (70 < (sh.length : Int)) = false := by simp; omega
      clear h1 h2
      go_enter Tryd.func9, Tryd.ntmps9
      go_wp2_with (fail)
      clear dh1 dh2
      refine (few7_calls Al cl L w HLl.out).mono ?_
      rintro e w1 ⟨b, rfl, hd⟩
      have HB1 := Aside0.mk hd.below
      clear hd
      cases b with
      | false =>
        go_wp2_with (fail)
        refine (awake07_calls w1 (HL.out.below HB1.out)).mono ?_
        rintro e wz ⟨rfl, hb⟩
        have HBz := Aside0.mk (below_step HB1.out hb)
        clear hb
        go_wp2_with (fail)
        go_ret
        exact ⟨rfl, HBz.out⟩
      | true =>
        go_wp2_with (fail)
        by_cases hz : checkV v = 0
        · have HZ := Aside0.mk hz
          refine (softmax_ok_calls Av cv v w1 (Kd.C_below HV.out HB1.out) (HL.out.below HB1.out) hz).mono ?_
          rintro e w2 ⟨A2, c2, rfl, hr, hb⟩
          have HG2 : Aside0 (Kd.C (Kd.int .i64) w2 A2 v.length (softV v)) := ⟨by
            have h := (Kd.R_reads' hr).2.2
            rwa [show (softV v).length = v.length by simp [softV, expsV]] at h⟩
          have HB2 := Aside0.mk (below_step HB1.out hb)
          clear hr hb hz
          go_wp2_with (fail)
          refine (rcheck_calls Av cv v w2 (Kd.C_below HV.out HB2.out)).mono ?_
          rintro e w3 ⟨rfl, hb⟩
          have HB3 := Aside0.mk (below_step HB2.out hb)
          have HG3 := Aside0.mk (Kd.C_below HG2.out hb)
          clear hb
          rw [HZ.out]
          go_wp2_with (fail)
          refine (rsoft_calls Av cv v w3 (Kd.C_below HV.out HB3.out) HZ.out).mono ?_
          rintro e w4 ⟨A4, c4, rfl, hr, hb⟩
          have HG4 : Aside0 (Kd.C (Kd.int .i64) w4 A4 v.length (softV v)) := ⟨by
            have h := (Kd.R_reads' hr).2.2
            rwa [show (softV v).length = v.length by simp [softV, expsV]] at h⟩
          have HG5 := Aside0.mk (Kd.C_below HG3.out hb)
          have HB4 := Aside0.mk (below_step HB3.out hb)
          clear hr hb
          go_wp2_with (fail)
          refine (Law.ints_n A2 v.length c2 (softV v) A4 v.length c4 (softV v) w4 HG5.out HG4.out true (by simp)).mono ?_
          rintro e w5 ⟨rfl, hd⟩
          have HB5 := Aside0.mk (below_step HB4.out hd.below)
          clear hd
          go_wp2_with (fail)
          refine (HEnd.out w5 HB5.out).mono ?_
          rintro e w6 hh
          obtain ⟨A6, c6, xs, rfl, hC6, hxs, hb⟩ := listEnd_two hh
          have HC6 := Aside0.mk hC6
          have HXs := Aside0.mk hxs
          have HB6 := Aside0.mk (below_step HB5.out hb)
          clear hh hC6 hxs hb
          go_wp2_with (fail)
          refine (HEnr.out w6 HB6.out).mono ?_
          rintro e w7 hh
          obtain ⟨A7, c7, ys, rfl, hC7, hys, hb⟩ := listEnd_two hh
          obtain rfl : ys = xs := hys.trans HXs.out.symm
          have HC7 := Aside0.mk hC7
          have HC67 := Aside0.mk (Kd.C_below HC6.out hb)
          have HB7 := Aside0.mk (below_step HB6.out hb)
          clear hh hC7 hys hb
          go_wp2_with (fail)
          refine (same7_calls A6 c6 ys A7 c7 (mixE sh L) w7 HC67.out HC7.out).mono ?_
          rintro e w8 ⟨rfl, hb⟩
          have HB8 := Aside0.mk (below_step HB7.out hb)
          clear hb
          go_wp2_with (fail)
          refine (awake07_calls w8 (HL.out.below HB8.out)).mono ?_
          rintro e wz ⟨rfl, hb⟩
          have HBz := Aside0.mk (below_step HB8.out hb)
          clear hb
          go_wp2_with (fail)
          go_ret
          exact ⟨rfl, HBz.out⟩
        · refine (softmax_bad_calls Av cv v w1 (Kd.C_below HV.out HB1.out) hz).mono ?_
          rintro e w2 ⟨rfl, hb⟩
          have HB2 := Aside0.mk (below_step HB1.out hb)
          clear hb
          have HCk : Aside0 (∀ W, Below w.heap.size w W → Calls Tryd.prog 17 #[.slice Av v.length cv] W fun e w' => e = .returned (.int .i64 (checkV v)) ∧ Below W.heap.size W w') := ⟨fun W hb => rcheck_calls Av cv v W (Kd.C_below HV.out hb)⟩
          have dz : (checkV v != 0) = true := by simpa using hz
          clear hz
          generalize checkV v = z at *
          go_wp2_with (fail)
          refine (HCk.out w2 HB2.out).mono ?_
          rintro e w5 ⟨rfl, hb⟩
          have HB5 := Aside0.mk (below_step HB2.out hb)
          clear hb
          go_wp2_with (fail)
          refine (HEnd.out w5 HB5.out).mono ?_
          rintro e w6 hh
          obtain ⟨A6, c6, xs, rfl, hC6, hxs, hb⟩ := listEnd_two hh
          have HC6 := Aside0.mk hC6
          have HXs := Aside0.mk hxs
          have HB6 := Aside0.mk (below_step HB5.out hb)
          clear hh hC6 hxs hb
          go_wp2_with (fail)
          refine (HEnr.out w6 HB6.out).mono ?_
          rintro e w7 hh
          obtain ⟨A7, c7, ys, rfl, hC7, hys, hb⟩ := listEnd_two hh
          obtain rfl : ys = xs := hys.trans HXs.out.symm
          have HC7 := Aside0.mk hC7
          have HC67 := Aside0.mk (Kd.C_below HC6.out hb)
          have HB7 := Aside0.mk (below_step HB6.out hb)
          clear hh hC7 hys hb
          go_wp2_with (fail)
          refine (same7_calls A6 c6 ys A7 c7 (mixE sh L) w7 HC67.out HC7.out).mono ?_
          rintro e w8 ⟨rfl, hb⟩
          have HB8 := Aside0.mk (below_step HB7.out hb)
          clear hb
          go_wp2_with (fail)
          refine (awake07_calls w8 (HL.out.below HB8.out)).mono ?_
          rintro e wz ⟨rfl, hb⟩
          have HBz := Aside0.mk (below_step HB8.out hb)
          clear hb
          go_wp2_with (fail)
          go_ret
          exact ⟨rfl, HBz.out⟩
theorem shares_n (Av : Option Addr) (nv cv : Nat) (v : List Int) (As : Option Addr) (ns cs : Nat) (sh : List Int) (Al : Option Addr) (nl cl : Nat) (L : List (List Int)) (w : World)
    (hV : Kd.C (Kd.int .i64) w Av nv v) (hS : Kd.C (Kd.int .i64) w As ns sh) (hLl : Kd.C (Kd.slice 3 (Kd.int .i64)) w Al nl L) (hL : LaidAt w 0 stepsA) :
    Calls Tryd.prog 9 #[.slice Av nv cv, .slice As ns cs, .slice Al nl cl] w fun e w' => e = .returned (.bool true) ∧ Below w.heap.size w w' := by
  obtain rfl := hV.1
  obtain rfl := hS.1
  obtain rfl := hLl.1
  exact shares_calls Av cv v As cs sh Al cl L w hV hS hLl hL
end Go.Proofs.YtfameghednapkaaDoor.Ten
namespace Go.Proofs.YtfameghednapkaaDoor.Ten
open Go.RowKit Go.Proofs.YtfameghednapkaaDoorW.PrintWords Go.Proofs.YtfameghednapkaaDoorW.PrintLast Go.Proofs.YtfameghednapkaaDoorW.PrintMore Go.Proofs.YtfameghednapkaaDoor.K Go.Proofs.YtfameghednapkaaDoor.RI Go.Proofs.YtfameghednapkaaDoor.Fixed
set_option linter.unusedVariables false
set_option linter.unusedSimpArgs false
theorem rmul_calls (a b : Int) (w : World) (r1 r2 : Int) (ha : inR a = true) (hb : inR b = true) (hr : toldV (roundV (a * b)) = (r1, r2)) :
    Calls Tryd.prog 70 #[.int .i64 a, .int .i64 b] w fun e w' => e = .returned (.tuple #[.int .i64 r1, .int .i64 r2]) ∧ w = w' := by
  have hA : -2147483648 ≤ a ∧ a ≤ 2147483647 := of_decide_eq_true ha
  have hB : -2147483648 ≤ b ∧ b ≤ 2147483647 := of_decide_eq_true hb
  have hp := mul_bd (a := a) (b := b) (A := 2147483648) (B := 2147483648) (by omega) (by omega) (by decide) (by decide)
  obtain ⟨q, hq⟩ : ∃ q, q = a * b := ⟨_, rfl⟩
  rw [← hq] at hp hr
  have hw : IntKind.i64.wrap (a * b) = q := by rw [← hq, IntKind.wrap_i64]; omega
  have HQ : Aside0 (-4611686018427387904 ≤ q ∧ q ≤ 4611686018427387904) := ⟨by omega⟩
  have HR := Aside0.mk hr
  clear hp hq hr hA hB ha hb
  go_enter Tryd.func70, Tryd.ntmps70
  go_wp2_with (fail)
  refine (Round_calls q w (by have := HQ.out; omega) (by have := HQ.out; omega) _ rfl).mono ?_
  rintro e w3 ⟨rfl, rfl⟩
  go_wp2_with (fail)
  refine (rtold_calls (roundV q) w r1 r2 HR.out).mono ?_
  rintro e w3 ⟨rfl, rfl⟩
  go_wp2_with (fail)
  go_ret2
  exact ⟨rfl, rfl⟩
end Go.Proofs.YtfameghednapkaaDoor.Ten
namespace Go.Proofs.YtfameghednapkaaDoor.Ten
open Go.RowKit Go.Proofs.YtfameghednapkaaDoorW.PrintWords Go.Proofs.YtfameghednapkaaDoorW.PrintLast Go.Proofs.YtfameghednapkaaDoorW.PrintMore Go.Proofs.YtfameghednapkaaDoor.K Go.Proofs.YtfameghednapkaaDoor.RI Go.Proofs.YtfameghednapkaaDoor.Fixed
set_option linter.unusedVariables false
set_option linter.unusedSimpArgs false
def mulT (a b : Int) : Int × Int := toldV (roundV (a * b))
def turnV (a0 a1 c0 c1 : Int) : Int × Int × Int :=
  if (mulT a0 c0).2 = 0 ∧ (mulT a1 c1).2 = 0 ∧ (mulT a0 c1).2 = 0 ∧ (mulT a1 c0).2 = 0 ∧ inR ((mulT a0 c0).1 - (mulT a1 c1).1) = true ∧ inR ((mulT a0 c1).1 + (mulT a1 c0).1) = true then ((mulT a0 c0).1 - (mulT a1 c1).1, (mulT a0 c1).1 + (mulT a1 c0).1, 0) else (0, 0, 17)
theorem mulT_in (a b : Int) : -2147483648 ≤ (mulT a b).1 ∧ (mulT a b).1 ≤ 2147483647 := by
  unfold mulT toldV
  split
  · rename_i h
    have : -2147483648 ≤ roundV (a * b) ∧ roundV (a * b) ≤ 2147483647 := of_decide_eq_true h
    exact this
  · decide
set_option maxHeartbeats 8000000 in
set_option maxRecDepth 100000 in
theorem rturn_calls (a0 a1 c0 c1 : Int) (w : World) (ha0 : inR a0 = true) (ha1 : inR a1 = true) (hc0 : inR c0 = true) (hc1 : inR c1 = true) (x y z : Int) (hr : turnV a0 a1 c0 c1 = (x, y, z)) :
    Calls Tryd.prog 59 #[.agg #[.int .i64 a0, .int .i64 a1], .agg #[.int .i64 c0, .int .i64 c1]] w fun e w' => e = .returned (.tuple #[.agg #[.int .i64 x, .int .i64 y], .int .i64 z]) ∧ Below w.heap.size w w' := by
  have HB0 : Aside0 (Below w.heap.size w (((w.alloc (.cells #[.int .i64 a0, .int .i64 a1] 69)).alloc (.cells #[.int .i64 c0, .int .i64 c1] 69)).alloc (.cells #[.int .i64 0, .int .i64 0] 69))) := ⟨bel_alloc (bel_alloc (bel_alloc (Below.refl _ _) _) _) _⟩
  have HM : Aside0 (∀ W, Calls Tryd.prog 70 #[.int .i64 a0, .int .i64 c0] W fun e w' => e = .returned (.tuple #[.int .i64 (mulT a0 c0).1, .int .i64 (mulT a0 c0).2]) ∧ W = w') := ⟨fun W => rmul_calls a0 c0 W _ _ ha0 hc0 rfl⟩
  have HM2 : Aside0 (∀ W, Calls Tryd.prog 70 #[.int .i64 a1, .int .i64 c1] W fun e w' => e = .returned (.tuple #[.int .i64 (mulT a1 c1).1, .int .i64 (mulT a1 c1).2]) ∧ W = w') := ⟨fun W => rmul_calls a1 c1 W _ _ ha1 hc1 rfl⟩
  have HM3 : Aside0 (∀ W, Calls Tryd.prog 70 #[.int .i64 a0, .int .i64 c1] W fun e w' => e = .returned (.tuple #[.int .i64 (mulT a0 c1).1, .int .i64 (mulT a0 c1).2]) ∧ W = w') := ⟨fun W => rmul_calls a0 c1 W _ _ ha0 hc1 rfl⟩
  have HM4 : Aside0 (∀ W, Calls Tryd.prog 70 #[.int .i64 a1, .int .i64 c0] W fun e w' => e = .returned (.tuple #[.int .i64 (mulT a1 c0).1, .int .i64 (mulT a1 c0).2]) ∧ W = w') := ⟨fun W => rmul_calls a1 c0 W _ _ ha1 hc0 rfl⟩
  have HZ2 : Aside0 (∀ p q : Int, (((w.alloc (.cells #[.int .i64 a0, .int .i64 a1] 69)).alloc (.cells #[.int .i64 c0, .int .i64 c1] 69)).alloc (.cells #[.int .i64 p, .int .i64 q] 69)).heap[w.heap.size + 1 + 1]? = some (.cells #[.int .i64 p, .int .i64 q] 69 (0, 0))) := ⟨fun p q => by
    have h := heap_alloc_new ((w.alloc (.cells #[.int .i64 a0, .int .i64 a1] 69)).alloc (.cells #[.int .i64 c0, .int .i64 c1] 69)) (.cells #[.int .i64 p, .int .i64 q] 69)
    rwa [World.size_alloc, World.size_alloc] at h⟩
  have HB2 : Aside0 (∀ p q : Int, Below w.heap.size w (((w.alloc (.cells #[.int .i64 a0, .int .i64 a1] 69)).alloc (.cells #[.int .i64 c0, .int .i64 c1] 69)).alloc (.cells #[.int .i64 p, .int .i64 q] 69))) := ⟨fun p q => bel_alloc (bel_alloc (bel_alloc (Below.refl _ _) _) _) _⟩
  have HZ : Aside0 ((((w.alloc (.cells #[.int .i64 a0, .int .i64 a1] 69)).alloc (.cells #[.int .i64 c0, .int .i64 c1] 69)).alloc (.cells #[.int .i64 0, .int .i64 0] 69)).heap[w.heap.size + 1 + 1]? = some (.cells #[.int .i64 0, .int .i64 0] 69 (0, 0))) := ⟨by
    have h := heap_alloc_new ((w.alloc (.cells #[.int .i64 a0, .int .i64 a1] 69)).alloc (.cells #[.int .i64 c0, .int .i64 c1] 69)) (.cells #[.int .i64 0, .int .i64 0] 69)
    rwa [World.size_alloc, World.size_alloc] at h⟩
  have HI : Aside0 ((Tryd.prog.info? 69).map (·.size) = some 2) := ⟨by kernel_rfl⟩
  have hin1 := mulT_in a0 c0
  have hin2 := mulT_in a1 c1
  have hin3 := mulT_in a0 c1
  have hin4 := mulT_in a1 c0
  unfold turnV at hr
  generalize mulT a0 c0 = p1 at *
  generalize mulT a1 c1 = p2 at *
  generalize mulT a0 c1 = p3 at *
  generalize mulT a1 c0 = p4 at *
  obtain ⟨m1, e1⟩ := p1
  obtain ⟨m2, e2⟩ := p2
  obtain ⟨m3, e3⟩ := p3
  obtain ⟨m4, e4⟩ := p4
  dsimp only at *
  obtain ⟨s, hs⟩ : ∃ s, s = m1 - m2 := ⟨_, rfl⟩
  obtain ⟨t, ht⟩ : ∃ t, t = m3 + m4 := ⟨_, rfl⟩
  rw [← hs, ← ht] at hr
  have hw1 : IntKind.i64.wrap (m1 - m2) = s := by rw [hs, IntKind.wrap_i64]; omega
  have hw2 : IntKind.i64.wrap (m3 + m4) = t := by rw [ht, IntKind.wrap_i64]; omega
  have HR := Aside0.mk hr
  clear ha0 ha1 hc0 hc1 hr hs ht hin1 hin2 hin3 hin4
  go_enter Tryd.func59, Tryd.ntmps59
  go_wp2_with (fail)
  refine (HM.out _).mono ?_
  rintro e w1 ⟨rfl, rfl⟩
  go_wp2_with (fail)
  refine (HM2.out _).mono ?_
  rintro e w1 ⟨rfl, rfl⟩
  go_wp2_with (fail)
  refine (HM3.out _).mono ?_
  rintro e w1 ⟨rfl, rfl⟩
  go_wp2_with (fail)
  refine (HM4.out _).mono ?_
  rintro e w1 ⟨rfl, rfl⟩
  by_cases h1 : e1 = 0
  · have d1 : (e1 != 0) = false := by simpa using h1
    by_cases h2 : e2 = 0
    · have d2 : (e2 != 0) = false := by simpa using h2
      by_cases h3 : e3 = 0
      · have d3 : (e3 != 0) = false := by simpa using h3
        by_cases h4 : e4 = 0
        · have d4 : (e4 != 0) = false := by simpa using h4
          cases h5 : inR s with
          | true =>
            cases h6 : inR t with
            | true =>
              have HE : Aside0 ((s, t, (0 : Int)) = (x, y, z)) := ⟨by rw [← HR.out]; exact (if_pos ⟨h1, h2, h3, h4, h5, h6⟩).symm⟩
              obtain ⟨h7, h8, h9⟩ : s = x ∧ t = y ∧ (0 : Int) = z := by simpa using HE.out
              clear HE HR
              subst h7 h8 h9
              subst h1 h2 h3 h4
              go_wp2_with (fail)
              refine (Is_calls s _ true h5).mono ?_
              rintro e w1 ⟨rfl, rfl⟩
              go_wp2_with (fail)
              refine (Is_calls t _ true h6).mono ?_
              rintro e w1 ⟨rfl, rfl⟩
              go_wp2_with (fail)
              exact bodyPost_ret (results_ct Tryd.results59 _ _ (w.heap.size + 1 + 1) 69 #[.int .i64 s, .int .i64 t] (0, 0) _ rfl (HZ2.out s t) Tryd.underlying69 rfl HI.out) rfl ⟨rfl, HB2.out s t⟩
            | false =>
              have HE : Aside0 (((0 : Int), (0 : Int), (17 : Int)) = (x, y, z)) := ⟨by rw [← HR.out]; exact (if_neg (fun h => by have h9 := h.2.2.2.2.2; rw [h6] at h9; cases h9)).symm⟩
              cases HE.out
              subst h1 h2 h3 h4
              go_wp2_with (fail)
              refine (Is_calls s _ true h5).mono ?_
              rintro e w1 ⟨rfl, rfl⟩
              go_wp2_with (fail)
              refine (Is_calls t _ false h6).mono ?_
              rintro e w1 ⟨rfl, rfl⟩
              go_wp2_with (fail)
              exact bodyPost_ret (results_ct Tryd.results59 _ _ (w.heap.size + 1 + 1) 69 #[.int .i64 0, .int .i64 0] (0, 0) _ rfl HZ.out Tryd.underlying69 rfl HI.out) rfl ⟨rfl, HB0.out⟩
          | false =>
            have HE : Aside0 (((0 : Int), (0 : Int), (17 : Int)) = (x, y, z)) := ⟨by rw [← HR.out]; exact (if_neg (fun h => by have h9 := h.2.2.2.2.1; rw [h5] at h9; cases h9)).symm⟩
            cases HE.out
            subst h1 h2 h3 h4
            go_wp2_with (fail)
            refine (Is_calls s _ false h5).mono ?_
            rintro e w1 ⟨rfl, rfl⟩
            go_wp2_with (fail)
            exact bodyPost_ret (results_ct Tryd.results59 _ _ (w.heap.size + 1 + 1) 69 #[.int .i64 0, .int .i64 0] (0, 0) _ rfl HZ.out Tryd.underlying69 rfl HI.out) rfl ⟨rfl, HB0.out⟩
        · have d4 : (e4 != 0) = true := by simpa using h4
          have HE : Aside0 (((0 : Int), (0 : Int), (17 : Int)) = (x, y, z)) := ⟨by rw [← HR.out]; exact (if_neg (fun h => h4 h.2.2.2.1)).symm⟩
          cases HE.out
          go_wp2_with (fail)
          exact bodyPost_ret (results_ct Tryd.results59 _ _ (w.heap.size + 1 + 1) 69 #[.int .i64 0, .int .i64 0] (0, 0) _ rfl HZ.out Tryd.underlying69 rfl HI.out) rfl ⟨rfl, HB0.out⟩
      · have d3 : (e3 != 0) = true := by simpa using h3
        have HE : Aside0 (((0 : Int), (0 : Int), (17 : Int)) = (x, y, z)) := ⟨by rw [← HR.out]; exact (if_neg (fun h => h3 h.2.2.1)).symm⟩
        cases HE.out
        go_wp2_with (fail)
        exact bodyPost_ret (results_ct Tryd.results59 _ _ (w.heap.size + 1 + 1) 69 #[.int .i64 0, .int .i64 0] (0, 0) _ rfl HZ.out Tryd.underlying69 rfl HI.out) rfl ⟨rfl, HB0.out⟩
    · have d2 : (e2 != 0) = true := by simpa using h2
      have HE : Aside0 (((0 : Int), (0 : Int), (17 : Int)) = (x, y, z)) := ⟨by rw [← HR.out]; exact (if_neg (fun h => h2 h.2.1)).symm⟩
      cases HE.out
      go_wp2_with (fail)
      exact bodyPost_ret (results_ct Tryd.results59 _ _ (w.heap.size + 1 + 1) 69 #[.int .i64 0, .int .i64 0] (0, 0) _ rfl HZ.out Tryd.underlying69 rfl HI.out) rfl ⟨rfl, HB0.out⟩
  · have d1 : (e1 != 0) = true := by simpa using h1
    have HE : Aside0 (((0 : Int), (0 : Int), (17 : Int)) = (x, y, z)) := ⟨by rw [← HR.out]; exact (if_neg (fun h => h1 h.1)).symm⟩
    cases HE.out
    go_wp2_with (fail)
    exact bodyPost_ret (results_ct Tryd.results59 _ _ (w.heap.size + 1 + 1) 69 #[.int .i64 0, .int .i64 0] (0, 0) _ rfl HZ.out Tryd.underlying69 rfl HI.out) rfl ⟨rfl, HB0.out⟩
end Go.Proofs.YtfameghednapkaaDoor.Ten
namespace Go.Proofs.YtfameghednapkaaDoor.Ten
open Go.RowKit Go.Proofs.YtfameghednapkaaDoorW.PrintWords Go.Proofs.YtfameghednapkaaDoorW.PrintLast Go.Proofs.YtfameghednapkaaDoorW.PrintMore Go.Proofs.YtfameghednapkaaDoor.K Go.Proofs.YtfameghednapkaaDoor.RI Go.Proofs.YtfameghednapkaaDoor.Fixed
set_option linter.unusedVariables false
def stepT : Nat → Int × Int
  | 0 => (39322, 52429)
  | 1 => (60495, 25206)
  | 2 => (57826, 30840)
  | _ => (62915, 18350)
theorem stepT_in (p : Nat) : inR (stepT p).1 = true ∧ inR (stepT p).2 = true := by
  unfold stepT
  split <;> decide
def angN (c0 c1 : Int) : Nat → Int × Int × Int
  | 0 => (65536, 0, 0)
  | n + 1 => if (angN c0 c1 n).2.2 = 0 then turnV (angN c0 c1 n).1 (angN c0 c1 n).2.1 c0 c1 else (0, 0, (angN c0 c1 n).2.2)
theorem turnV_in (a0 a1 c0 c1 : Int) : inR (turnV a0 a1 c0 c1).1 = true ∧ inR (turnV a0 a1 c0 c1).2.1 = true := by
  unfold turnV
  split
  · rename_i h
    exact ⟨h.2.2.2.2.1, h.2.2.2.2.2⟩
  · exact ⟨(by decide : inR 0 = true), (by decide : inR 0 = true)⟩
theorem turnV_err (a0 a1 c0 c1 : Int) (h : (turnV a0 a1 c0 c1).2.2 ≠ 0) : turnV a0 a1 c0 c1 = (0, 0, (turnV a0 a1 c0 c1).2.2) := by
  unfold turnV at h ⊢
  split
  · rename_i h2
    rw [if_pos h2] at h
    exact absurd rfl h
  · rfl
theorem angN_in (c0 c1 : Int) : ∀ n, inR (angN c0 c1 n).1 = true ∧ inR (angN c0 c1 n).2.1 = true
  | 0 => ⟨(by decide : inR 65536 = true), (by decide : inR 0 = true)⟩
  | n + 1 => by
    unfold angN
    split
    · exact turnV_in _ _ _ _
    · exact ⟨(by decide : inR 0 = true), (by decide : inR 0 = true)⟩
theorem angN_succ {c0 c1 : Int} {n : Nat} {x y : Int} (h : angN c0 c1 n = (x, y, 0)) : angN c0 c1 (n + 1) = turnV x y c0 c1 := by
  rw [angN, h]; rfl
theorem angN_stuck {c0 c1 : Int} {k : Nat} {z : Int} (hz : z ≠ 0) (h : angN c0 c1 k = (0, 0, z)) : ∀ m, angN c0 c1 (k + m) = (0, 0, z)
  | 0 => h
  | m + 1 => by
    rw [← Nat.add_assoc, angN, angN_stuck hz h m]
    simp [hz]
theorem angN_stop {c0 c1 : Int} {k n : Nat} {x y : Int} (h : angN c0 c1 k = (x, y, 0)) (hz : (turnV x y c0 c1).2.2 ≠ 0) (hk : k < n) : angN c0 c1 n = (0, 0, (turnV x y c0 c1).2.2) := by
  have h1 : angN c0 c1 (k + 1) = (0, 0, (turnV x y c0 c1).2.2) := by rw [angN_succ h]; exact turnV_err _ _ _ _ hz
  have h2 := angN_stuck hz h1 (n - (k + 1))
  rwa [show k + 1 + (n - (k + 1)) = n by omega] at h2
end Go.Proofs.YtfameghednapkaaDoor.Ten
namespace Go.Proofs.YtfameghednapkaaDoor.Fixed
open Go.RowKit Go.Proofs.YtfameghednapkaaDoorW.PrintWords Go.Proofs.YtfameghednapkaaDoorW.PrintLast Go.Proofs.YtfameghednapkaaDoorW.PrintMore Go.Proofs.YtfameghednapkaaDoor.K
set_option linter.unusedVariables false
theorem told_calls (x : Int) (w : World) (r1 r2 : Int) (hr : toldV x = (r1, r2)) :
    Calls Tryd.prog 72 #[.int .i64 x] w fun e w' => e = .returned (.tuple #[.int .i64 r1, .int .i64 r2]) ∧ Below w.heap.size w w' := by
  cases h : inR x with
  | true =>
    obtain ⟨rfl, rfl⟩ : x = r1 ∧ (0 : Int) = r2 := by simpa [toldV, h] using hr
    have HRr := Aside0.mk h
    clear hr h
    go_enter Tryd.func72, Tryd.ntmps72
    go_wp2_with (fail)
    refine (check_n _ _ _ [x] _ (one_int w x) 0 (by rw [check1_val, if_pos HRr.out])).mono ?_
    rintro e w1 ⟨rfl, hd⟩
    have HB := Aside0.mk (below_step (bel_alloc (Below.refl _ _) _) hd.below)
    clear hd
    go_wp2_with (fail)
    go_ret2
    exact ⟨rfl, HB.out⟩
  | false =>
    obtain ⟨rfl, rfl⟩ : (0 : Int) = r1 ∧ (17 : Int) = r2 := by simpa [toldV, h] using hr
    have HRr := Aside0.mk h
    clear hr h
    go_enter Tryd.func72, Tryd.ntmps72
    go_wp2_with (fail)
    refine (check_n _ _ _ [x] _ (one_int w x) 10 (by rw [check1_val, if_neg (by rw [HRr.out]; decide)])).mono ?_
    rintro e w1 ⟨rfl, hd⟩
    have HB := Aside0.mk (below_step (bel_alloc (Below.refl _ _) _) hd.below)
    clear hd
    go_wp2_with (fail)
    go_ret2
    exact ⟨rfl, HB.out⟩
theorem prod_bound {a b : Int} (ha : inR a = true) (hb : inR b = true) : -4611686018427387904 ≤ a * b ∧ a * b ≤ 4611686018427387904 := by
  obtain ⟨a1, a2⟩ := inR_true ha
  obtain ⟨b1, b2⟩ := inR_true hb
  have h : (a * b).natAbs ≤ 2147483648 * 2147483648 := by
    rw [Int.natAbs_mul]
    exact Nat.mul_le_mul (by omega) (by omega)
  omega
set_option maxHeartbeats 1000000 in
theorem Add_calls (a b : Int) (w : World) (r1 r2 : Int) (hr : addV a b = (r1, r2)) :
    Calls Tryd.prog 61 #[.int .i64 a, .int .i64 b] w fun e w' => e = .returned (.tuple #[.int .i64 r1, .int .i64 r2]) ∧ Below w.heap.size w w' := by
  unfold addV at hr
  by_cases hN : inR a = true ∧ inR b = true
  · rw [if_pos hN] at hr
    have HN := Aside0.mk hN
    obtain ⟨a1, a2⟩ := inR_true hN.1
    obtain ⟨b1, b2⟩ := inR_true hN.2
    obtain ⟨p1, p2⟩ := prod_bound hN.1 hN.2
    clear hN
    have HR := Aside0.mk hr
    clear hr p1 p2
    go_enter Tryd.func61, Tryd.ntmps61
    go_wp2_with (fail)
    refine (check_n _ _ _ [a, b] _ (two_ints w a b) 0 (by rw [check2_val, if_pos HN.out])).mono ?_
    rintro e w1 ⟨rfl, hd⟩
    have HB := Aside0.mk (below_step (bel_alloc (Below.refl _ _) _) hd.below)
    clear hd
    go_wp2_with (fail)
    refine (told_calls (a + b) _ r1 r2 HR.out).mono ?_
    rintro e w2 ⟨rfl, hb⟩
    have HB2 := Aside0.mk (below_step HB.out hb)
    clear hb
    go_wp2_with (fail)
    go_ret2
    exact ⟨rfl, HB2.out⟩
  · rw [if_neg hN] at hr
    obtain ⟨rfl, rfl⟩ : (0 : Int) = r1 ∧ (10 : Int) = r2 := by simpa using hr
    have HN := Aside0.mk hN
    clear hr hN
    go_enter Tryd.func61, Tryd.ntmps61
    go_wp2_with (fail)
    refine (check_n _ _ _ [a, b] _ (two_ints w a b) 10 (by rw [check2_val, if_neg HN.out])).mono ?_
    rintro e w1 ⟨rfl, hd⟩
    have HB := Aside0.mk (below_step (bel_alloc (Below.refl _ _) _) hd.below)
    clear hd
    go_wp2_with (fail)
    go_ret2
    exact ⟨rfl, HB.out⟩
set_option maxHeartbeats 1000000 in
theorem Mul_calls (a b : Int) (w : World) (r1 r2 : Int) (hr : mulV a b = (r1, r2)) :
    Calls Tryd.prog 69 #[.int .i64 a, .int .i64 b] w fun e w' => e = .returned (.tuple #[.int .i64 r1, .int .i64 r2]) ∧ Below w.heap.size w w' := by
  unfold mulV at hr
  by_cases hN : inR a = true ∧ inR b = true
  · rw [if_pos hN] at hr
    have HN := Aside0.mk hN
    obtain ⟨a1, a2⟩ := inR_true hN.1
    obtain ⟨b1, b2⟩ := inR_true hN.2
    obtain ⟨p1, p2⟩ := prod_bound hN.1 hN.2
    clear hN
    have HR := Aside0.mk hr
    have HP1 := Aside0.mk p1
    have HP2 := Aside0.mk p2
    clear hr p1 p2
    go_enter Tryd.func69, Tryd.ntmps69
    go_wp2_with (fail)
    refine (check_n _ _ _ [a, b] _ (two_ints w a b) 0 (by rw [check2_val, if_pos HN.out])).mono ?_
    rintro e w1 ⟨rfl, hd⟩
    have HB := Aside0.mk (below_step (bel_alloc (Below.refl _ _) _) hd.below)
    clear hd
    go_wp2_with (fail)
    refine (product_calls a b _ (prodV a b) HP1.out HP2.out rfl).mono ?_
    rintro e w2 ⟨rfl, rfl⟩
    go_wp2_with (fail)
    refine (told_calls (prodV a b) _ r1 r2 HR.out).mono ?_
    rintro e w3 ⟨rfl, hb⟩
    have HB2 := Aside0.mk (below_step HB.out hb)
    clear hb
    go_wp2_with (fail)
    go_ret2
    exact ⟨rfl, HB2.out⟩
  · rw [if_neg hN] at hr
    obtain ⟨rfl, rfl⟩ : (0 : Int) = r1 ∧ (10 : Int) = r2 := by simpa using hr
    have HN := Aside0.mk hN
    clear hr hN
    go_enter Tryd.func69, Tryd.ntmps69
    go_wp2_with (fail)
    refine (check_n _ _ _ [a, b] _ (two_ints w a b) 10 (by rw [check2_val, if_neg HN.out])).mono ?_
    rintro e w1 ⟨rfl, hd⟩
    have HB := Aside0.mk (below_step (bel_alloc (Below.refl _ _) _) hd.below)
    clear hd
    go_wp2_with (fail)
    go_ret2
    exact ⟨rfl, HB.out⟩
theorem fdiv_t (n b : Int) (hb : b ≠ 0) : Int.fdiv n b = if Int.tmod n b ≠ 0 ∧ decide (n < 0) ≠ decide (b < 0) then Int.tdiv n b - 1 else Int.tdiv n b := by
  rw [Int.fdiv_eq_tdiv]
  by_cases h : b ∣ n
  · have h0 : Int.tmod n b = 0 := Int.tmod_eq_zero_of_dvd h
    rw [if_pos h, if_neg (by simp [h0])]
    omega
  · have h0 : Int.tmod n b ≠ 0 := fun e => h (Int.dvd_of_tmod_eq_zero e)
    rw [if_neg h]
    rcases Int.lt_or_le n 0 with hn | hn <;> rcases Int.lt_or_le b 0 with h2 | h2
    · rw [Int.sign_eq_neg_one_of_neg h2, if_neg (by omega), if_neg (by omega), if_neg (by simp; omega)]
      omega
    · rw [Int.sign_eq_one_of_pos (by omega), if_neg (by omega), if_pos h2, if_pos ⟨h0, by simp; omega⟩]
    · rw [if_pos hn, if_neg (by omega), if_pos ⟨h0, by simp; omega⟩]
    · rw [if_pos hn, if_pos h2, if_neg (by simp; omega)]
      omega
end Go.Proofs.YtfameghednapkaaDoor.Fixed
