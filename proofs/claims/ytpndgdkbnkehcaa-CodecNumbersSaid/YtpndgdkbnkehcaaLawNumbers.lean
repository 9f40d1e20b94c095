/- The walk of CodecNumbers: whatever the numbers and the bytes, it answers true. -/
import Derived.Test.YtpndgdkbnkehcaaIntsN
import Derived.Test.YtpndgdkbnkehcaaNumPure
import Derived.Test.YtpndgdkbnkehcaaCodecNumbers
import Derived.Test.YtpndgdkbnkehcaaLawBytes
import Derived.Test.YtpndgdkbnkehcaaLaw02Awake
namespace Go.Proofs.Ytpndgdkbnkehcaa.Law
open Go.RowKit Go.Proofs.YtpndgdkbnkehcaaW.PrintWords Go.Proofs.YtpndgdkbnkehcaaW.PrintLast Go.Proofs.YtpndgdkbnkehcaaW.PrintMore Go.Proofs.Ytpndgdkbnkehcaa.K Go.Proofs.Ytpndgdkbnkehcaa.Codec Go.Proofs.Ytpndgdkbnkehcaa.Num Go.Proofs.Ytpndgdkbnkehcaa.PCodecNumbers
set_option linter.unusedVariables false
theorem rnumbers_n (A : Option Addr) (n c : Nat) (l : List Int) (w : World) (hr0 : Kd.C (Kd.int .i64) w A n l) (hc : n ≤ c) (hl : ∀ x ∈ l, I64 x) (hb : n ≤ 60) :
    Calls Try.prog 17 #[.slice A n c] w fun e w' => ∃ v0_ : Value, e = .returned (v0_) ∧ Kd.R (Kd.int .u8) 5 w' w.heap.size (fun _ => True) v0_ (numsL l) ∧ Below w.heap.size w w' := by
  obtain rfl := hr0.1
  exact cupelref02_Numbers.calls _ A c l _ w hr0 hc (numbers_f l hl (by omega))
theorem rint_n (A : Option Addr) (n c : Nat) (l : List Int) (v : Int) (w : World) (hr0 : Kd.C (Kd.int .u8) w A n l) (hc : n ≤ c) (hn : n = 8) (hb : ∀ x ∈ l, 0 ≤ x ∧ x < 256) (hv : IntKind.i64.wrap (val8 l 0) = v) :
    Calls Try.prog 19 #[.slice A n c] w fun e w' => e = .returned (.int .i64 v) ∧ Drawn0 w w' := by
  obtain rfl := hr0.1
  subst hv
  exact cupelref02_Int.calls _ A c l _ w hr0 hc (int_f l hn hb)
theorem i64_wf {xs : List Int} (h : ∀ n ∈ xs, (Lit.int .i64 n).wf = true) : ∀ x ∈ xs, I64 x := fun x hx => by
  have := h x hx
  simp only [Lit.wf, Bool.and_eq_true, decide_eq_true_eq] at this
  have h1 : IntKind.i64.min = -9223372036854775808 := by decide
  have h2 : IntKind.i64.max = 9223372036854775807 := by decide
  exact ⟨by omega, by omega⟩
set_option maxHeartbeats 4000000 in
set_option maxRecDepth 100000 in
theorem numbers_law (A : Option Addr) (n c : Nat) (l : List Int) (A' : Option Addr) (n' c' : Nat) (b : List Int) (w : World) (hx : Kd.C (Kd.int .i64) w A n l) (hcx : n ≤ c) (hl : ∀ x ∈ l, I64 x) (hy : Kd.C (Kd.int .u8) w A' n' b) (hc : n' ≤ c') (hw : ∀ x ∈ b, 0 ≤ x ∧ x < 256) :
    Calls Try.prog 6 #[.slice A n c, .slice A' n' c'] w fun e w' => e = .returned (.bool true) ∧ Below w.heap.size w w' := by
  have HX := Aside0.mk hx
  have HY := Aside0.mk hy
  have HCx := Aside0.mk hcx
  have HCc := Aside0.mk hc
  have HW := Aside0.mk hw
  have HI := Aside0.mk hl
  have HN := Aside0.mk hy.1
  have HNx := Aside0.mk hx.1
  have hm := hy.2.1
  clear hx hy hc hw hcx hl
  by_cases h6 : n ≤ 60
  case neg =>
    have h6I : ((n : Int) > 60) = True := by simp; omega
    have h6D : decide (60 < n) = true := by simp; omega
    have HB0 := Aside0.mk (Below.refl w.heap.size w)
    go_enter Try.func6, Try.ntmps6
    go_wp2_with (fail)
    refine (awake02_calls _).mono ?_
    rintro e w1 ⟨rfl, hb⟩
    have HBf := Aside0.mk (below_step HB0.out hb)
    clear hb
    go_wp2_with (fail)
    go_ret
    exact ⟨rfl, HBf.out⟩
  by_cases h7 : n' ≤ 300
  case neg =>
    have h6I : ((n : Int) > 60) = False := by simp; omega
    have h6D : decide (60 < n) = false := by simp; omega
    have h7I : ((n' : Int) > 300) = True := by simp; omega
    have h7D : decide (300 < n') = true := by simp; omega
    have HB0 := Aside0.mk (Below.refl w.heap.size w)
    go_enter Try.func6, Try.ntmps6
    go_wp2_with (fail)
    refine (awake02_calls _).mono ?_
    rintro e w1 ⟨rfl, hb⟩
    have HBf := Aside0.mk (below_step HB0.out hb)
    clear hb
    go_wp2_with (fail)
    go_ret
    exact ⟨rfl, HBf.out⟩
  have h6I : ((n : Int) > 60) = False := by simp; omega
  have h6D : decide (60 < n) = false := by simp; omega
  have h7I : ((n' : Int) > 300) = False := by simp; omega
  have h7D : decide (300 < n') = false := by simp; omega
  have HB0 := Aside0.mk (Below.refl w.heap.size w)
  go_enter Try.func6, Try.ntmps6
  go_wp2_with (fail)
  refine (numbers_n _ _ _ l _ HX.out (by have := HNx.out; omega)).mono ?_
  rintro e w1 ⟨v_, rfl, hv, hb⟩
  obtain ⟨A1, c1, rfl⟩ := Kd.R_slice hv
  have HB1 := Aside0.mk (below_step HB0.out hb)
  replace HX := Aside0.mk (Kd.C_below HX.out hb)
  replace HY := Aside0.mk (Kd.C_below HY.out hb)
  have HV1 := Aside0.mk (Kd.R_reads' hv).2.2
  have HC1 := Aside0.mk (Kd.R_reads' hv).2.1
  clear hv hb
  go_wp2_with (fail)
  refine (rnumbers_n _ _ _ l _ HX.out HCx.out HI.out h6).mono ?_
  rintro e w2 ⟨v_, rfl, hv, hb⟩
  obtain ⟨A2, c2, rfl⟩ := Kd.R_slice hv
  have HB2 := Aside0.mk (below_step HB1.out hb)
  replace HX := Aside0.mk (Kd.C_below HX.out hb)
  replace HY := Aside0.mk (Kd.C_below HY.out hb)
  replace HV1 := Aside0.mk (Kd.C_below HV1.out hb)
  have HV2 := Aside0.mk (Kd.R_reads' hv).2.2
  have HC2 := Aside0.mk (Kd.R_reads' hv).2.1
  clear hv hb
  go_wp2_with (fail)
  refine (bytes_n _ _ _ (numsL l) _ _ _ (numsL l) _ HV1.out HV2.out true (by simp)).mono ?_
  rintro e w3 ⟨rfl, hd⟩
  have hb := hd.below
  have HB3 := Aside0.mk (below_step HB2.out hb)
  replace HX := Aside0.mk (Kd.C_below HX.out hb)
  replace HY := Aside0.mk (Kd.C_below HY.out hb)
  replace HV1 := Aside0.mk (Kd.C_below HV1.out hb)
  replace HV2 := Aside0.mk (Kd.C_below HV2.out hb)
  clear hd hb
  go_wp2_with (fail)
  refine (cints_n _ _ _ b _ HY.out HCc.out HW.out (by omega)).mono ?_
  intro e w4 hp
  cases hs : b.length % 8 with
  | succ m => 
    have hm0 : ((((n' : Nat) : Int) % 8) != 0) = true := by
      have := HN.out
      simp only [bne_iff_ne, ne_eq]
      omega
    simp only [IntsPost, hs] at hp
    obtain ⟨rfl, hb⟩ := hp
    clear hs
    have HB4 := Aside0.mk (below_step HB3.out hb)
    replace HX := Aside0.mk (Kd.C_below HX.out hb)
    replace HY := Aside0.mk (Kd.C_below HY.out hb)
    replace HV1 := Aside0.mk (Kd.C_below HV1.out hb)
    replace HV2 := Aside0.mk (Kd.C_below HV2.out hb)
    clear hb
    go_wp2_with (fail)
    refine (awake02_calls _).mono ?_
    rintro e w5 ⟨rfl, hb⟩
    have HBf := Aside0.mk (below_step HB4.out hb)
    clear hb
    go_wp2_with (fail)
    go_ret
    exact ⟨rfl, HBf.out⟩
  | zero =>
    have hm0 : ((((n' : Nat) : Int) % 8) != 0) = false := by
      have := HN.out
      simp only [bne_eq_false_iff_eq]
      omega
    simp only [IntsPost, hs] at hp
    obtain ⟨v4, rfl, hv, hb⟩ := hp
    have HS := Aside0.mk hs
    clear hs
    obtain ⟨A4, c4, rfl⟩ := Kd.R_slice hv
    have HB4 := Aside0.mk (below_step HB3.out hb)
    replace HX := Aside0.mk (Kd.C_below HX.out hb)
    replace HY := Aside0.mk (Kd.C_below HY.out hb)
    replace HV1 := Aside0.mk (Kd.C_below HV1.out hb)
    replace HV2 := Aside0.mk (Kd.C_below HV2.out hb)
    have HV4 := Aside0.mk (Kd.R_reads' hv).2.2
    clear hv hb
    obtain ⟨m, hmm⟩ : ∃ m, (intsV b).length = m := ⟨_, rfl⟩
    rw [hmm] at HV4
    have hdv : (n' : Int) / 8 = (m : Int) := by
      have h1 := HN.out
      rw [intsV, List.length_map, List.length_range] at hmm
      omega
    have HM := Aside0.mk (show n' = 8 * m by
      have h1 := HN.out
      have h2 := HS.out
      omega)
    rw [hmm]
    go_wp2_with (fail)
    have hmm' : ∀ k, k < m → (intsV b).getD k 0 = intAt b k := fun k hk => by
      rw [intsV, List.length_map, List.length_range] at hmm
      rw [intsV, List.getD_eq_getElem?_getD, List.getElem?_map, List.getElem?_range (by omega)]
      rfl
    go_loopw [7] (fun v7 w' => ∃ k : Nat, k ≤ m ∧ v7 = .int .i64 k ∧ ∃ n, w' = w4.drewN n) (fun v7 _ => m - (intOf v7).toNat)
    case atStart => exact ⟨0, Nat.zero_le _, rfl, 0, rfl⟩
    case round =>
      obtain ⟨k, hk, rfl, nd, rfl⟩ := hrel
      by_cases hlt : k < m
      · have h8 : 8 * k + 8 ≤ n' := by have := HM.out; omega
        obtain ⟨ad, rfl, hx⟩ := int_at HV4.out k hlt
        rw [hmm' k hlt] at hx
        have HG0 : Aside0 (intAt b k = IntKind.i64.wrap (val8 ((b.drop (8 * k)).take 8) 0)) := ⟨by
          rw [intAt, val8, val8, Nat.mul_comm k 8]
          simp only [List.getD_eq_getElem?_getD, List.getElem?_take, List.getElem?_drop]
          simp⟩
        obtain ⟨p, hp⟩ : ∃ p, p = 8 * k := ⟨_, rfl⟩
        obtain ⟨q, hq⟩ : ∃ q, q = p + 8 := ⟨_, rfl⟩
        rw [← hp] at HG0
        have M1 : IntKind.i64.wrap (8 * (k : Int)) = (p : Int) := by rw [IntWalk.i64_in _ (by omega)]; omega
        have M2 : IntKind.i64.wrap ((p : Int) + 8) = (q : Int) := by rw [IntWalk.i64_in _ (by omega)]; omega
        obtain ⟨A6, hsl, hC6, hle6⟩ := mid_int (k := .u8) (P := Try.prog) 25 5 Try.underlying25 info_u8 A' c' b (p : Int) (q : Int) p 8 rfl (by omega) (by have := HN.out; omega) (by have := HN.out; have := HCc.out; omega)
        have h86 : ((b.drop p).take 8).length = 8 := by
          have := HN.out
          rw [List.length_take, List.length_drop]
          omega
        rw [HN.out] at hsl
        have HC6 := Aside0.mk (hC6 w4 (by rw [HN.out]; exact HY.out))
        rw [h86] at HC6 hsl hle6
        have HB6 : Aside0 (∀ x ∈ (b.drop p).take 8, 0 ≤ x ∧ x < 256) := ⟨fun x hx => HW.out x (List.mem_of_mem_drop (List.mem_of_mem_take hx))⟩
        have HL6 := Aside0.mk hle6
        clear hle6 hC6 h86 hmm' hmm hp hq
        generalize (b.drop p).take 8 = b6 at *
        generalize c' - p = c6 at *
        obtain ⟨g, hg⟩ : ∃ g, g = intAt b k := ⟨_, rfl⟩
        rw [← hg] at HG0 hx
        clear hg
        go_wp2
        go_quiet ((go_at_call 19; refine (rint_n A6 8 c6 b6 g _ (drew_C HC6.out _) HL6.out rfl HB6.out HG0.out.symm).mono ?_; rintro e w' ⟨rfl, ⟨nq, rfl⟩⟩; first | exact ⟨rfl, _, World.drewN_drewN _ _ _⟩ | exact ⟨rfl, _, drewN_add _ _ _ _⟩))
        go_wp2
        go_roundw
        case measure => simp [intOf]; omega
        case rel => exact ⟨k + 1, by omega, by go_num, _, rfl⟩
      · obtain rfl : k = m := by omega
        go_wp2_with (fail)
        refine (awake02_calls _).mono ?_
        rintro e w5 ⟨rfl, hb⟩
        have HBf := Aside0.mk (below_step (pw_below_drewN HB4.out _) hb)
        clear hb
        go_wp2_with (fail)
        go_ret
        exact ⟨rfl, HBf.out⟩
end Go.Proofs.Ytpndgdkbnkehcaa.Law
