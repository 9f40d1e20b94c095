/- cupelref07.Check, with the walk of cupelref06.Is. -/
import Derived.Test.YtfameghednapkaaDoorBunT3
import Derived.Test.YtfameghednapkaaDoorFixedRB
namespace Go.Proofs.YtfameghednapkaaDoor.Ten
open Go.RowKit Go.Proofs.YtfameghednapkaaDoorW.PrintWords Go.Proofs.YtfameghednapkaaDoorW.PrintLast Go.Proofs.YtfameghednapkaaDoorW.PrintMore Go.Proofs.YtfameghednapkaaDoor.K Go.Proofs.YtfameghednapkaaDoor.Fixed
set_option linter.unusedVariables false
set_option linter.unusedSimpArgs false
set_option maxHeartbeats 4000000 in
set_option maxRecDepth 100000 in
theorem rcheck_calls (A : Option Addr) (c : Nat) (l : List Int) (w : World) (hC : Kd.C (Kd.int .i64) w A l.length l) :
    Calls Tryd.prog 17 #[.slice A l.length c] w fun e w' => e = .returned (.int .i64 (checkV l)) ∧ Below w.heap.size w w' := by
  have HC := Aside0.mk hC
  have hm := hC.2.1
  clear hC
  by_cases h0 : l.length = 0
  · have HV := Aside0.mk (checkV_size (l := l) (.inl h0))
    have hD : decide ((l.length : Int) < 1) = true := by simp; omega
    clear h0
    go_enter Tryd.func17, Tryd.ntmps17
    go_wp2
    go_ret
    exact ⟨congrArg (fun x => Ending.returned (Value.int .i64 x)) HV.out.symm, Below.refl _ _⟩
  · have hD : decide ((l.length : Int) < 1) = false := by simp; omega
    by_cases h1 : 512 < l.length
    · have HV := Aside0.mk (checkV_size (l := l) (.inr h1))
      have hD1 : decide (512 < (l.length : Int)) = true := by simp; omega
      clear h0 h1
      go_enter Tryd.func17, Tryd.ntmps17
      go_wp2
      go_ret
      exact ⟨congrArg (fun x => Ending.returned (Value.int .i64 x)) HV.out.symm, Below.refl _ _⟩
    · have hD1 : decide (512 < (l.length : Int)) = false := by simp; omega
      have HN : Aside0 (¬ (l.length = 0 ∨ 512 < l.length)) := ⟨by omega⟩
      clear h0 h1
      go_enter Tryd.func17, Tryd.ntmps17
      go_wp2_with (fail)
      go_loopw [3] (fun i wr => ∃ k : Nat, k ≤ l.length ∧ i = .int .i64 (k : Int) ∧ Aside0 ((l.take k).all inR = true ∧ Below w.heap.size w wr)) (fun i _ => l.length - (intOf i).toNat)
      case atStart => exact ⟨0, Nat.zero_le _, rfl, ⟨by simp, Below.refl _ _⟩⟩
      case round =>
        obtain ⟨k, hk, rfl, HR⟩ := hrel
        by_cases hlt : k < l.length
        · obtain ⟨ad, rfl, hc⟩ := int_at' HC.out HR.out.2 k hlt
          have HS : Aside0 ((l.take (k + 1)).all inR = inR (l.getD k 0)) := ⟨by rw [List.take_succ_eq_append_getElem hlt, List.all_append, HR.out.1, List.getD_eq_getElem?_getD, List.getElem?_eq_getElem hlt]; simp⟩
          have HX : Aside0 (inR (l.getD k 0) = false → l.all inR = false) := ⟨fun h => by
            rw [← List.take_append_drop (k + 1) l, List.all_append, HS.out, h, Bool.false_and]⟩
          generalize l.getD k 0 = x at *
          go_wp2_with (fail)
          refine (Is_calls x wr _ rfl).mono ?_
          rintro e w1 ⟨rfl, rfl⟩
          have HB := Aside0.mk HR.out.2
          clear hc
          cases hp : inR x with
          | true =>
            have HF : Aside0 ((l.take (k + 1)).all inR = true) := ⟨by rw [HS.out, hp]⟩
            clear hp
            go_wp2
            go_roundw
            case rel => exact ⟨k + 1, by omega, by go_num, ⟨HF.out, HB.out⟩⟩
            case measure => simp [intOf]; omega
          | false =>
            have HF : Aside0 (checkV l = 10) := ⟨checkV_bad HN.out (HX.out hp)⟩
            clear hp
            go_wp2
            go_ret
            exact ⟨by rw [HF.out]; rfl, HB.out⟩
        · obtain rfl : k = l.length := by omega
          have HF : Aside0 (checkV l = 0) := ⟨checkV_ok HN.out (by have := HR.out.1; rwa [List.take_of_length_le (Nat.le_refl _)] at this)⟩
          go_wp2
          go_ret
          exact ⟨by rw [HF.out]; rfl, HR.out.2⟩
end Go.Proofs.YtfameghednapkaaDoor.Ten
