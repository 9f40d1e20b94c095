/- bpe: least. -/
import Derived.Test.YtbgiccbegcepcaaBpeTok
import Derived.Test.YtbgiccbegcepcaaQuietTail
import Derived.IntWalk
namespace Go.Proofs.Ytbgiccbegcepcaa.Bpe
open Go.RowKit Go.Proofs.YtbgiccbegcepcaaW.PrintWords Go.Proofs.YtbgiccbegcepcaaW.PrintLast Go.Proofs.YtbgiccbegcepcaaW.PrintMore Go.Proofs.Ytbgiccbegcepcaa.K
set_option linter.unusedVariables false
set_option linter.unusedSimpArgs false
section
variable {w : World} {B g b : Nat} {vt vo : Value} {T : List (List Int)} {of : List Int} {n : Int} {ps os : List Pr}
theorem CodAt.drawn {w1 : World} (h : CodAt w B g vt vo b T of n ps os) (hd : Drawn0 w w1) : CodAt w1 B g vt vo b T of n ps os := by
  obtain ⟨m, rfl⟩ := hd
  exact h.move (fun _ _ _ => rfl)
theorem tokV_cases (n : Int) (h : 0 ≤ n) (x : Option Nat) : tokV n x = -1 ∨ 0 ≤ tokV n x := by
  cases x with
  | none => exact .inl rfl
  | some k => refine .inr ?_; simp only [tokV]; omega
def toks (l : List Int) : Prop := ∀ x ∈ l, 0 ≤ x ∧ x ≤ 1000000
theorem toks_at {l : List Int} (h : toks l) (k : Nat) (hk : k < l.length) : 0 ≤ l.getD k 0 ∧ l.getD k 0 ≤ 1000000 := by
  rw [List.getD_eq_getElem?_getD, List.getElem?_eq_getElem hk]
  exact h _ (List.getElem_mem hk)
theorem wf_tok {x : Int} (h : 0 ≤ x ∧ x ≤ 1000000) : (Lit.int .i64 x).wf = true := by
  have e : x = ((x.toNat : Nat) : Int) := by omega
  rw [e]
  exact wf_nat _ (by omega)
set_option maxHeartbeats 4000000 in
set_option maxRecDepth 100000 in
theorem least_calls (A : Option Addr) (c : Nat) (l : List Int) (hC : Kd.C (Kd.int .i64) w A l.length l) (h : CodAt w B g vt vo b T of n ps os) (hn : 0 ≤ n) (hl : toks l) (hlen : l.length ≤ 1000000) :
    Calls Try.prog 24 #[.pointer (some ⟨g, 0, none⟩), .slice A l.length c] w fun e w' => e = .returned (.int .i64 (tokV n (firstP ps l))) ∧ Drawn0 w w' := by
  have HC := Aside0.mk hC
  have HH := Aside0.mk h
  have HN := Aside0.mk hn
  have HTk := Aside0.mk hl
  clear hC h hn hl
  go_enter Try.func24, Try.ntmps24
  go_wp2
  go_loopw [5, 12] (fun o i wr => ∃ k : Nat, k ≤ l.length ∧ i = .int .i64 (k : Int) ∧ o = .int .i64 (tokV n (firstP ps (l.take (k + 1)))) ∧ Aside0 (Drawn0 w wr)) (fun _ i _ => l.length - (intOf i).toNat)
  case atStart => exact ⟨0, Nat.zero_le _, rfl, by rw [first_one]; rfl, ⟨⟨0, rfl⟩⟩⟩
  case round =>
    obtain ⟨k, hk, rfl, rfl, HD⟩ := hrel
    by_cases hlt : k + 1 < l.length
    · have hltI : (k : Int) < (l.length : Int) - 1 := by omega
      have HX := Aside0.mk (first_step ps l k hlt)
      have HMin := Aside0.mk (tokV_min n HN.out (firstP ps (l.take (k + 1))) (look ps (l.getD k 0, l.getD (k + 1) 0)))
      have HCs := Aside0.mk (tokV_cases n HN.out (firstP ps (l.take (k + 1))))
      rw [← HX.out] at HMin
      have hCr := C_drawn HC.out HD.out
      obtain ⟨m, hm⟩ : ∃ m : Nat, m = k + 1 := ⟨_, rfl⟩
      have hw : IntKind.i64.wrap ((k : Int) + 1) = (m : Int) := by rw [IntWalk.i64_in _ (by omega)]; omega
      have hml : m < l.length := by omega
      have hkl : k < l.length := by omega
      obtain ⟨ad, rfl, hc0⟩ := int_at hCr k hkl
      obtain ⟨ad', e, hc1⟩ := int_at hCr m hml
      cases e
      have hwf : wfP (l.getD k 0, l.getD m 0) := ⟨wf_tok (toks_at HTk.out k hkl), wf_tok (toks_at HTk.out m hml)⟩
      have HHr := Aside0.mk (HH.out.drawn HD.out)
      have hcm := cdm HHr.out
      have hlk := HHr.out.2.2.2.2.2.1.lookup_drew (l.getD k 0) (l.getD m 0) hwf
      have hgm : l.getD (k + 1) 0 = l.getD m 0 := by rw [hm]
      rw [hgm] at HMin HX
      have HM := Aside0.mk hm
      clear hm hwf hCr hgm
      generalize l.getD k 0 = x at *
      generalize l.getD m 0 = y at *
      obtain ⟨t1, ht1⟩ : ∃ t1, t1 = tokV n (firstP ps (l.take (k + 2))) := ⟨_, rfl⟩
      have HT1 : Aside0 (t1 = tokV n (firstP ps (l.take (m + 1)))) := ⟨by rw [ht1, HM.out]⟩
      rw [← ht1] at HMin
      clear ht1 HX
      generalize tokV n (firstP ps (l.take (k + 1))) = t at *
      have hltk : k < l.length := hkl
      cases hl : look ps (x, y) with
      | none =>
        rw [hl] at hlk HMin
        simp only [Option.isSome_none, lookV] at hlk
        clear hl
        have HE : Aside0 (t1 = t) := ⟨by rw [HMin.out, if_neg (by simp)]⟩
        go_wp2
        go_quiet (fail)
        go_wp2
        go_roundw
        case rel => exact ⟨m, by omega, rfl, congrArg (Value.int .i64) (by rw [← HT1.out, HE.out]), ⟨Drawn0.trans_ HD.out ⟨nq, rfl⟩⟩⟩
        case measure => have := HM.out; simp [intOf]; omega
      | some j =>
        rw [hl] at hlk HMin
        simp only [Option.isSome_some, lookV] at hlk
        have HU : Aside0 (tokV n (some j) = n + j) := ⟨rfl⟩
        rw [HU.out] at HMin
        obtain ⟨u, hu⟩ : ∃ u, u = n + (j : Int) := ⟨_, rfl⟩
        rw [← hu] at hlk HMin
        clear hl hu HU
        by_cases ht : t = -1
        · have HE : Aside0 (t1 = u) := ⟨by rw [HMin.out, if_pos ⟨rfl, .inl ht⟩]⟩
          subst ht
          go_wp2
          go_quiet (fail)
          go_wp2
          go_roundw
          case rel => exact ⟨m, by omega, rfl, congrArg (Value.int .i64) (by rw [← HT1.out, HE.out]), ⟨Drawn0.trans_ HD.out ⟨nq, rfl⟩⟩⟩
          case measure => have := HM.out; simp [intOf]; omega
        · have hd : (t == -1) = false := by simpa using ht
          by_cases hut : u < t
          · have HE : Aside0 (t1 = u) := ⟨by rw [HMin.out, if_pos ⟨rfl, .inr hut⟩]⟩
            have hd2 : decide (u < t) = true := by simpa using hut
            clear ht hut
            go_wp2
            go_quiet (fail)
            go_wp2
            go_roundw
            case rel => exact ⟨m, by omega, rfl, congrArg (Value.int .i64) (by rw [← HT1.out, HE.out]), ⟨Drawn0.trans_ HD.out ⟨nq, rfl⟩⟩⟩
            case measure => have := HM.out; simp [intOf]; omega
          · have HE : Aside0 (t1 = t) := ⟨by rw [HMin.out, if_neg (fun h => h.2.elim ht hut)]⟩
            have hd2 : decide (u < t) = false := by simpa using hut
            clear ht hut
            go_wp2
            go_quiet (fail)
            go_wp2
            go_roundw
            case rel => exact ⟨m, by omega, rfl, congrArg (Value.int .i64) (by rw [← HT1.out, HE.out]), ⟨Drawn0.trans_ HD.out ⟨nq, rfl⟩⟩⟩
            case measure => have := HM.out; simp [intOf]; omega
    · have HE : Aside0 (l.take (k + 1) = l) := ⟨List.take_of_length_le (by omega)⟩
      rw [HE.out]
      have hge : ¬ (k : Int) < (l.length : Int) - 1 := by omega
      have hgd : decide ((k : Int) < (l.length : Int) - 1) = false := by simpa using hge
      obtain ⟨t, ht⟩ : ∃ t, t = tokV n (firstP ps l) := ⟨_, rfl⟩
      have HT := Aside0.mk ht
      rw [← ht]
      clear ht
      go_wp2
      go_ret
      exact ⟨congrArg (fun z => Ending.returned (Value.int .i64 z)) HT.out, HD.out⟩
end
end Go.Proofs.Ytbgiccbegcepcaa.Bpe
