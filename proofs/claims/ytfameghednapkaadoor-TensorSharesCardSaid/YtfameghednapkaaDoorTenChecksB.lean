/- tensor: checks: what is wrong with vectors. -/
import Derived.Test.YtfameghednapkaaDoorMulAllB
namespace Go.Proofs.YtfameghednapkaaDoor.Ten
open Go.RowKit Go.Proofs.YtfameghednapkaaDoorW.PrintWords Go.Proofs.YtfameghednapkaaDoorW.PrintLast Go.Proofs.YtfameghednapkaaDoorW.PrintMore Go.Proofs.YtfameghednapkaaDoor.K Go.Proofs.YtfameghednapkaaDoor.RI Go.Proofs.YtfameghednapkaaDoor.Fixed
set_option linter.unusedVariables false
set_option linter.unusedSimpArgs false
def sameL (L : List (List Int)) (v : List Int) : Bool := decide (v.length = (L.getD 0 []).length)
def firstE : List (List Int) → Int
  | [] => 0
  | v :: t => if checkV v = 0 then firstE t else checkV v
def checksV (L : List (List Int)) : Int := if L.all (sameL L) = true then firstE L else 13
theorem firstE_drop (L : List (List Int)) (k : Nat) (h : k < L.length) : firstE (L.drop k) = if checkV (L.getD k []) = 0 then firstE (L.drop (k + 1)) else checkV (L.getD k []) := by
  rw [List.drop_eq_getElem_cons h, List.getD_eq_getElem?_getD, List.getElem?_eq_getElem h, Option.getD_some]
  rfl
theorem allL_succ {p : List Int → Bool} {l : List (List Int)} {k : Nat} (h : k < l.length) (hk : (l.take k).all p = true) (hp : p (l.getD k []) = true) : (l.take (k + 1)).all p = true := by
  rw [List.take_succ_eq_append_getElem h, List.all_append, hk]
  rw [List.getD_eq_getElem?_getD, List.getElem?_eq_getElem h, Option.getD_some] at hp
  simp [hp]
theorem allL_not {p : List Int → Bool} {l : List (List Int)} {k : Nat} (h : k < l.length) (hp : p (l.getD k []) = false) : l.all p = false := by
  rw [List.all_eq_false]
  rw [List.getD_eq_getElem?_getD, List.getElem?_eq_getElem h, Option.getD_some] at hp
  exact ⟨_, List.getElem_mem h, by simp [hp]⟩
theorem checksV_not {L : List (List Int)} (h : L.all (sameL L) = false) : checksV L = 13 := by unfold checksV; rw [if_neg (by rw [h]; simp)]
theorem checksV_same {L : List (List Int)} (h : L.all (sameL L) = true) : checksV L = firstE L := if_pos h
theorem add_zero_ (ad : Addr) : ad.add 0 = ad := by cases ad; simp [Addr.add]
set_option maxHeartbeats 8000000 in
set_option maxRecDepth 100000 in
theorem checks_list_calls (A : Option Addr) (c : Nat) (L : List (List Int)) (w : World) (hC : Kd.C (Kd.slice 3 (Kd.int .i64)) w A L.length L) :
    Calls Tryd.prog 51 #[.slice A L.length c] w fun e w' => e = .returned (.int .i64 (checksV L)) ∧ Below w.heap.size w w' := by
  have HC := Aside0.mk hC
  have hm := hC.2.1
  clear hC
  go_enter Tryd.func51, Tryd.ntmps51
  go_wp2_with (fail)
  go_loop [10] (fun i => ∃ k : Nat, k ≤ L.length ∧ i = .int .i64 (k : Int) ∧ Aside0 ((L.take k).all (sameL L) = true)) (fun i => L.length - (intOf i).toNat)
  case atStart => exact ⟨0, Nat.zero_le _, rfl, ⟨rfl⟩⟩
  case round =>
    obtain ⟨k, hk, rfl, HA⟩ := hrel
    by_cases hlt : k < L.length
    · obtain ⟨ad, A1, c1, rfl, hcell, hle1, hrow⟩ := row_at HC.out k hlt
      obtain ⟨A0, c0, hcell0, hle0⟩ := row_cell HC.out (Below.refl _ _) 0 (by omega)
      rw [add_zero_] at hcell0
      have hwk : IntKind.i64.wrap ((k : Int) + 1) = (k : Int) + 1 := by rw [IntKind.wrap_i64]; omega
      have hp : 0 < L.length := by omega
      clear hrow hle1 hle0
      obtain ⟨v, hv⟩ : ∃ v, v = L.getD k [] := ⟨_, rfl⟩
      obtain ⟨u, hu⟩ : ∃ v, v = L.getD 0 [] := ⟨_, rfl⟩
      rw [← hv] at hcell
      rw [← hu] at hcell0
      by_cases hs : v.length = u.length
      · have dn : ((v.length : Int) != (u.length : Int)) = false := by simp [hs]
        have HA2 : Aside0 ((L.take (k + 1)).all (sameL L) = true) := ⟨allL_succ hlt HA.out (by unfold sameL; rw [← hv, ← hu]; simpa using hs)⟩
        clear hs hv hu
        go_wp2
        go_round
        case rel => exact ⟨k + 1, by omega, by go_num, HA2⟩
        case measure => simp [intOf]; omega
      · have dn : ((v.length : Int) != (u.length : Int)) = true := by simp; omega
        have HE : Aside0 (checksV L = 13) := ⟨checksV_not (allL_not hlt (by unfold sameL; rw [← hv, ← hu]; simpa using hs))⟩
        clear hs hv hu
        go_wp2
        go_ret
        exact ⟨by rw [HE.out]; rfl, Below.refl _ _⟩
    · obtain rfl : k = L.length := by omega
      have HS : Aside0 (checksV L = firstE L) := ⟨checksV_same (by have := HA.out; rwa [List.take_length] at this)⟩
      clear hlt
      go_wp2_with (fail)
      go_loopw [24] (fun i wr => ∃ k : Nat, k ≤ L.length ∧ i = .int .i64 (k : Int) ∧ Aside0 (firstE L = firstE (L.drop k) ∧ Below w.heap.size w wr)) (fun i _ => L.length - (intOf i).toNat)
      case atStart => exact ⟨0, Nat.zero_le _, rfl, ⟨rfl, Below.refl _ _⟩⟩
      case round =>
        obtain ⟨k, hk, rfl, HB⟩ := hrel
        by_cases hlt : k < L.length
        · obtain ⟨ad, A1, c1, rfl, hcell0, hle1, hrow⟩ := row_get HC.out k hlt
          have hcell := hcell0 wr HB.out.2
          have HRw := Aside0.mk (Kd.C_below hrow HB.out.2)
          have HF := Aside0.mk (firstE_drop L k hlt)
          have hwk : IntKind.i64.wrap ((k : Int) + 1) = (k : Int) + 1 := by rw [IntKind.wrap_i64]; omega
          clear hrow hle1 hcell0
          generalize L.getD k [] = v at *
          go_wp2_with (fail)
          refine (tcheck_calls A1 c1 v wr HRw.out).mono ?_
          rintro e w1 ⟨rfl, hb⟩
          have HB1 := Aside0.mk (below_step HB.out.2 hb)
          clear hb hcell
          obtain ⟨z, hz⟩ : ∃ z, z = checkV v := ⟨_, rfl⟩
          rw [← hz] at HF ⊢
          clear hz
          by_cases hz0 : z = 0
          · subst hz0
            have HF2 : Aside0 (firstE L = firstE (L.drop (k + 1))) := ⟨by rw [HB.out.1, HF.out, if_pos rfl]⟩
            go_wp2
            go_roundw
            case rel => exact ⟨k + 1, by omega, by go_num, ⟨HF2.out, HB1.out⟩⟩
            case measure => simp [intOf]; omega
          · have dz : (z != 0) = true := by simpa using hz0
            have HF2 : Aside0 (checksV L = z) := ⟨by rw [HS.out, HB.out.1, HF.out, if_neg hz0]⟩
            clear hz0
            go_wp2
            go_ret
            exact ⟨by rw [HF2.out]; rfl, HB1.out⟩
        · obtain rfl : k = L.length := by omega
          have HF2 : Aside0 (checksV L = 0) := ⟨by rw [HS.out, HB.out.1, List.drop_length]; rfl⟩
          go_wp2
          go_ret
          exact ⟨by rw [HF2.out]; rfl, HB.out.2⟩
end Go.Proofs.YtfameghednapkaaDoor.Ten
