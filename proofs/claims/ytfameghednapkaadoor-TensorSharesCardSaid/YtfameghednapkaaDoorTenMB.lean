/- tensor: a matrix's Check, and the reference's. -/
import Derived.Test.YtfameghednapkaaDoorTenDotPB
namespace Go.Proofs.YtfameghednapkaaDoor.Ten
open Go.RowKit Go.Proofs.YtfameghednapkaaDoorW.PrintWords Go.Proofs.YtfameghednapkaaDoorW.PrintLast Go.Proofs.YtfameghednapkaaDoorW.PrintMore Go.Proofs.YtfameghednapkaaDoor.K Go.Proofs.YtfameghednapkaaDoor.Fixed Go.Proofs.YtfameghednapkaaDoor.PTensorDots
set_option linter.unusedVariables false
set_option linter.unusedSimpArgs false
def mV (rows cols : Int) (l : List Int) : Int := if rows < 1 ∨ 512 < rows ∨ cols < 1 ∨ 64 < cols ∨ (l.length : Int) ≠ rows * cols then 13 else if l.all isW = true then 0 else 10
def matA (rows cols : Int) (A : Option Addr) (n c : Nat) : Array Value := #[.int .i64 rows, .int .i64 cols, .slice A n c]
set_option maxHeartbeats 4000000 in
set_option maxRecDepth 100000 in
theorem mcheck_calls (rows cols : Int) (A : Option Addr) (c : Nat) (l : List Int) (w : World) (hC : Kd.C (Kd.int .i64) w A l.length l) :
    Calls Tryd.prog 23 #[.agg #[.int .i64 rows, .int .i64 cols, .slice A l.length c]] w fun e w' => e = .returned (.int .i64 (mV rows cols l)) ∧ Below w.heap.size w w' := by
  have hend : (rows < 1 ∨ 512 < rows ∨ cols < 1 ∨ 64 < cols ∨ (l.length : Int) ≠ rows * cols) → Aside0 (mV rows cols l = 13) := fun h => ⟨if_pos h⟩
  have HB0 : Aside0 (Below w.heap.size w (w.alloc (.cells #[.int .i64 rows, .int .i64 cols, .slice A l.length c] 36))) := ⟨bel_alloc (Below.refl _ _) _⟩
  have HK : Aside0 (∀ W, Below w.heap.size w W → Calls Tryd.prog 34 #[.slice A l.length c, .func (.func 35) #[] #[]] W fun e w' => e = .returned (.bool (l.all isW)) ∧ Below W.heap.size W w') := ⟨fun W hb => all_calls 35 #[] #[] isW A c l W (Kd.C_below hC hb) (enters_ Tryd.func35 (by kernel_rfl) rfl) (fun x W hb => weight_calls x W)⟩
  clear hC
  by_cases h1 : rows < 1
  · have d1 : decide (rows < 1) = true := by simpa using h1
    have HE := hend (.inl h1)
    rw [HE.out]
    clear hend h1
    go_enter Tryd.func23, Tryd.ntmps23
    go_wp2
    go_ret
    exact ⟨rfl, HB0.out⟩
  · have d1 : decide (rows < 1) = false := by simpa using h1
    by_cases h2 : 512 < rows
    · have d2 : decide (512 < rows) = true := by simpa using h2
      have HE := hend (.inr (.inl h2))
      rw [HE.out]
      clear hend h1 h2
      go_enter Tryd.func23, Tryd.ntmps23
      go_wp2
      go_ret
      exact ⟨rfl, HB0.out⟩
    · have d2 : decide (512 < rows) = false := by simpa using h2
      by_cases h3 : cols < 1
      · have d3 : decide (cols < 1) = true := by simpa using h3
        have HE := hend (.inr (.inr (.inl h3)))
        rw [HE.out]
        clear hend h1 h2 h3
        go_enter Tryd.func23, Tryd.ntmps23
        go_wp2
        go_ret
        exact ⟨rfl, HB0.out⟩
      · have d3 : decide (cols < 1) = false := by simpa using h3
        by_cases h4 : 64 < cols
        · have d4 : decide (64 < cols) = true := by simpa using h4
          have HE := hend (.inr (.inr (.inr (.inl h4))))
          rw [HE.out]
          clear hend h1 h2 h3 h4
          go_enter Tryd.func23, Tryd.ntmps23
          go_wp2
          go_ret
          exact ⟨rfl, HB0.out⟩
        · have d4 : decide (64 < cols) = false := by simpa using h4
          obtain ⟨p, hp⟩ : ∃ p, p = rows * cols := ⟨_, rfl⟩
          have hpb := mul_bd (a := rows) (b := cols) (A := 512) (B := 64) (by omega) (by omega) (by decide) (by decide)
          have hwp : IntKind.i64.wrap (rows * cols) = p := by rw [hp, IntKind.wrap_i64]; omega
          by_cases h5 : (l.length : Int) ≠ rows * cols
          · have d5 : ((l.length : Int) != p) = true := by rw [hp]; simpa using h5
            have HE := hend (.inr (.inr (.inr (.inr h5))))
            rw [HE.out]
            clear hend h1 h2 h3 h4 h5 hp hpb
            go_enter Tryd.func23, Tryd.ntmps23
            go_wp2
            go_ret
            exact ⟨rfl, HB0.out⟩
          · have d5 : ((l.length : Int) != p) = false := by rw [hp]; simpa using h5
            obtain ⟨q, hq⟩ : ∃ q, l.all isW = q := ⟨_, rfl⟩
            have HE : Aside0 (mV rows cols l = if q = true then 0 else 10) := ⟨by rw [← hq]; exact if_neg (by omega)⟩
            have HK2 := Aside0.mk (HK.out _ HB0.out)
            rw [hq] at HK2
            rw [HE.out]
            clear hend h1 h2 h3 h4 h5 hp hpb HE hq
            cases q with
            | true =>
              go_enter Tryd.func23, Tryd.ntmps23
              go_wp2_with (fail)
              refine HK2.out.mono ?_
              rintro e w1 ⟨rfl, hb⟩
              have HB1 := Aside0.mk (below_step HB0.out hb)
              clear hb
              go_wp2
              go_ret
              exact ⟨rfl, HB1.out⟩
            | false =>
              go_enter Tryd.func23, Tryd.ntmps23
              go_wp2_with (fail)
              refine HK2.out.mono ?_
              rintro e w1 ⟨rfl, hb⟩
              have HB1 := Aside0.mk (below_step HB0.out hb)
              clear hb
              go_wp2
              go_ret
              exact ⟨rfl, HB1.out⟩
theorem rweight_calls (x : Int) (w : World) :
    Calls Tryd.prog 38 #[.int .i64 x] w fun e w' => e = .returned (.bool (isW x)) ∧ Drawn0 w w' :=
  cupelref07_Weight.calls x _ w (rweight_f x)
set_option maxHeartbeats 4000000 in
set_option maxRecDepth 100000 in
theorem rmatrix_calls (rows cols : Int) (A : Option Addr) (c : Nat) (l : List Int) (w : World) (hC : Kd.C (Kd.int .i64) w A l.length l) :
    Calls Tryd.prog 21 #[.int .i64 rows, .int .i64 cols, .slice A l.length c] w fun e w' => e = .returned (.int .i64 (mV rows cols l)) ∧ Below w.heap.size w w' := by
  have hend : (rows < 1 ∨ 512 < rows ∨ cols < 1 ∨ 64 < cols ∨ (l.length : Int) ≠ rows * cols) → Aside0 (mV rows cols l = 13) := fun h => ⟨if_pos h⟩
  have HC := Aside0.mk hC
  have hm := hC.2.1
  clear hC
  by_cases h1 : rows < 1
  · have d1 : decide (rows < 1) = true := by simpa using h1
    have HE := hend (.inl h1)
    rw [HE.out]
    clear hend h1
    go_enter Tryd.func21, Tryd.ntmps21
    go_wp2
    go_ret
    exact ⟨rfl, Below.refl _ _⟩
  · have d1 : decide (rows < 1) = false := by simpa using h1
    by_cases h2 : 512 < rows
    · have d2 : decide (512 < rows) = true := by simpa using h2
      have HE := hend (.inr (.inl h2))
      rw [HE.out]
      clear hend h1 h2
      go_enter Tryd.func21, Tryd.ntmps21
      go_wp2
      go_ret
      exact ⟨rfl, Below.refl _ _⟩
    · have d2 : decide (512 < rows) = false := by simpa using h2
      by_cases h3 : cols < 1
      · have d3 : decide (cols < 1) = true := by simpa using h3
        have HE := hend (.inr (.inr (.inl h3)))
        rw [HE.out]
        clear hend h1 h2 h3
        go_enter Tryd.func21, Tryd.ntmps21
        go_wp2
        go_ret
        exact ⟨rfl, Below.refl _ _⟩
      · have d3 : decide (cols < 1) = false := by simpa using h3
        by_cases h4 : 64 < cols
        · have d4 : decide (64 < cols) = true := by simpa using h4
          have HE := hend (.inr (.inr (.inr (.inl h4))))
          rw [HE.out]
          clear hend h1 h2 h3 h4
          go_enter Tryd.func21, Tryd.ntmps21
          go_wp2
          go_ret
          exact ⟨rfl, Below.refl _ _⟩
        · have d4 : decide (64 < cols) = false := by simpa using h4
          obtain ⟨p, hp⟩ : ∃ p, p = rows * cols := ⟨_, rfl⟩
          have hpb := mul_bd (a := rows) (b := cols) (A := 512) (B := 64) (by omega) (by omega) (by decide) (by decide)
          have hwp : IntKind.i64.wrap (rows * cols) = p := by rw [hp, IntKind.wrap_i64]; omega
          by_cases h5 : (l.length : Int) ≠ rows * cols
          · have d5 : ((l.length : Int) != p) = true := by rw [hp]; simpa using h5
            have HE := hend (.inr (.inr (.inr (.inr h5))))
            rw [HE.out]
            clear hend h1 h2 h3 h4 h5 hp hpb
            go_enter Tryd.func21, Tryd.ntmps21
            go_wp2
            go_ret
            exact ⟨rfl, Below.refl _ _⟩
          · have d5 : ((l.length : Int) != p) = false := by rw [hp]; simpa using h5
            have HE : Aside0 (mV rows cols l = if l.all isW = true then 0 else 10) := ⟨if_neg (by omega)⟩
            clear hend h1 h2 h3 h4 h5 hp hpb
            go_enter Tryd.func21, Tryd.ntmps21
            go_wp2_with (fail)
            go_loopw [7] (fun i wr => ∃ k : Nat, k ≤ l.length ∧ i = .int .i64 (k : Int) ∧ Aside0 ((l.take k).all isW = true ∧ Below w.heap.size w wr)) (fun i _ => l.length - (intOf i).toNat)
            case atStart => exact ⟨0, Nat.zero_le _, rfl, ⟨by simp, Below.refl _ _⟩⟩
            case round =>
              obtain ⟨k, hk, rfl, HR⟩ := hrel
              by_cases hlt : k < l.length
              · obtain ⟨ad, rfl, hc⟩ := int_at' HC.out HR.out.2 k hlt
                have HS : Aside0 ((l.take (k + 1)).all isW = isW (l.getD k 0)) := ⟨by rw [List.take_succ_eq_append_getElem hlt, List.all_append, HR.out.1, List.getD_eq_getElem?_getD, List.getElem?_eq_getElem hlt]; simp⟩
                have HN : Aside0 (isW (l.getD k 0) = false → l.all isW = false) := ⟨fun h => by
                  rw [← List.take_append_drop (k + 1) l, List.all_append, HS.out, h, Bool.false_and]⟩
                generalize l.getD k 0 = x at *
                go_wp2_with (fail)
                refine (rweight_calls x wr).mono ?_
                rintro e w1 ⟨rfl, hd⟩
                have HB := Aside0.mk (below_step HR.out.2 hd.below)
                clear hd hc
                cases hp : isW x with
                | true =>
                  have HF : Aside0 ((l.take (k + 1)).all isW = true) := ⟨by rw [HS.out, hp]⟩
                  clear hp
                  go_wp2
                  go_roundw
                  case rel => exact ⟨k + 1, by omega, by go_num, ⟨HF.out, HB.out⟩⟩
                  case measure => simp [intOf]; omega
                | false =>
                  have HF : Aside0 (mV rows cols l = 10) := ⟨by rw [HE.out, HN.out hp]; rfl⟩
                  clear hp
                  go_wp2
                  go_ret
                  exact ⟨by rw [HF.out]; rfl, HB.out⟩
              · obtain rfl : k = l.length := by omega
                have HF : Aside0 (mV rows cols l = 0) := ⟨by rw [HE.out, if_pos (by have := HR.out.1; rwa [List.take_of_length_le (Nat.le_refl _)] at this)]⟩
                go_wp2
                go_ret
                exact ⟨by rw [HF.out]; rfl, HR.out.2⟩
end Go.Proofs.YtfameghednapkaaDoor.Ten
