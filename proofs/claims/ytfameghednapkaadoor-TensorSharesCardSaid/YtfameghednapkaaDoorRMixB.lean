/- cupelref07.Mix: vectors together, each by its share. -/
import Derived.Test.YtfameghednapkaaDoorTenMixB
import Derived.Test.YtfameghednapkaaDoorRowsPB
import Derived.Test.YtfameghednapkaaDoorRCheckDB
import Derived.Test.YtfameghednapkaaDoorMulAllB
namespace Go.Proofs.YtfameghednapkaaDoor.Ten
open Go.RowKit Go.Proofs.YtfameghednapkaaDoorW.PrintWords Go.Proofs.YtfameghednapkaaDoorW.PrintLast Go.Proofs.YtfameghednapkaaDoorW.PrintMore Go.Proofs.YtfameghednapkaaDoor.K Go.Proofs.YtfameghednapkaaDoor.RI Go.Proofs.YtfameghednapkaaDoor.Fixed
set_option linter.unusedVariables false
set_option linter.unusedSimpArgs false
theorem rtold_calls (x : Int) (w : World) (r1 r2 : Int) (hr : toldV x = (r1, r2)) :
    Calls Tryd.prog 40 #[.int .i64 x] w fun e w' => e = .returned (.tuple #[.int .i64 r1, .int .i64 r2]) ∧ w = w' := by
  cases h : inR x with
  | true =>
    obtain ⟨rfl, rfl⟩ : x = r1 ∧ (0 : Int) = r2 := by simpa [toldV, h] using hr
    have HI := Aside0.mk (Is_calls x w true h)
    clear hr h
    go_enter Tryd.func40, Tryd.ntmps40
    go_wp2_with (fail)
    refine HI.out.mono ?_
    rintro e w1 ⟨rfl, rfl⟩
    go_wp2_with (fail)
    go_ret2
    exact ⟨rfl, rfl⟩
  | false =>
    obtain ⟨rfl, rfl⟩ : (0 : Int) = r1 ∧ (17 : Int) = r2 := by simpa [toldV, h] using hr
    have HI := Aside0.mk (Is_calls x w false h)
    clear hr h
    go_enter Tryd.func40, Tryd.ntmps40
    go_wp2_with (fail)
    refine HI.out.mono ?_
    rintro e w1 ⟨rfl, rfl⟩
    go_wp2_with (fail)
    go_ret2
    exact ⟨rfl, rfl⟩
theorem listEnd_err {E : Int} {L : List Int} {w w' : World} {e : Ending} {z : Int} (hE : E = z) (hz : z ≠ 0) (he : e = .returned (.tuple #[.slice none 0 0, .int .i64 z])) (hb : Below w.heap.size w w') : ListEnd E L w e w' :=
  ⟨fun _ => by rw [he, hE], fun h => absurd (hE.symm.trans h) hz, hb⟩
theorem sameL_bad {L : List (List Int)} {i : Nat} (hi : i < L.length) (h : (L.getD i []).length ≠ (L.getD 0 []).length) : checksV L = 13 := by
  unfold checksV
  rw [if_neg]
  intro h1
  exact h (of_decide_eq_true (List.all_eq_true.1 h1 _ (getD_mem_ hi)))
theorem sh_bad {sh : List Int} {i : Nat} (hi : i < sh.length) (h : isSh (sh.getD i 0) = false) : sh.all isSh = false := by
  cases h2 : sh.all isSh with
  | false => rfl
  | true =>
    have h3 := sh_get h2 i
    rw [show isSh (sh.getD i 0) = true by unfold isSh; exact decide_eq_true h3] at h
    cases h
theorem all_of_get {α : Type} {l : List α} {p : α → Bool} (d : α) (h : ∀ i, i < l.length → p (l.getD i d) = true) : l.all p = true := by
  rw [List.all_eq_true]
  intro x hx
  obtain ⟨i, hi, rfl⟩ := List.getElem_of_mem hx
  have := h i hi
  rwa [List.getD_eq_getElem?_getD, List.getElem?_eq_getElem hi] at this
theorem firstE_get {L : List (List Int)} : ∀ (i : Nat), i < L.length → (∀ j, j < i → checkV (L.getD j []) = 0) → checkV (L.getD i []) ≠ 0 → firstE L = checkV (L.getD i []) := by
  induction L with
  | nil => intro i hi; simp at hi
  | cons x t ih =>
    intro i hi hj hz
    cases i with
    | zero =>
      simp only [firstE]
      rw [if_neg (by simpa using hz)]
      rfl
    | succ i =>
      have h0 : checkV x = 0 := hj 0 (by omega)
      simp only [firstE]
      rw [if_pos h0]
      exact ih i (by simpa using hi) (fun j h => hj (j + 1) (by omega)) hz
theorem firstE_all {L : List (List Int)} (h : ∀ j, j < L.length → checkV (L.getD j []) = 0) : firstE L = 0 := by
  induction L with
  | nil => rfl
  | cons x t ih =>
    simp only [firstE]
    have h0 : checkV x = 0 := h 0 (by simp)
    rw [if_pos h0]
    exact ih fun j hj => h (j + 1) (by simp; omega)
theorem checks_first {L : List (List Int)} (h : ∀ j, j < L.length → (L.getD j []).length = (L.getD 0 []).length) : checksV L = firstE L := by
  unfold checksV
  rw [if_pos]
  exact all_of_get [] fun i hi => decide_eq_true (h i hi)
set_option maxHeartbeats 16000000 in
set_option maxRecDepth 100000 in
theorem rmix_calls (As : Option Addr) (cs : Nat) (sh : List Int) (Al : Option Addr) (cl : Nat) (L : List (List Int)) (w : World) (hS : Kd.C (Kd.int .i64) w As sh.length sh) (hL : Kd.C (Kd.slice 3 (Kd.int .i64)) w Al L.length L) :
    Calls Tryd.prog 29 #[.slice As sh.length cs, .slice Al L.length cl] w (ListEnd (mixE sh L) (mixL sh L) w) := by
  have HS := Aside0.mk hS
  have HL := Aside0.mk hL
  have hm1 := hS.2.1
  have hm2 := hL.2.1
  clear hS hL
  have HML : Aside0 (mixL sh L = outL (mixF sh L) (L.getD 0 []).length) := ⟨rfl⟩
  by_cases hbad : L.length = 0 ∨ 64 < L.length ∨ sh.length ≠ L.length
  · have HE : Aside0 (mixE sh L = 13) := ⟨if_pos hbad⟩
    by_cases h1 : L.length = 0
    · have d1 : decide ((L.length : Int) < 1) = true := by simp [h1]
      clear hbad h1
      go_enter Tryd.func29, Tryd.ntmps29
      go_wp2
      go_ret2
      exact listEnd_err HE.out (by decide) rfl (Below.refl _ _)
    · have d1 : decide ((L.length : Int) < 1) = false := by simp; omega
      by_cases h2 : 64 < L.length
      · have d2 : decide (64 < (L.length : Int)) = true := by simp; omega
        clear hbad h1 h2
        go_enter Tryd.func29, Tryd.ntmps29
        go_wp2
        go_ret2
        exact listEnd_err HE.out (by decide) rfl (Below.refl _ _)
      · have d2 : decide (64 < (L.length : Int)) = false := by simp; omega
        have h3 : sh.length ≠ L.length := by omega
        have d3 : ((sh.length : Int) != (L.length : Int)) = true := by simp; omega
        have d3' : (sh.length != L.length) = true := by simpa using h3
        clear hbad h1 h2 h3
        go_enter Tryd.func29, Tryd.ntmps29
        go_wp2
        go_ret2
        exact listEnd_err HE.out (by decide) rfl (Below.refl _ _)
  · have HN := Aside0.mk hbad
    have hp : 0 < L.length := by omega
    have d1 : decide ((L.length : Int) < 1) = false := by simp; omega
    have d2 : decide (64 < (L.length : Int)) = false := by simp; omega
    have h3 : sh.length = L.length := by omega
    have d3 : ((sh.length : Int) != (L.length : Int)) = false := by simp [h3]
    have d3' : (sh.length != L.length) = false := by simp [h3]
    have HP64 : Aside0 (L.length ≤ 64 ∧ sh.length = L.length ∧ 0 < L.length) := ⟨by omega⟩
    have HM : Aside0 (mixE sh L = if checksV L = 0 then (if sh.all isSh = true then errF (mixF sh L) (L.getD 0 []).length 0 else 10) else checksV L) := ⟨if_neg hbad⟩
    obtain ⟨adl, A0, c0, rfl, hcell0, hle0, hrow0⟩ := row_get HL.out 0 hp
    rw [add_zero_] at hcell0
    have HC0 := Aside0.mk hcell0
    clear hbad h3 hcell0 hle0 hrow0
    go_enter Tryd.func29, Tryd.ntmps29
    go_wp2_with (fail)
    clear d1 d2 d3 d3'
    go_loopw [6] (fun i wr => ∃ k : Nat, k ≤ L.length ∧ i = .int .i64 (k : Int) ∧ Aside0 ((∀ j, j < k → (L.getD j []).length = (L.getD 0 []).length) ∧ Drawn0 w wr)) (fun i _ => L.length - (intOf i).toNat)
    case atStart => exact ⟨0, Nat.zero_le _, rfl, ⟨fun j h => absurd h (by omega), ⟨⟨0, rfl⟩⟩⟩⟩
    case round =>
      obtain ⟨k, hk, rfl, HR⟩ := hrel
      obtain ⟨hal, ⟨⟨nd, rfl⟩⟩⟩ := HR.out
      have hlen := HP64.out.1
      by_cases hlt : k < L.length
      · obtain ⟨ad, Ak, ck, he, hcellk, hle, hrow⟩ := row_get HL.out k hlt
        obtain rfl : adl = ad := by injection he
        have hck := hcellk w (Below.refl _ _)
        have hc0 := HC0.out w (Below.refl _ _)
        have hwk : IntKind.i64.wrap ((k : Int) + 1) = (k : Int) + 1 := by rw [IntKind.wrap_i64]; omega
        clear hcellk he hle hrow
        obtain ⟨lk, hlk⟩ : ∃ n, n = (L.getD k []).length := ⟨_, rfl⟩
        obtain ⟨l0, hl0⟩ : ∃ n, n = (L.getD 0 []).length := ⟨_, rfl⟩
        by_cases heq : lk = l0
        · have HNext : Aside0 (∀ j, j < k + 1 → (L.getD j []).length = (L.getD 0 []).length) := ⟨fun j hj => by
            rcases Nat.lt_or_ge j k with h | h
            · exact hal j h
            · obtain rfl : j = k := by omega
              rw [← hlk, ← hl0, heq]⟩
          rw [← hlk] at hck
          rw [← hl0] at hc0
          have e1 : ((lk : Int) != (l0 : Int)) = false := by simp [heq]
          have e2 : (lk != l0) = false := by simp [heq]
          clear hal hlk hl0 heq HR hlen
          go_wp2_with (fail)
          go_quiet (fail)
          go_wp2
          go_roundw
          case rel => exact ⟨k + 1, by omega, by go_num, ⟨HNext.out, by first | exact ⟨⟨_, rfl⟩⟩ | exact ⟨⟨_, World.drewN_drewN _ _ _⟩⟩⟩⟩
          case measure => simp [intOf]; omega
        · have HE : Aside0 (mixE sh L = 13) := ⟨by rw [HM.out, sameL_bad hlt (by rw [← hlk, ← hl0]; exact heq), if_neg (by decide)]⟩
          rw [← hlk] at hck
          rw [← hl0] at hc0
          have e1 : ((lk : Int) != (l0 : Int)) = true := by simp; omega
          have e2 : (lk != l0) = true := by simpa using heq
          clear hal hlk hl0 heq HR hlen
          go_wp2_with (fail)
          go_quiet (fail)
          go_wp2
          go_ret2
          exact listEnd_err HE.out (by decide) rfl (by first | exact pw_below_drewN (Below.refl _ _) _ | exact pw_below_drewN (pw_below_drewN (Below.refl _ _) _) _)
      · obtain rfl : k = L.length := by omega
        have HSame := Aside0.mk hal
        have HCk : Aside0 (checksV L = firstE L) := ⟨checks_first hal⟩
        have HB0 : Aside0 (Below w.heap.size w (w.drewN nd)) := ⟨pw_below_drewN (Below.refl _ _) nd⟩
        clear hal HR hlen hlt
        generalize w.drewN nd = w0 at *
        go_wp2_with (fail)
        go_loopw [7] (fun i wr => ∃ k : Nat, k ≤ L.length ∧ i = .int .i64 (k : Int) ∧ Aside0 ((∀ j, j < k → checkV (L.getD j []) = 0) ∧ Below w.heap.size w wr)) (fun i _ => L.length - (intOf i).toNat)
        case atStart => exact ⟨0, Nat.zero_le _, rfl, ⟨fun j h => absurd h (by omega), HB0.out⟩⟩
        case round =>
          obtain ⟨k, hk, rfl, HR⟩ := hrel
          have hlen := HP64.out.1
          by_cases hlt : k < L.length
          · obtain ⟨ad, Ak, ck, he, hcellk, hle, hrow⟩ := row_get HL.out k hlt
            obtain rfl : adl = ad := by injection he
            have hck := hcellk wr HR.out.2
            have hwk : IntKind.i64.wrap ((k : Int) + 1) = (k : Int) + 1 := by rw [IntKind.wrap_i64]; omega
            have HCkk : Aside0 (∀ W, Below w.heap.size w W → Calls Tryd.prog 17 #[.slice Ak (L.getD k []).length ck] W fun e w' => e = .returned (.int .i64 (checkV (L.getD k []))) ∧ Below W.heap.size W w') := ⟨fun W hb => rcheck_calls Ak ck _ W (Kd.C_below hrow hb)⟩
            have HCell : Aside0 (∀ W, Below w.heap.size w W → W.cell? (adl.add k) = some (.slice Ak (L.getD k []).length ck)) := ⟨hcellk⟩
            obtain ⟨z, hz⟩ : ∃ z, z = checkV (L.getD k []) := ⟨_, rfl⟩
            rw [← hz] at HCkk
            clear hcellk he hle hrow
            by_cases hz0 : z = 0
            · subst hz0
              have HNext : Aside0 (∀ j, j < k + 1 → checkV (L.getD j []) = 0) := ⟨fun j hj => by
                rcases Nat.lt_or_ge j k with h | h
                · exact HR.out.1 j h
                · obtain rfl : j = k := by omega
                  exact hz.symm⟩
              clear hz HCell
              generalize (L.getD k []).length = lk at *
              go_wp2_with (fail)
              refine (HCkk.out wr HR.out.2).mono ?_
              rintro e w1 ⟨rfl, hb⟩
              have HB1 := Aside0.mk (below_step HR.out.2 hb)
              clear hb hck
              go_wp2_with (fail)
              go_roundw
              case rel => exact ⟨k + 1, by omega, by go_num, ⟨HNext.out, HB1.out⟩⟩
              case measure => simp [intOf]; omega
            · have HE : Aside0 (mixE sh L = z) := ⟨by
                have h1 : checksV L = z := by rw [HCk.out, hz]; exact firstE_get k hlt HR.out.1 (by rw [← hz]; exact hz0)
                rw [HM.out, h1, if_neg hz0]⟩
              have dz : (z != 0) = true := by simpa using hz0
              have HZ0 := Aside0.mk hz0
              clear hz hz0
              generalize (L.getD k []).length = lk at *
              go_wp2_with (fail)
              refine (HCkk.out wr HR.out.2).mono ?_
              rintro e w1 ⟨rfl, hb⟩
              have HB1 := Aside0.mk (below_step HR.out.2 hb)
              have hck1 := HCell.out w1 HB1.out
              clear hb hck
              go_wp2_with (fail)
              refine (HCkk.out w1 HB1.out).mono ?_
              rintro e w2 ⟨rfl, hb⟩
              have HB2 := Aside0.mk (below_step HB1.out hb)
              clear hb hck1
              go_wp2_with (fail)
              go_ret2
              exact listEnd_err HE.out HZ0.out rfl HB2.out
          · obtain rfl : k = L.length := by omega
            have HC9 : Aside0 (checksV L = 0) := ⟨by rw [HCk.out]; exact firstE_all HR.out.1⟩
            have HM2 : Aside0 (mixE sh L = if sh.all isSh = true then errF (mixF sh L) (L.getD 0 []).length 0 else 10) := ⟨by rw [HM.out, if_pos HC9.out]⟩
            have HB1 := Aside0.mk HR.out.2
            clear HR hlen hlt HB0
            obtain ⟨w1, rfl⟩ : ∃ w1 : World, w1 = wr := ⟨_, rfl⟩
            go_wp2_with (fail)
            go_loop [8] (fun i => ∃ k : Nat, k ≤ L.length ∧ i = .int .i64 (k : Int) ∧ Aside0 (∀ j, j < k → isSh (sh.getD j 0) = true)) (fun i => L.length - (intOf i).toNat)
            case atStart => exact ⟨0, Nat.zero_le _, rfl, ⟨fun j h => absurd h (by omega)⟩⟩
            case round =>
              obtain ⟨k, hk, rfl, HR⟩ := hrel
              have hlen := HP64.out.1
              by_cases hlt : k < L.length
              · have hks : k < sh.length := by have := HP64.out.2.1; omega
                obtain ⟨ads, rfl, hx⟩ := int_at (Kd.C_below HS.out HB1.out) k hks
                have hwk : IntKind.i64.wrap ((k : Int) + 1) = (k : Int) + 1 := by rw [IntKind.wrap_i64]; omega
                obtain ⟨x, hxe⟩ : ∃ x, x = sh.getD k 0 := ⟨_, rfl⟩
                rw [← hxe] at hx
                have hbadE : isSh x = false → Aside0 (mixE sh L = 10) := fun h => ⟨by rw [HM2.out, sh_bad hks (by rw [← hxe]; exact h), if_neg (by simp)]⟩
                by_cases b1 : x < 0
                · have e1 : decide (x < 0) = true := by simpa using b1
                  have HE := hbadE (by unfold isSh; simp; omega)
                  clear hbadE hxe b1
                  go_wp2
                  go_ret2
                  exact listEnd_err HE.out (by decide) rfl HB1.out
                · have e1 : decide (x < 0) = false := by simpa using b1
                  by_cases b2 : 65536 < x
                  · have e2 : decide (65536 < x) = true := by simpa using b2
                    have HE := hbadE (by unfold isSh; simp; omega)
                    clear hbadE hxe b1 b2
                    go_wp2
                    go_ret2
                    exact listEnd_err HE.out (by decide) rfl HB1.out
                  · have e2 : decide (65536 < x) = false := by simpa using b2
                    have HNext : Aside0 (∀ j, j < k + 1 → isSh (sh.getD j 0) = true) := ⟨fun j hj => by
                      rcases Nat.lt_or_ge j k with h | h
                      · exact HR.out j h
                      · obtain rfl : j = k := by omega
                        rw [← hxe]
                        unfold isSh
                        simp
                        omega⟩
                    clear hbadE hxe b1 b2
                    go_wp2
                    go_round
                    case rel => exact ⟨k + 1, by omega, by go_num, HNext⟩
                    case measure => simp [intOf]; omega
              · obtain rfl : k = L.length := by omega
                have HSh : Aside0 (sh.all isSh = true) := ⟨all_of_get 0 fun i hi => HR.out i (by have := HP64.out.2.1; omega)⟩
                have HE : Aside0 (mixE sh L = errF (mixF sh L) (L.getD 0 []).length 0) := ⟨by rw [HM2.out, if_pos HSh.out]⟩
                clear HR hlen hlt
                go_wp2_with (fail)
                obtain ⟨f, hf⟩ : ∃ f, f = mixF sh L := ⟨_, rfl⟩
                obtain ⟨n0, hn0⟩ : ∃ n, n = (L.getD 0 []).length := ⟨_, rfl⟩
                have HN0 : Aside0 (n0 ≤ 512) := ⟨by rw [hn0]; exact (check_ok_in (checks_ok HC9.out 0 HP64.out.2.2).2).2.2⟩
                have HRow : Aside0 (∀ m, m < L.length → (L.getD m []).length = n0) := ⟨fun m hm => by rw [hn0]; exact (checks_ok HC9.out m hm).1⟩
                have HFk : Aside0 (∀ k, f k = rtV (mixS sh L k sh.length)) := ⟨fun k => by rw [hf]; rfl⟩
                rw [← hf, ← hn0] at HE HML
                rw [← hn0] at HC0
                have HFf := Aside0.mk (And.intro hf hn0)
                clear hf hn0
                go_loopw [9, 10] (fun o i wr => ∃ k : Nat, k ≤ n0 ∧ i = .int .i64 (k : Int) ∧ Aside0 (wr.ownsRow w.heap.size 3 1 o (outL f k).length (nums .i64 (outL f k)) ∧ Below w.heap.size w wr ∧ errF f n0 0 = errF f (n0 - k) k)) (fun _ i _ => n0 - (intOf i).toNat)
                case atStart => exact ⟨0, Nat.zero_le _, rfl, ⟨own_nil _ _ _ _, HB1.out, rfl⟩⟩
                case round =>
                  obtain ⟨k, hk, rfl, HO⟩ := hrel
                  have hn5 := HN0.out
                  obtain ⟨A5, c5, rfl⟩ := own_slice HO.out.1
                  have hc0 := HC0.out wr HO.out.2.1
                  by_cases hlt : k < n0
                  · have d1 : decide ((k : Int) < (n0 : Int)) = true := by simp; omega
                    have d2 : decide (k < n0) = true := by simpa using hlt
                    have HK := Aside0.mk hlt
                    have hwk : IntKind.i64.wrap ((k : Int) + 1) = (k : Int) + 1 := by rw [IntKind.wrap_i64]; omega
                    obtain ⟨wo, rfl⟩ : ∃ wo : World, wo = wr := ⟨_, rfl⟩
                    clear hlt hk hn5
                    go_wp2_with (fail)
                    clear hc0 d1 d2
                    go_loopw [11, 12] (fun s i wx => ∃ m : Nat, m ≤ L.length ∧ i = .int .i64 (m : Int) ∧ s = .int .i64 (mixS sh L k m) ∧ Aside0 (Drawn0 wo wx)) (fun _ i _ => L.length - (intOf i).toNat)
                    case atStart => exact ⟨0, Nat.zero_le _, rfl, rfl, ⟨⟨0, rfl⟩⟩⟩
                    case round =>
                      obtain ⟨m, hm, rfl, rfl, HD⟩ := hrel
                      obtain ⟨⟨nd, rfl⟩⟩ := HD.out
                      have hlen := HP64.out.1
                      by_cases hlt : m < L.length
                      · have hms : m < sh.length := by have := HP64.out.2.1; omega
                        obtain ⟨ads, rfl, hx⟩ := int_at (Kd.C_below HS.out HO.out.2.1) m hms
                        obtain ⟨ad, Am, cm, he, hcellm, hle, hrow⟩ := row_get HL.out m hlt
                        obtain rfl : adl = ad := by injection he
                        have hcm := hcellm wo HO.out.2.1
                        have hkm : k < (L.getD m []).length := by rw [HRow.out m hlt]; exact HK.out
                        obtain ⟨adm, rfl, hy⟩ := int_at (Kd.C_below hrow HO.out.2.1) k hkm
                        have hs1 : mixS sh L k (m + 1) = mixS sh L k m + sh.getD m 0 * (L.getD m []).getD k 0 := rfl
                        have hb1 := mixS_bd (k := k) HSh.out HC9.out (m + 1) hlt
                        have hs3 := sh_get HSh.out m
                        have hs4 := getD_r (check_ok_in (checks_ok HC9.out m hlt).2).1 k
                        have hs2 := mul_bd (a := sh.getD m 0) (b := (L.getD m []).getD k 0) (A := 65536) (B := 2147483648) (by omega) (by omega) (by decide) (by decide)
                        obtain ⟨y, hye⟩ : ∃ y, y = (L.getD m []).getD k 0 := ⟨_, rfl⟩
                        obtain ⟨x, hxe⟩ : ∃ x, x = sh.getD m 0 := ⟨_, rfl⟩
                        rw [← hye] at hy hs1 hs2
                        rw [← hxe] at hx hs1 hs2
                        obtain ⟨q, hq⟩ : ∃ q, q = x * y := ⟨_, rfl⟩
                        obtain ⟨s', hs'⟩ : ∃ s, s = mixS sh L k (m + 1) := ⟨_, rfl⟩
                        rw [← hq] at hs1 hs2
                        rw [← hs'] at hs1 hb1
                        have hw1 : IntKind.i64.wrap (x * y) = q := by rw [← hq, IntKind.wrap_i64]; omega
                        have hw2 : IntKind.i64.wrap (mixS sh L k m + q) = s' := by rw [hs1, IntKind.wrap_i64]; omega
                        have hwm : IntKind.i64.wrap ((m : Int) + 1) = (m : Int) + 1 := by rw [IntKind.wrap_i64]; omega
                        have HS' := Aside0.mk hs'
                        generalize mixS sh L k m = s at *
                        generalize hrw : (L.getD m []).length = lm at *
                        have dkm : decide (k < lm) = true := by simpa using hkm
                        clear hrow hcellm he hs1 hb1 hs2 hs3 hs4 hq hs' hxe hye hle HD hlen hrw
                        go_wp2_with (fail)
                        go_quiet (fail)
                        go_wp2
                        go_roundw
                        case rel => exact ⟨m + 1, by omega, by go_num, by rw [HS'.out], ⟨by first | exact ⟨⟨_, rfl⟩⟩ | exact ⟨⟨_, World.drewN_drewN _ _ _⟩⟩⟩⟩
                        case measure => simp [intOf]; omega
                      · obtain rfl : m = L.length := by omega
                        have hb1 := mixS_bd (k := k) HSh.out HC9.out L.length (Nat.le_refl _)
                        have HR : Aside0 (-4611686018427387904 ≤ mixS sh L k L.length ∧ mixS sh L k L.length ≤ 4611686018427387904) := ⟨by omega⟩
                        have HB2 : Aside0 (Below wo.heap.size wo (wo.drewN nd)) := ⟨pw_below_drewN (Below.refl _ _) nd⟩
                        have HFF : Aside0 (f k = toldV (roundV (mixS sh L k L.length))) := ⟨by rw [HFk.out, HP64.out.2.1]; rfl⟩
                        clear hb1 hlt HD hlen
                        generalize wo.drewN nd = w2 at *
                        generalize mixS sh L k L.length = s at *
                        obtain ⟨⟨p1, p2⟩, hp2⟩ : ∃ p, p = f k := ⟨_, rfl⟩
                        have HT : Aside0 (toldV (roundV s) = (p1, p2)) := ⟨by rw [← HFF.out, ← hp2]⟩
                        obtain ⟨es, hes⟩ : ∃ es, es = outL f k := ⟨_, rfl⟩
                        have HO2 : Aside0 (w2.ownsRow w.heap.size 3 1 (.slice A5 es.length c5) es.length (nums .i64 es) ∧ Below w.heap.size w w2) := ⟨by rw [hes]; exact own_int (Kd.R_below (R_int HO.out.1) HB2.out), below_step HO.out.2.1 HB2.out⟩
                        have HX : Aside0 (outL f (k + 1) = es ++ [p1]) := ⟨by rw [outL_succ, ← hes, ← hp2]⟩
                        have HXl : Aside0 (es.length ≤ 512) := ⟨by have h1 := HK.out; have h2 := HN0.out; rw [hes, outL_length]; omega⟩
                        have hsub : n0 - k = (n0 - (k + 1)) + 1 := by have := HK.out; omega
                        have HEr : Aside0 (errF f n0 0 = if p2 = 0 then errF f (n0 - (k + 1)) (k + 1) else p2) := ⟨by
                          rw [HO.out.2.2, hsub]
                          show (if (f k).2 = 0 then errF f (n0 - (k + 1)) (k + 1) else (f k).2) = _
                          rw [← hp2]⟩
                        rw [← hes]
                        clear hes hp2 hsub HO
                        go_wp2_with (fail)
                        refine (Round_calls s w2 (by have := HR.out; omega) (by have := HR.out; omega) _ rfl).mono ?_
                        rintro e w3 ⟨rfl, rfl⟩
                        go_wp2_with (fail)
                        refine (rtold_calls (roundV s) w2 p1 p2 HT.out).mono ?_
                        rintro e w3 ⟨rfl, rfl⟩
                        by_cases hp0 : p2 = 0
                        · subst hp0
                          have HEn : Aside0 (errF f n0 0 = errF f (n0 - (k + 1)) (k + 1)) := ⟨by rw [HEr.out, if_pos rfl]⟩
                          go_wp2_with (at_builtin; refine print_append_num (w0 := w) w.heap.size rfl (.tmp 118) (.tmp 120) 22 3 .i64 8 rfl Tryd.underlying22 info_int (by decide) _ es _ rfl rfl HO2.out.1 HO2.out.2 HO2.out.2.size ?_ ?_; rotate_left; intro v1 w4 hown hbw hgr hat; have HA := Aside0.mk (And.intro hown hbw); clear hown hbw hgr hat)
                          · refine ⟨⟨k + 1, by have := HK.out; omega, by go_num, ⟨by rw [HX.out]; exact HA.out.1, HA.out.2, HEn.out⟩⟩, by have := HK.out; simp [intOf]; omega⟩
                          · have := HXl.out
                            omega
                        · have HEn : Aside0 (mixE sh L = p2) := ⟨by rw [HE.out, HEr.out, if_neg hp0]⟩
                          have HP0 := Aside0.mk hp0
                          have dp : (p2 != 0) = true := by simpa using hp0
                          clear hp0
                          go_wp2_with (fail)
                          go_ret2
                          exact listEnd_err HEn.out HP0.out rfl HO2.out.2
                  · obtain rfl : k = n0 := by omega
                    have d1 : decide ((k : Int) < (k : Int)) = false := by simp
                    have d2 : decide (k < k) = false := by simp
                    have HEz : Aside0 (mixE sh L = 0) := ⟨by rw [HE.out, HO.out.2.2, Nat.sub_self]; rfl⟩
                    obtain ⟨A3, c3, he3, hC3, hle3⟩ := own_slice_le (R_int HO.out.1)
                    cases he3
                    have HC3 := Aside0.mk hC3
                    have HLe := Aside0.mk hle3
                    clear hC3 hle3 hlt hk hn5
                    go_wp2_with (fail)
                    go_ret2
                    exact ⟨fun h => absurd HEz.out h, fun _ => ⟨A5, c5, by rw [HML.out]; rfl, by rw [HML.out]; exact HC3.out, by rw [HML.out]; exact HLe.out⟩, HO.out.2.1⟩
end Go.Proofs.YtfameghednapkaaDoor.Ten
