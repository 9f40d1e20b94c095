/- draw: Choose. -/
import Derived.Test.YtdmeocoehahopaaDoorChoosePB
namespace Go.Proofs.YtdmeocoehahopaaDoor.Draw
open Go.RowKit Go.Proofs.YtdmeocoehahopaaDoorW.PrintWords Go.Proofs.YtdmeocoehahopaaDoorW.PrintLast Go.Proofs.YtdmeocoehahopaaDoorW.PrintMore Go.Proofs.YtdmeocoehahopaaDoor.K Go.Proofs.YtdmeocoehahopaaDoor.Sha Go.Proofs.YtdmeocoehahopaaDoor.Codec Go.Proofs.YtdmeocoehahopaaDoor.RI Go.Proofs.YtdmeocoehahopaaDoor.Ten
set_option linter.unusedVariables false
set_option linter.unusedSimpArgs false
/-- A row that does not lie in the block g. -/
def Off (g : Nat) (A : Option Addr) (n : Nat) : Prop := 0 < n → ∀ ad, A = some ad → ad.block ≠ g
theorem C_keep {k : IntKind} {w w' : World} {A : Option Addr} {n g : Nat} {xs : List Int} (h : Kd.C (Kd.int k) w A n xs) (ho : Off g A n) (hk : KeepBut w w' g none) : Kd.C (Kd.int k) w' A n xs := by
  have h1 := reads_int h
  refine C_int ⟨h1.1, h1.2.1, fun hn => ?_⟩
  obtain ⟨ad, e, hc⟩ := h1.2.2 hn
  refine ⟨ad, e, fun j hj => ?_⟩
  have h2 := hc j hj
  have h3 := World.block_lt_of_cell? w _ h2
  have h4 : (ad.add j).block = ad.block := by unfold Addr.add; split <;> rfl
  have h5 := hk.2 (ad.add j).block h3 (by rw [h4]; exact ho hn ad e) (by simp)
  rw [← h2]
  unfold World.cell?
  rw [h5]
theorem off_below {k : IntKind} {w : World} {A : Option Addr} {n g : Nat} {xs : List Int} (h : Kd.C (Kd.int k) w A n xs) (hg : w.heap.size ≤ g) : Off g A n := fun hn ad e => by
  obtain ⟨ad', e', hc⟩ := (reads_int h).2.2 hn
  rw [e] at e'
  cases e'
  have h3 := World.block_lt_of_cell? w _ (hc 0 hn)
  have h4 : (ad.add 0).block = ad.block := by unfold Addr.add; split <;> rfl
  omega
set_option maxHeartbeats 8000000 in
set_option maxRecDepth 100000 in
theorem choose1_calls (d : List Int) (A : Option Addr) (cc : Nat) (ws : List Int) (c : Int) (g B Bw Bs : Nat) (w : World) (hd : d.length = 32) (hby : ∀ x ∈ d, 0 ≤ x ∧ x < 256) (hS : StrAt w g d c) (h0 : 0 ≤ c) (h1 : c ≤ 9223372036854775807) (hB : B ≤ g) (hLo : Lo B w)
    (hC : Kd.C (Kd.int .i64) w A ws.length ws) (ho : Off g A ws.length)
    (hbw : w.heap[Bw]? = some (.cells #[.slice A ws.length cc] 41 (0, 0))) (hbs : w.heap[Bs]? = some (.cells #[.pointer (some ⟨g, 0, none⟩)] 27 (0, 0))) :
    Calls Tryd.prog 31 #[.pointer (some ⟨Bw, 0, none⟩), .pointer (some ⟨Bs, 0, none⟩)] w fun e w' => ∃ x er c', ChooseR d ws c x er c' ∧ e = .returned (.tuple #[.int .i64 x, .int .i64 er]) ∧ Moved B g d w w' c' := by
  have hcw := blk_cell hbw 0
  have hcs := blk_cell hbs 0
  simp only [List.getElem?_toArray, List.getElem?_cons_zero] at hcw hcs
  have HD := Aside0.mk hd
  have HBy := Aside0.mk hby
  have HS := Aside0.mk hS
  have H0 := Aside0.mk h0
  have H1 := Aside0.mk h1
  have HB := Aside0.mk hB
  have HLo := Aside0.mk hLo
  have HBw := Aside0.mk hbw
  have HBs := Aside0.mk hbs
  have HC := Aside0.mk hC
  have HOf := Aside0.mk ho
  have HNw : Aside0 (Bw ≠ g) := ⟨blk_ne hbw hS (by decide)⟩
  have HNs : Aside0 (Bs ≠ g) := ⟨blk_ne hbs hS (by decide)⟩
  have HM0 := Aside0.mk (Moved.refl (B := B) hS)
  have hm := hC.2.1
  clear hd hby hS h0 h1 hB hLo hbw hbs hC ho
  have hend : (ws.length = 0 ∨ 512 < ws.length) → Aside0 (ChooseR d ws c 0 13 c) := fun h => ⟨chooseV_size h⟩
  by_cases h2 : ws.length = 0
  · have d2 : ((ws.length : Int) == 0) = true := by simp [h2]
    have HE := hend (.inl h2)
    clear hend h2
    go_enter Tryd.func31, Tryd.ntmps31
    go_wp2
    go_ret2
    exact ⟨_, _, _, HE.out, rfl, HM0.out⟩
  · have d2 : ((ws.length : Int) == 0) = false := by simp; exact fun h => h2 (by rw [h]; rfl)
    by_cases h3 : 512 < ws.length
    · have d3 : decide (512 < (ws.length : Int)) = true := by simp; omega
      have HE := hend (.inr h3)
      clear hend h2 h3
      go_enter Tryd.func31, Tryd.ntmps31
      go_wp2
      go_ret2
      exact ⟨_, _, _, HE.out, rfl, HM0.out⟩
    · have d3 : decide (512 < (ws.length : Int)) = false := by simp; omega
      have HSz : Aside0 (¬ (ws.length = 0 ∨ 512 < ws.length)) := ⟨by omega⟩
      have hp : 0 < ws.length := by omega
      obtain ⟨ad, rfl, hadz⟩ := int_at HC.out 0 hp
      clear hadz
      clear hend h2
      go_enter Tryd.func31, Tryd.ntmps31
      go_wp2_with (fail)
      have HMl : Aside0 (ws.length ≤ 512) := ⟨by omega⟩
      clear d2 d3 h3
      go_loop [4, 21] (fun s i => ∃ k : Nat, k ≤ ws.length ∧ i = .int .i64 (k : Int) ∧ s = .int .i64 (preV ws k) ∧ Aside0 ((ws.take k).all isWt = true)) (fun _ i => ws.length - (intOf i).toNat)
      case atStart => exact ⟨0, Nat.zero_le _, rfl, rfl, ⟨rfl⟩⟩
      case round =>
        obtain ⟨k, hk, rfl, rfl, HA⟩ := hrel
        by_cases hlt : k < ws.length
        · have hx := int_cell HC.out (Below.refl _ _) k hlt
          have hbd := preV_bd' HA.out hk
          have hsc := preV_succ ws k hlt
          obtain ⟨x, hxe⟩ : ∃ x, x = ws.getD k 0 := ⟨_, rfl⟩
          rw [← hxe] at hx hsc
          have hwk : IntKind.i64.wrap ((k : Int) + 1) = (k : Int) + 1 := by rw [IntKind.wrap_i64]; omega
          by_cases hb1 : x < 0
          · have dx : decide (x < 0) = true := by simpa using hb1
            have HE : Aside0 (ChooseR d ws c 0 10 c) := ⟨chooseV_range HSz.out (all_not hlt (by rw [← hxe]; unfold isWt; simp; omega))⟩
            clear hbd hsc hxe hb1
            go_wp2
            go_ret2
            exact ⟨_, _, _, HE.out, rfl, HM0.out⟩
          · have dx : decide (x < 0) = false := by simpa using hb1
            by_cases hb2 : 2147483648 < x
            · have dy : decide (2147483648 < x) = true := by simpa using hb2
              have HE : Aside0 (ChooseR d ws c 0 10 c) := ⟨chooseV_range HSz.out (all_not hlt (by rw [← hxe]; unfold isWt; simp; omega))⟩
              clear hbd hsc hxe hb1 hb2
              go_wp2
              go_ret2
              exact ⟨_, _, _, HE.out, rfl, HM0.out⟩
            · have dy : decide (2147483648 < x) = false := by simpa using hb2
              have HA2 : Aside0 ((ws.take (k + 1)).all isWt = true) := ⟨take_all_succ hlt HA.out (by rw [← hxe]; unfold isWt; simp; omega)⟩
              obtain ⟨s, hs⟩ : ∃ s, s = preV ws (k + 1) := ⟨_, rfl⟩
              have hws : IntKind.i64.wrap (preV ws k + x) = s := by have := HMl.out; rw [hs, hsc, IntKind.wrap_i64]; omega
              generalize preV ws k = p at *
              have HSs := Aside0.mk hs
              clear hbd hsc hxe hb1 hb2 hs
              go_wp2
              go_round
              case rel => exact ⟨k + 1, by omega, by go_num, by rw [HSs.out], HA2⟩
              case measure => simp [intOf]; omega
        · obtain rfl : k = ws.length := by omega
          have HAll : Aside0 (ws.all isWt = true) := ⟨by have := HA.out; rwa [List.take_length] at this⟩
          have hbd := preV_bd HAll.out ws.length (Nat.le_refl _)
          have HSu : Aside0 (preV ws ws.length = sumV ws) := ⟨preV_all ws⟩
          have HL3 := HMl.out
          obtain ⟨s, hs⟩ : ∃ s, s = preV ws ws.length := ⟨_, rfl⟩
          rw [← hs] at hbd HSu ⊢
          clear hs
          by_cases hz : s = 0
          · subst hz
            have HE : Aside0 (ChooseR d ws c 0 14 c) := ⟨chooseV_none HSz.out HAll.out HSu.out.symm⟩
            clear hbd
            go_wp2
            go_ret2
            exact ⟨_, _, _, HE.out, rfl, HM0.out⟩
          · have dz : (s == 0) = false := by simpa using hz
            have HSn : Aside0 (sumV ws ≠ 0) := ⟨by rw [← HSu.out]; exact hz⟩
            have HSb : Aside0 (0 < s ∧ s ≤ 9223372036854775807) := ⟨by omega, by omega⟩
            clear hbd hz HL3
            go_wp2_with (fail)
            refine (Below_calls d s c g B w HD.out HBy.out HS.out H0.out H1.out HSb.out.2 HB.out HLo.out).mono ?_
            rintro e w1 ⟨x, er, c', hR, ⟨rfl, rfl, hm⟩ | ⟨her, rfl, hm⟩⟩
            · have HM := Aside0.mk hm
              have hxr := belowV_x HSb.out.1 hR
              have HR : Aside0 (ChooseR d ws c (atL ws x : Int) 0 c') := ⟨chooseV_ok HSz.out HAll.out HSn.out (by rw [← HSu.out]; exact hR)⟩
              have hcw := blk_cell (hm.keep.blk HBw.out HNw.out (by simp)) 0
              simp only [List.getElem?_toArray, List.getElem?_cons_zero] at hcw
              have HC1 := Aside0.mk (C_keep HC.out HOf.out hm.keep)
              have HI0 : Aside0 (AtInv ws x 0) := ⟨AtInv.start hp hxr.1 (by rw [← HSu.out]; exact hxr.2)⟩
              have hx0 := int_cell HC1.out (Below.refl _ _) 0 hp
              have hp1 := preV_succ ws 0 hp
              rw [preV_zero, Int.zero_add] at hp1
              rw [← hp1, show ad.add 0 = ad by cases ad; simp [Addr.add]] at hx0
              have HX0 := hxr.1
              clear hR hm hcs hxr hp1 HA HS HM0 dz hlt
              go_wp2_with (fail)
              go_loop [9, 10] (fun a s => ∃ k : Nat, a = .int .i64 (k : Int) ∧ s = .int .i64 (preV ws (k + 1)) ∧ Aside0 (AtInv ws x k)) (fun a _ => ws.length - (intOf a).toNat)
              case atStart => exact ⟨0, rfl, rfl, HI0⟩
              case round =>
                clear hx0
                obtain ⟨k, rfl, rfl, HI⟩ := hrel
                have hkl := HI.out.1
                have HLn := HMl.out
                by_cases hle : preV ws (k + 1) ≤ x
                · have hI2 := HI.out.next hle
                  have hx1 := int_cell HC1.out (Below.refl _ _) (k + 1) hI2.1
                  have hs2 := preV_succ ws (k + 1) hI2.1
                  have hbd := preV_bd HAll.out (k + 1 + 1) (by have := hI2.1; omega)
                  have dle : decide (preV ws (k + 1) ≤ x) = true := by simpa using hle
                  obtain ⟨s2, hs2e⟩ : ∃ s, s = preV ws (k + 1 + 1) := ⟨_, rfl⟩
                  obtain ⟨y, hy⟩ : ∃ y, y = ws.getD (k + 1) 0 := ⟨_, rfl⟩
                  rw [← hs2e] at hs2 hbd
                  rw [← hy] at hs2 hx1
                  have hws : IntKind.i64.wrap (preV ws (k + 1) + y) = s2 := by rw [← hs2, IntKind.wrap_i64]; omega
                  obtain ⟨m, hmk⟩ : ∃ m, m = k + 1 := ⟨_, rfl⟩
                  have hwk : IntKind.i64.wrap ((k : Int) + 1) = (m : Int) := by rw [IntKind.wrap_i64]; omega
                  have HS2 := Aside0.mk hs2e
                  have HI2 := Aside0.mk hI2
                  have hk1 : m < ws.length := by rw [hmk]; exact hI2.1
                  rw [← hmk] at hx1
                  have HMk := Aside0.mk hmk
                  generalize preV ws (k + 1) = s1 at *
                  clear hle hs2 hbd hs2e hy hI2 hkl hmk
                  go_wp2
                  go_round
                  case rel => exact ⟨m, rfl, by rw [HS2.out, HMk.out], by rw [HMk.out]; exact HI2⟩
                  case measure => have := HMk.out; simp [intOf]; omega
                · have dle : decide (preV ws (k + 1) ≤ x) = false := by simpa using hle
                  have HF : Aside0 (ChooseR d ws c (k : Int) 0 c') := ⟨by have := HR.out; rwa [HI.out.done (by omega)] at this⟩
                  generalize preV ws (k + 1) = s1 at *
                  clear hle
                  go_wp2
                  go_ret2
                  exact ⟨_, _, _, HF.out, rfl, HM.out⟩
            · have HM := Aside0.mk hm
              have HR : Aside0 (ChooseR d ws c 0 er c) := ⟨chooseV_err HSz.out HAll.out HSn.out (by rw [← HSu.out]; exact hR) her⟩
              have dn : (er != 0) = true := by simpa using her
              clear hR hm her
              go_wp2
              go_ret2
              exact ⟨_, _, _, HR.out, rfl, HM.out⟩
set_option maxHeartbeats 4000000 in
set_option maxRecDepth 100000 in
theorem Choose_calls (d : List Int) (A : Option Addr) (cc : Nat) (ws : List Int) (c : Int) (g B : Nat) (w : World) (hd : d.length = 32) (hby : ∀ x ∈ d, 0 ≤ x ∧ x < 256) (hS : StrAt w g d c) (h0 : 0 ≤ c) (h1 : c ≤ 9223372036854775807) (hB : B ≤ g) (hLo : Lo B w)
    (hC : Kd.C (Kd.int .i64) w A ws.length ws) (ho : Off g A ws.length) :
    Calls Tryd.prog 19 #[.pointer (some ⟨g, 0, none⟩), .slice A ws.length cc] w (BackEnd B g d c (ChooseR d ws c) w) := by
  have HB0 : Aside0 (Below w.heap.size w ((w.alloc (.cells #[.pointer (some ⟨g, 0, none⟩)] 27)).alloc (.cells #[.slice A ws.length cc] 41))) := ⟨bel_alloc (bel_alloc (Below.refl _ _) _) _⟩
  have hb1 : ((w.alloc (.cells #[.pointer (some ⟨g, 0, none⟩)] 27)).alloc (.cells #[.slice A ws.length cc] 41)).heap[w.heap.size]? = some (.cells #[.pointer (some ⟨g, 0, none⟩)] 27 (0, 0)) := blk_alloc (heap_alloc_new _ _) _
  have hb2 : ((w.alloc (.cells #[.pointer (some ⟨g, 0, none⟩)] 27)).alloc (.cells #[.slice A ws.length cc] 41)).heap[w.heap.size + 1]? = some (.cells #[.slice A ws.length cc] 41 (0, 0)) := by
    have h := heap_alloc_new (w.alloc (.cells #[.pointer (some ⟨g, 0, none⟩)] 27)) (.cells #[.slice A ws.length cc] 41)
    rw [World.size_alloc] at h
    exact h
  have HLo := Aside0.mk hLo
  have HC := Aside0.mk (back_calls 31 #[] #[.pointer (some ⟨w.heap.size + 1, 0, none⟩), .pointer (some ⟨w.heap.size, 0, none⟩)] B d c g _ hd (hS.below HB0.out) hB (enters_ Tryd.func31 (by kernel_rfl) rfl) (ChooseR d ws c)
    (choose1_calls d A cc ws c g B (w.heap.size + 1) w.heap.size _ hd hby (hS.below HB0.out) h0 h1 hB (hLo.below (HB0.out.mono hLo.le)) (Kd.C_below hC HB0.out) ho hb2 hb1))
  clear hd hby hS h0 h1 hB hLo hb1 hb2 hC ho
  go_enter Tryd.func19, Tryd.ntmps19
  go_wp2_with (fail)
  refine HC.out.mono ?_
  rintro e w' ⟨x, er, c', hR, ⟨h0, rfl, hm⟩ | ⟨h0, rfl, hm⟩⟩
  · have H := Aside0.mk (And.intro h0 (And.intro hR hm))
    clear h0 hR hm
    go_wp2
    go_ret2
    exact ⟨x, er, c', H.out.2.1, .inl ⟨H.out.1, rfl, H.out.2.2.start HB0.out HLo.out.le⟩⟩
  · have H := Aside0.mk (And.intro h0 (And.intro hR hm))
    clear h0 hR hm
    go_wp2
    go_ret2
    exact ⟨x, er, c', H.out.2.1, .inr ⟨H.out.1, rfl, H.out.2.2.start HB0.out HLo.out.le⟩⟩
end Go.Proofs.YtdmeocoehahopaaDoor.Draw
