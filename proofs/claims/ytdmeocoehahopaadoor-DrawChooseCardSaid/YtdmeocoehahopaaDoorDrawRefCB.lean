/- cupelref08.Choose. -/
import Derived.Test.YtdmeocoehahopaaDoorDrawRefBB
import Derived.Test.YtdmeocoehahopaaDoorChoosePB
namespace Go.Proofs.YtdmeocoehahopaaDoor.Draw
open Go.RowKit Go.Proofs.YtdmeocoehahopaaDoorW.PrintWords Go.Proofs.YtdmeocoehahopaaDoorW.PrintLast Go.Proofs.YtdmeocoehahopaaDoorW.PrintMore Go.Proofs.YtdmeocoehahopaaDoor.K Go.Proofs.YtdmeocoehahopaaDoor.Sha Go.Proofs.YtdmeocoehahopaaDoor.Codec Go.Proofs.YtdmeocoehahopaaDoor.RI Go.Proofs.YtdmeocoehahopaaDoor.Ten
set_option linter.unusedVariables false
set_option linter.unusedSimpArgs false
def RChooseEnd (d ws : List Int) (c : Int) (e : Ending) : Prop := ∀ x er c', chooseV d ws c = (x, er, c') → e = .returned (.tuple #[.int .i64 x, .int .i64 (if er = 0 then c' - c else 0), .int .i64 er])
theorem rchoose_of {d ws : List Int} {c x er c' f : Int} (h : chooseV d ws c = (x, er, c')) (hf : (if er = 0 then c' - c else 0) = f) : RChooseEnd d ws c (.returned (.tuple #[.int .i64 x, .int .i64 f, .int .i64 er])) := fun x1 er1 c1 h1 => by
  rw [h] at h1
  cases h1
  rw [hf]
set_option maxHeartbeats 8000000 in
set_option maxRecDepth 100000 in
theorem rchoose_calls (d : List Int) (A : Option Addr) (cc : Nat) (ws : List Int) (c : Int) (w : World) (hd : d.length = 32) (hby : ∀ x ∈ d, 0 ≤ x ∧ x < 256) (h0 : 0 ≤ c) (h1 : c ≤ 9223372036854775807) (hC : Kd.C (Kd.int .i64) w A ws.length ws) :
    Calls Tryd.prog 20 #[.agg (dA d), .int .i64 c, .slice A ws.length cc] w fun e w' => RChooseEnd d ws c e ∧ Below w.heap.size w w' := by
  have HBy := Aside0.mk hby
  have HD := Aside0.mk hd
  have HI := Aside0.mk (dig_info hd)
  have H0 := Aside0.mk h0
  have H1 := Aside0.mk h1
  have HC := Aside0.mk hC
  have hm := hC.2.1
  have HB0 : Aside0 (Below w.heap.size w (w.alloc (.cells (dA d) 23))) := ⟨bel_alloc (Below.refl _ _) _⟩
  have HR0 : Aside0 ((w.alloc (.cells (dA d) 23)).heap[w.heap.size]? = some (.cells (dA d) 23 (0, 0))) := ⟨heap_alloc_new _ _⟩
  clear hd hby h0 h1 hC
  by_cases h2 : ws.length = 0
  · have d2 : decide ((ws.length : Int) < 1) = true := by simp [h2]
    have HE : Aside0 (RChooseEnd d ws c (.returned (.tuple #[.int .i64 0, .int .i64 0, .int .i64 13]))) := ⟨rchoose_of (chooseV_size (.inl h2)) rfl⟩
    clear h2
    go_enter Tryd.func20, Tryd.ntmps20
    go_wp2
    go_ret3
    exact ⟨HE.out, HB0.out⟩
  · have d2 : decide ((ws.length : Int) < 1) = false := by simp; omega
    by_cases h3 : 512 < ws.length
    · have d3 : decide (512 < (ws.length : Int)) = true := by simp; omega
      have HE : Aside0 (RChooseEnd d ws c (.returned (.tuple #[.int .i64 0, .int .i64 0, .int .i64 13]))) := ⟨rchoose_of (chooseV_size (.inr h3)) rfl⟩
      clear h2 h3
      go_enter Tryd.func20, Tryd.ntmps20
      go_wp2
      go_ret3
      exact ⟨HE.out, HB0.out⟩
    · have d3 : decide (512 < (ws.length : Int)) = false := by simp; omega
      have HSz : Aside0 (¬ (ws.length = 0 ∨ 512 < ws.length)) := ⟨by omega⟩
      have hp : 0 < ws.length := by omega
      obtain ⟨ad, rfl, hadz⟩ := int_at HC.out 0 hp
      have HMl : Aside0 (ws.length ≤ 512) := ⟨by omega⟩
      clear hadz h2 h3
      go_enter Tryd.func20, Tryd.ntmps20
      go_wp2_with (fail)
      clear d2 d3
      generalize w.alloc (.cells (dA d) 23) = w0 at *
      have HC0 : Aside0 (Kd.C (Kd.int .i64) w0 (some ad) ws.length ws) := ⟨Kd.C_below HC.out HB0.out⟩
      go_loop [9, 10] (fun s i => ∃ k : Nat, k ≤ ws.length ∧ i = .int .i64 (k : Int) ∧ s = .int .i64 (preV ws k) ∧ Aside0 ((ws.take k).all isWt = true)) (fun _ i => ws.length - (intOf i).toNat)
      case atStart => exact ⟨0, Nat.zero_le _, rfl, rfl, ⟨rfl⟩⟩
      case round =>
        obtain ⟨k, hk, rfl, rfl, HA⟩ := hrel
        by_cases hlt : k < ws.length
        · have hx := int_cell HC0.out (Below.refl _ _) k hlt
          have hbd := preV_bd' HA.out hk
          have hsc := preV_succ ws k hlt
          obtain ⟨x, hxe⟩ : ∃ x, x = ws.getD k 0 := ⟨_, rfl⟩
          rw [← hxe] at hx hsc
          have hwk : IntKind.i64.wrap ((k : Int) + 1) = (k : Int) + 1 := by rw [IntKind.wrap_i64]; omega
          by_cases hb1 : x < 0
          · have dx : decide (x < 0) = true := by simpa using hb1
            have HE : Aside0 (RChooseEnd d ws c (.returned (.tuple #[.int .i64 0, .int .i64 0, .int .i64 10]))) := ⟨rchoose_of (chooseV_range HSz.out (all_not hlt (by rw [← hxe]; unfold isWt; simp; omega))) rfl⟩
            clear hbd hsc hxe hb1
            go_wp2
            go_ret3
            exact ⟨HE.out, HB0.out⟩
          · have dx : decide (x < 0) = false := by simpa using hb1
            by_cases hb2 : 2147483648 < x
            · have dy : decide (2147483648 < x) = true := by simpa using hb2
              have HE : Aside0 (RChooseEnd d ws c (.returned (.tuple #[.int .i64 0, .int .i64 0, .int .i64 10]))) := ⟨rchoose_of (chooseV_range HSz.out (all_not hlt (by rw [← hxe]; unfold isWt; simp; omega))) rfl⟩
              clear hbd hsc hxe hb1 hb2
              go_wp2
              go_ret3
              exact ⟨HE.out, HB0.out⟩
            · have dy : decide (2147483648 < x) = false := by simpa using hb2
              have HA2 : Aside0 ((ws.take (k + 1)).all isWt = true) := ⟨take_all_succ hlt HA.out (by rw [← hxe]; unfold isWt; simp; omega)⟩
              obtain ⟨s, hs⟩ : ∃ s, s = preV ws (k + 1) := ⟨_, rfl⟩
              have hws : IntKind.i64.wrap (preV ws k + x) = s := by have := HMl.out; rw [hs, hsc, IntKind.wrap_i64]; omega
              generalize preV ws k = p at *
              have HSs := Aside0.mk hs
              clear hbd hsc hxe hb1 hb2 hs
              go_wp2
              go_round
              case rel => exact ⟨k + 1, by omega, by go_num, by rw [HSs.out], HA2⟩
              case measure => simp [intOf]; omega
        · obtain rfl : k = ws.length := by omega
          have HAll : Aside0 (ws.all isWt = true) := ⟨by have := HA.out; rwa [List.take_length] at this⟩
          have hbd := preV_bd HAll.out ws.length (Nat.le_refl _)
          have HSu : Aside0 (preV ws ws.length = sumV ws) := ⟨preV_all ws⟩
          have HL3 := HMl.out
          obtain ⟨s, hs⟩ : ∃ s, s = preV ws ws.length := ⟨_, rfl⟩
          rw [← hs] at hbd HSu ⊢
          clear hs
          by_cases hz : s = 0
          · subst hz
            have HE : Aside0 (RChooseEnd d ws c (.returned (.tuple #[.int .i64 0, .int .i64 0, .int .i64 14]))) := ⟨rchoose_of (chooseV_none HSz.out HAll.out HSu.out.symm) rfl⟩
            clear hbd
            go_wp2
            go_ret3
            exact ⟨HE.out, HB0.out⟩
          · have dz : (s == 0) = false := by simpa using hz
            have HSn : Aside0 (sumV ws ≠ 0) := ⟨by rw [← HSu.out]; exact hz⟩
            have HSb : Aside0 (0 < s ∧ s ≤ 9223372036854775807) := ⟨by omega, by omega⟩
            clear hbd hz HL3
            go_wp2_with (with_reducible refine wpList_load_row rfl 23 (.tmp 3) rfl w.heap.size rfl 23 (dA d) (0, 0) _ HR0.out Tryd.underlying23 rfl HI.out ?_)
            refine (rbelow_calls d s c w0 HD.out HBy.out H0.out H1.out (by have := HSb.out.1; omega) HSb.out.2).mono ?_
            rintro e w1 ⟨he, hb⟩
            obtain ⟨⟨x, er, c'⟩, hp3⟩ : ∃ p, belowV d s c = p := ⟨_, rfl⟩
            have he2 := he _ _ _ hp3
            have HR := Aside0.mk hp3
            have HB1 := Aside0.mk (below_step HB0.out hb)
            have HC1 := Aside0.mk (Kd.C_below HC0.out hb)
            clear he hb hp3 HA hlt
            by_cases her : er = 0
            · subst her
              rw [if_pos rfl] at he2
              subst he2
              have hxr := belowV_x HSb.out.1 HR.out
              have HE : Aside0 (RChooseEnd d ws c (.returned (.tuple #[.int .i64 (atL ws x : Int), .int .i64 (c' - c), .int .i64 0]))) := ⟨rchoose_of (chooseV_ok HSz.out HAll.out HSn.out (by rw [← HSu.out]; exact HR.out)) (if_pos rfl)⟩
              have HI0 : Aside0 (AtInv ws x 0) := ⟨AtInv.start hp hxr.1 (by rw [← HSu.out]; exact hxr.2)⟩
              have HXx : Aside0 (x ≤ 9223372036854775807) := ⟨by have := HSb.out.2; omega⟩
              have HX0 := hxr.1
              obtain ⟨df, hdf⟩ : ∃ df, df = c' - c := ⟨_, rfl⟩
              rw [← hdf] at HE ⊢
              clear hdf HR hxr dz
              go_wp2_with (fail)
              go_loop [11, 14] (fun s a => ∃ k : Nat, a = .int .i64 (k : Int) ∧ s = .int .i64 (x - preV ws k) ∧ Aside0 (AtInv ws x k)) (fun _ a => ws.length - (intOf a).toNat)
              case atStart => exact ⟨0, rfl, by rw [preV_zero, Int.sub_zero], HI0⟩
              case round =>
                obtain ⟨k, rfl, rfl, HIv⟩ := hrel
                have hkl := HIv.out.1
                have HLn := HMl.out
                have hx1 := int_cell HC1.out (Below.refl _ _) k hkl
                have hs1 := preV_succ ws k hkl
                have hge := HIv.out.2.2.1
                obtain ⟨y, hy⟩ : ∃ y, y = ws.getD k 0 := ⟨_, rfl⟩
                have hyb := wt_get HAll.out k
                rw [← hy] at hx1 hs1 hyb
                obtain ⟨p, hpe⟩ : ∃ p, p = preV ws k := ⟨_, rfl⟩
                obtain ⟨x1, hx1e⟩ : ∃ x1, x1 = x - preV ws k := ⟨_, rfl⟩
                obtain ⟨x2, hx2e⟩ : ∃ x2, x2 = x - preV ws (k + 1) := ⟨_, rfl⟩
                rw [← hx1e]
                by_cases hle : preV ws (k + 1) ≤ x
                · have HI2 := Aside0.mk (HIv.out.next hle)
                  have dle : decide (y ≤ x1) = true := by simp; omega
                  have hws : IntKind.i64.wrap (x1 - y) = x2 := by have := HXx.out; have := preV_bd HAll.out k (by omega); rw [IntKind.wrap_i64]; omega
                  have hwk : IntKind.i64.wrap ((k : Int) + 1) = (k : Int) + 1 := by rw [IntKind.wrap_i64]; omega
                  have HX2 := Aside0.mk hx2e
                  clear hle hs1 hy hpe hx1e hx2e hge hyb
                  go_wp2
                  go_round
                  case rel => exact ⟨k + 1, by go_num, by rw [HX2.out], HI2⟩
                  case measure => simp [intOf]; omega
                · have dle : decide (y ≤ x1) = false := by simp; omega
                  have HF : Aside0 (RChooseEnd d ws c (.returned (.tuple #[.int .i64 (k : Int), .int .i64 df, .int .i64 0]))) := ⟨by have := HE.out; rwa [HIv.out.done (by omega)] at this⟩
                  clear hle hs1 hy hpe hx1e hx2e hge hyb
                  go_wp2
                  go_ret3
                  exact ⟨HF.out, HB1.out⟩
            · rw [if_neg her] at he2
              subst he2
              have HE : Aside0 (RChooseEnd d ws c (.returned (.tuple #[.int .i64 0, .int .i64 0, .int .i64 er]))) := ⟨rchoose_of (chooseV_err HSz.out HAll.out HSn.out (by rw [← HSu.out]; exact HR.out) her) (if_neg her)⟩
              have dn : (er != 0) = true := by simpa using her
              clear her HR
              go_wp2
              go_ret3
              exact ⟨HE.out, HB1.out⟩
end Go.Proofs.YtdmeocoehahopaaDoor.Draw
