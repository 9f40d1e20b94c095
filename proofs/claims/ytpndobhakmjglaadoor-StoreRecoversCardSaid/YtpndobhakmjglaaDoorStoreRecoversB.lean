/- StoreRecovers: the law's walk. -/
import Derived.Test.YtpndobhakmjglaaDoorRefRecB
import Derived.Test.YtpndobhakmjglaaDoorBunS4
namespace Go.Proofs.YtpndobhakmjglaaDoor.Store
open Go.RowKit Go.Proofs.YtpndobhakmjglaaDoorW.PrintWords Go.Proofs.YtpndobhakmjglaaDoorW.PrintLast Go.Proofs.YtpndobhakmjglaaDoorW.PrintMore Go.Proofs.YtpndobhakmjglaaDoor.K Go.Proofs.YtpndobhakmjglaaDoor.Sha
set_option linter.unusedVariables false
set_option linter.unusedSimpArgs false
theorem storeB_ge : ∀ (l : List (List Int)) (a : List Int), l.length ≤ (storeB a l).length
  | [], a => Nat.zero_le _
  | r :: l, a => by
    have h := storeB_ge l (sealV a r)
    rw [storeB, List.length_append, joinTwo_eq_len _ _ (sealV_len _ _), List.length_cons]
    omega
theorem recV_count (a b : List Int) : (recV a b).1.length + (recV a b).2.length ≤ b.length := by
  have h := congrArg List.length (recV_bytes b.length a b (Nat.le_refl _))
  rw [List.length_append] at h
  have := storeB_ge (recV a b).1 a
  omega
set_option maxHeartbeats 8000000 in
set_option maxRecDepth 100000 in
theorem recovers_calls (A : Option Addr) (c : Nat) (b : List Int) (w : World) (hC : Kd.C (Kd.int .u8) w A b.length b) (hc : b.length ≤ c) (hby : ∀ x ∈ b, 0 ≤ x ∧ x < 256) (hLf : LaidAt w 0 firstA) (hL : LaidAt w 1 constA) :
    Calls Tryd.prog 6 #[.slice A b.length c] w fun e w' => e = .returned (.bool true) ∧ Below w.heap.size w w' := by
  have HLf := Aside0.mk hLf
  have HL := Aside0.mk hL
  have hm := hC.2.1
  have HAw : Aside0 (∀ W, Below w.heap.size w W → Calls Tryd.prog 9 #[] W fun e w' => e = .returned (.bool true) ∧ Below W.heap.size W w') := ⟨fun W hb => awake_calls W (HLf.out.below hb) (HL.out.below hb)⟩
  by_cases h1 : 500 < b.length
  · have dh1 : decide (500 < (b.length : Int)) = true := by simp; omega
    clear h1 hc hby hC hLf hL
    go_enter Tryd.func6, Tryd.ntmps6
    go_wp2_with (fail)
    refine (HAw.out w (Below.refl _ _)).mono ?_
    rintro e wz ⟨rfl, hb⟩
    have HBz := Aside0.mk hb
    clear hb
    go_wp2_with (fail)
    go_ret
    exact ⟨rfl, HBz.out⟩
  · have dh1 : decide (500 < (b.length : Int)) = false := by simp; omega
    have HRc := Aside0.mk (rec_calls A c b w hC hc hby (by omega) hLf hL)
    have HRr := Aside0.mk (fun W (hb : Below w.heap.size w W) => rrec_calls A c b W (Kd.C_below hC hb) hc hby (by omega))
    have HSh := Aside0.mk (recV_short b.length [] b (Nat.le_refl _))
    have HCt := Aside0.mk (recV_count [] b)
    have hbl : b.length ≤ 500 := by omega
    clear hC hc hby hLf hL h1
    unfold RecEnd at HRc
    unfold RRecEnd at HRr
    generalize hrs : (recV [] b).1 = rs at *
    generalize hrest : (recV [] b).2 = rest at *
    clear hrs hrest
    have HRc := Aside0.mk HRc.out
    have HRr := Aside0.mk HRr.out
    go_enter Tryd.func6, Tryd.ntmps6
    go_wp2_with (fail)
    refine HRc.out.mono ?_
    rintro e w1 ⟨g, vl, vm, vb, rfl, hS, hb⟩
    have HS := Aside0.mk hS
    have HB1 := Aside0.mk hb
    clear hS hb dh1
    go_wp2_with (fail)
    refine (HRr.out w1 HB1.out).mono ?_
    rintro e w2 ⟨A2, c2, k, rfl, hC2, hre, hkl, hb⟩
    have HB2 := Aside0.mk (below_step HB1.out hb)
    have HM : Aside0 (Made w2 w.heap.size g rs) := ⟨⟨_, _, _, HS.out.below hb⟩⟩
    have HHo := Aside0.mk (holds_calls A2 c2 rs w.heap.size g w2 HM.out hC2 (by have := HCt.out; omega) (fun r hr => by have := HSh.out r hr; omega))
    have hlr : rest.length = b.length - k := by rw [hre, List.length_drop]
    have hwn : IntKind.i64.wrap ((b.length : Int) - (k : Int)) = (rest.length : Int) := by rw [IntWalk.i64_in _ (by omega)]; omega
    have e1 : ((rest.length : Int) == (rest.length : Int)) = true := by simp
    clear hC2 hb hre HRc HRr hlr hkl
    go_wp2_with (fail)
    refine HHo.out.mono ?_
    rintro e w3 ⟨rfl, hb⟩
    have HB3 := Aside0.mk (below_step HB2.out hb)
    clear hb
    go_wp2_with (fail)
    refine (HAw.out w3 HB3.out).mono ?_
    rintro e wz ⟨rfl, hb⟩
    have HBz := Aside0.mk (below_step HB3.out hb)
    clear hb
    go_wp2_with (fail)
    go_ret
    exact ⟨rfl, HBz.out⟩
theorem recovers_n (A : Option Addr) (n c : Nat) (b : List Int) (w : World) (hC : Kd.C (Kd.int .u8) w A n b) (hc : n ≤ c) (hby : ∀ x ∈ b, 0 ≤ x ∧ x < 256) (hLf : LaidAt w 0 firstA) (hL : LaidAt w 1 constA) :
    Calls Tryd.prog 6 #[.slice A n c] w fun e w' => e = .returned (.bool true) ∧ Below w.heap.size w w' := by
  obtain rfl := hC.1
  exact recovers_calls A c b w hC hc hby hLf hL
end Go.Proofs.YtpndobhakmjglaaDoor.Store
