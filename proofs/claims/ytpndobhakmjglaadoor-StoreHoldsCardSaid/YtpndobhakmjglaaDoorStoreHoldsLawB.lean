/- StoreHolds: the law's walk. -/
import Derived.Test.YtpndobhakmjglaaDoorRefSealB
import Derived.Test.YtpndobhakmjglaaDoorBunS4
namespace Go.Proofs.YtpndobhakmjglaaDoor.Store
open Go.RowKit Go.Proofs.YtpndobhakmjglaaDoorW.PrintWords Go.Proofs.YtpndobhakmjglaaDoorW.PrintLast Go.Proofs.YtpndobhakmjglaaDoorW.PrintMore Go.Proofs.YtpndobhakmjglaaDoor.K Go.Proofs.YtpndobhakmjglaaDoor.Sha
set_option linter.unusedVariables false
set_option linter.unusedSimpArgs false
set_option maxHeartbeats 8000000 in
set_option maxRecDepth 100000 in
theorem holds_law (A : Option Addr) (c : Nat) (l : List (List Int)) (w : World) (hC : Kd.C (Kd.slice 5 (Kd.int .u8)) w A l.length l) (hby : ∀ r ∈ l, ∀ x ∈ r, 0 ≤ x ∧ x < 256)
    (hLf : LaidAt w 0 firstA) (hL : LaidAt w 1 constA) :
    Calls Tryd.prog 5 #[.slice A l.length c] w fun e w' => e = .returned (.bool true) ∧ Below w.heap.size w w' := by
  have HLf := Aside0.mk hLf
  have HL := Aside0.mk hL
  have HC := Aside0.mk hC
  have HBy := Aside0.mk hby
  have HAw : Aside0 (∀ W, Below w.heap.size w W → Calls Tryd.prog 9 #[] W fun e w' => e = .returned (.bool true) ∧ Below W.heap.size W w') := ⟨fun W hb => awake_calls W (HLf.out.below hb) (HL.out.below hb)⟩
  clear hLf hL hC hby
  go_enter Tryd.func5, Tryd.ntmps5
  go_wp2_with (fail)
  refine (few_calls A c l w HC.out).mono ?_
  rintro e w1 ⟨b1, rfl, hF1, hd1⟩
  have HB1 := Aside0.mk hd1.below
  have HF1 := Aside0.mk hF1
  clear hd1 hF1
  cases b1 with
  | false =>
    go_wp2_with (fail)
    refine (HAw.out w1 HB1.out).mono ?_
    rintro e wz ⟨rfl, hb⟩
    have HBz := Aside0.mk (below_step HB1.out hb)
    clear hb
    go_wp2_with (fail)
    go_ret
    exact ⟨rfl, HBz.out⟩
  | true =>
    replace HF1 := Aside0.mk (show Few l from by first | exact HF1.out rfl | exact HF1.out trivial)
    go_wp2_with (fail)
    refine (made_calls A l.length c l w w1 HC.out HB1.out HBy.out HF1.out HLf.out HL.out).mono ?_
    rintro e w3 ⟨g1, rfl, hM, hb⟩
    have HM1 := Aside0.mk hM
    have HB3 := Aside0.mk (below_step HB1.out hb)
    clear hM hb
    go_wp2_with (fail)
    refine (holds_calls A c l w1.heap.size g1 w3 HM1.out (Kd.C_below HC.out HB3.out) (by have := HF1.out.2; omega) (fun r hr => by have := HF1.out.1 r hr; omega)).mono ?_
    rintro e w4 ⟨rfl, hb⟩
    have HM4 := Aside0.mk (HM1.out.below hb)
    have HB4 := Aside0.mk (below_step HB3.out hb)
    clear hb
    have HLl := Aside0.mk (few_bytes HF1.out)
    have HBx := Aside0.mk (bytes_made HM4.out (by have := HLl.out; omega))
    have HRb := Aside0.mk (fun W (hb : Below w.heap.size w W) => rbytes_calls A c l W (Kd.C_below HC.out hb) HBy.out HF1.out)
    obtain ⟨X, hX⟩ : ∃ X, X = storeB [] l := ⟨_, rfl⟩
    rw [← hX] at HBx HRb HLl
    clear hX
    go_wp2_with (fail)
    refine HBx.out.mono ?_
    rintro e w5 ⟨Ax, cx, rfl, hCx, hcx, hb⟩
    have HCx := Aside0.mk hCx
    have HB5 := Aside0.mk (below_step HB4.out hb)
    clear hCx hb hcx
    go_wp2_with (fail)
    refine (HRb.out w5 HB5.out).mono ?_
    rintro e w6 ⟨Ay, cy, rfl, hCy, hb⟩
    have HCy := Aside0.mk hCy
    have HCx := Aside0.mk (Kd.C_below HCx.out hb)
    have HB6 := Aside0.mk (below_step HB5.out hb)
    clear hCy hb
    go_wp2_with (fail)
    refine (Law.bytes_n Ax X.length cx X Ay X.length cy X w6 HCx.out HCy.out true (by simp)).mono ?_
    rintro e w7 ⟨rfl, hd⟩
    have HB7 := Aside0.mk (below_step HB6.out hd.below)
    clear hd
    go_wp2_with (fail)
    refine (HAw.out w7 HB7.out).mono ?_
    rintro e wz ⟨rfl, hb⟩
    have HBz := Aside0.mk (below_step HB7.out hb)
    clear hb
    go_wp2_with (fail)
    go_ret
    exact ⟨rfl, HBz.out⟩
theorem holds_n (A : Option Addr) (n c : Nat) (l : List (List Int)) (w : World) (hC : Kd.C (Kd.slice 5 (Kd.int .u8)) w A n l) (hby : ∀ r ∈ l, ∀ x ∈ r, 0 ≤ x ∧ x < 256)
    (hLf : LaidAt w 0 firstA) (hL : LaidAt w 1 constA) :
    Calls Tryd.prog 5 #[.slice A n c] w fun e w' => e = .returned (.bool true) ∧ Below w.heap.size w w' := by
  obtain rfl := hC.1
  exact holds_law A c l w hC hby hLf hL
end Go.Proofs.YtpndobhakmjglaaDoor.Store
