/- bytes.Equal, bytes.HasPrefix. -/
import Derived.Test.YtpndobhakmjglaaDoorK
namespace Go.Proofs.YtpndobhakmjglaaDoor.Store
open Go.RowKit Go.Proofs.YtpndobhakmjglaaDoorW.PrintWords Go.Proofs.YtpndobhakmjglaaDoorW.PrintLast Go.Proofs.YtpndobhakmjglaaDoorW.PrintMore Go.Proofs.YtpndobhakmjglaaDoor.K
set_option linter.unusedVariables false
set_option linter.unusedSimpArgs false
theorem info_u8 : (Tryd.prog.info? 5).map (fun i => (i.zero, i.size, i.bytes)) = some (some (.int .u8 0), 1, 1) := by kernel_rfl
theorem str_inj {a b : List Int} (ha : ∀ x ∈ a, 0 ≤ x ∧ x < 256) (hb : ∀ x ∈ b, 0 ≤ x ∧ x < 256) (h : strOfNums a = strOfNums b) : a = b := by
  have h1 : a.map (fun n => UInt8.ofNat n.toNat) = b.map (fun n => UInt8.ofNat n.toNat) := by
    have := congrArg (fun s => s.data.toList) h
    simpa [strOfNums] using this
  have hl : a.length = b.length := by simpa using congrArg List.length h1
  refine List.ext_getElem hl fun i h2 h3 => ?_
  have h4 := congrArg (fun l => l[i]?) h1
  simp only [List.getElem?_map, List.getElem?_eq_getElem h2, List.getElem?_eq_getElem h3, Option.map_some, Option.some.injEq] at h4
  have h5 := congrArg UInt8.toNat h4
  have ha' := ha _ (List.getElem_mem h2)
  have hb' := hb _ (List.getElem_mem h3)
  simp only [UInt8.toNat_ofNat'] at h5
  omega
theorem str_eq {a b : List Int} (ha : ∀ x ∈ a, 0 ≤ x ∧ x < 256) (hb : ∀ x ∈ b, 0 ≤ x ∧ x < 256) : ((strOfNums a).toList == (strOfNums b).toList) = decide (a = b) := by
  rw [Bool.eq_iff_iff, beq_iff_eq, decide_eq_true_iff, ByteArray.toList_eq, ByteArray.toList_eq]
  constructor
  · intro h
    refine str_inj ha hb (ByteArray.ext (Array.toList_inj.1 h))
  · rintro rfl
    rfl
/-- 'x[:m]' of a row. -/
theorem run_upto {P : Program} (t e : TypeId) (ht : P.underlying t = some (.slice e)) {z : Option Value} {sz by_ : Nat} (hinfo : (P.info? e).map (fun i => (i.zero, i.size, i.bytes)) = some (z, sz, by_)) (A : Option Addr) (n c m : Nat) (hm : m ≤ n) (hc : n ≤ c) (W : World) :
    (Instr.slice t (.slice A n c) none (some (.int .i64 (m : Int))) none).run P W = .ok (.slice A m c) W := by
  obtain ⟨i, hi, hzz⟩ := Option.map_eq_some_iff.1 hinfo
  simp only [Prod.mk.injEq] at hzz
  have hel : P.elem t = e := by simp [Program.elem, ht]
  have hu : P.underlying t = some (.slice (P.elem t)) := by rw [hel]; exact ht
  rw [run_slice_h W t A n c hu .i64 (m : Int) (Int.natCast_nonneg _) (by omega), hel]
  simp [sizeOf, typeInfo, hi, hzz.2.1, sliced, Result.andThen, Addr.add]
set_option maxHeartbeats 2000000 in
set_option maxRecDepth 100000 in
theorem equal_calls (A0 : Option Addr) (n c0 : Nat) (l0 : List Int) (A1 : Option Addr) (m c1 : Nat) (l1 : List Int) (w : World) (h0 : Kd.C (Kd.int .u8) w A0 n l0) (h1 : Kd.C (Kd.int .u8) w A1 m l1) (hb0 : ∀ x ∈ l0, 0 ≤ x ∧ x < 256) (hb1 : ∀ x ∈ l1, 0 ≤ x ∧ x < 256) :
    Calls Tryd.prog 35 #[.slice A0 n c0, .slice A1 m c1] w fun e w' => e = .returned (.bool (decide (l0 = l1))) ∧ Drawn0 w w' := by
  have HE := Aside0.mk (str_eq hb0 hb1)
  have hcv0 := Kd.C_string (P := Tryd.prog) (A := A0) (c := c0) Tryd.underlying22 Tryd.underlying5 Tryd.underlying9 h0
  have hcv1 := Kd.C_string (P := Tryd.prog) (A := A1) (c := c1) Tryd.underlying22 Tryd.underlying5 Tryd.underlying9 h1
  clear h0 h1 hb0 hb1
  rw [← HE.out]
  clear HE
  go_enter Tryd.func35, Tryd.ntmps35
  go_wp2
  go_ret
  exact ⟨by first | rfl | (simp; done) | (simp [*]; done), by repeat (first | exact Drawn0.refl _ | apply Drawn0.step)⟩
/-- Do bytes begin with others. -/
def hasB (l0 l1 : List Int) : Bool := decide (l0.take l1.length = l1)
set_option maxHeartbeats 2000000 in
set_option maxRecDepth 100000 in
theorem has_calls (A0 : Option Addr) (c0 : Nat) (l0 : List Int) (A1 : Option Addr) (c1 : Nat) (l1 : List Int) (w : World) (h0 : Kd.C (Kd.int .u8) w A0 l0.length l0) (hc0 : l0.length ≤ c0) (h1 : Kd.C (Kd.int .u8) w A1 l1.length l1) (hb0 : ∀ x ∈ l0, 0 ≤ x ∧ x < 256) (hb1 : ∀ x ∈ l1, 0 ≤ x ∧ x < 256) :
    Calls Tryd.prog 26 #[.slice A0 l0.length c0, .slice A1 l1.length c1] w fun e w' => e = .returned (.bool (hasB l0 l1)) ∧ Drawn0 w w' := by
  by_cases hle : l1.length ≤ l0.length
  · have hd : decide ((l1.length : Int) ≤ (l0.length : Int)) = true := by simp; omega
    have hcut : ∀ W : World, (Instr.slice 22 (.slice A0 l0.length c0) none (some (.int .i64 (l1.length : Int))) none).run Tryd.prog W = .ok (.slice A0 l1.length c0) W := fun W => run_upto 22 5 Tryd.underlying22 info_u8 A0 l0.length c0 l1.length hle hc0 W
    have HEq : Aside0 (Calls Tryd.prog 35 #[.slice A0 l1.length c0, .slice A1 l1.length c1] w fun e w' => e = .returned (.bool (hasB l0 l1)) ∧ Drawn0 w w') :=
      ⟨equal_calls A0 l1.length c0 (l0.take l1.length) A1 l1.length c1 l1 w (take_rows l1.length hle h0) h1 (fun x hx => hb0 x (List.mem_of_mem_take hx)) hb1⟩
    clear h0 h1 hb0 hb1 hc0
    go_enter Tryd.func26, Tryd.ntmps26
    go_wp2_with (fail)
    refine HEq.out.mono ?_
    rintro e w' ⟨rfl, ⟨nd, rfl⟩⟩
    go_wp2
    go_ret
    exact ⟨by first | rfl | (simp; done) | (simp [*]; done), ⟨nd, rfl⟩⟩
  · have hd : decide ((l1.length : Int) ≤ (l0.length : Int)) = false := by simp; omega
    have HF : Aside0 (hasB l0 l1 = false) := ⟨by
      unfold hasB
      rw [decide_eq_false_iff_not]
      intro e
      have := congrArg List.length e
      rw [List.length_take] at this
      omega⟩
    rw [HF.out]
    clear h0 h1 hb0 hb1 hc0
    go_enter Tryd.func26, Tryd.ntmps26
    go_wp2
    go_ret
    exact ⟨rfl, Drawn0.refl _⟩
end Go.Proofs.YtpndobhakmjglaaDoor.Store
