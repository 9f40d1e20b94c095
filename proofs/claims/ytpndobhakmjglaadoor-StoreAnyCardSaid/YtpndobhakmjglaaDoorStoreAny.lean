/- StoreAny: the law's walk. -/
import Derived.Test.YtpndobhakmjglaaDoorStoreAwake
import Derived.Test.YtpndobhakmjglaaDoorLawBytes
namespace Go.Proofs.YtpndobhakmjglaaDoor.Store
open Go.RowKit Go.Proofs.YtpndobhakmjglaaDoorW.PrintWords Go.Proofs.YtpndobhakmjglaaDoorW.PrintLast Go.Proofs.YtpndobhakmjglaaDoorW.PrintMore Go.Proofs.YtpndobhakmjglaaDoor.K Go.Proofs.YtpndobhakmjglaaDoor.Sha
set_option linter.unusedVariables false
set_option linter.unusedSimpArgs false
set_option maxHeartbeats 32000000 in
set_option maxRecDepth 100000 in
theorem any_calls (A : Option Addr) (c : Nat) (b : List Int) (w : World) (hC : Kd.C (Kd.int .u8) w A b.length b) (hc : b.length ≤ c) (hby : ∀ x ∈ b, 0 ≤ x ∧ x < 256) (hLf : LaidAt w 0 firstA) (hL : LaidAt w 1 constA) :
    Calls Tryd.prog 3 #[.slice A b.length c] w fun e w' => e = .returned (.bool true) ∧ Below w.heap.size w w' := by
  have HLf := Aside0.mk hLf
  have HL := Aside0.mk hL
  have hm := hC.2.1
  by_cases h1 : 2000 < b.length
  · have dh1 : decide (2000 < (b.length : Int)) = true := by simp; omega
    clear h1 hc hby hC hLf hL
    go_enter Tryd.func3, Tryd.ntmps3
    go_wp2_with (fail)
    refine (awake_calls w HLf.out HL.out).mono ?_
    rintro e wz ⟨rfl, hb⟩
    have HBz := Aside0.mk hb
    clear hb
    go_wp2_with (fail)
    go_ret
    exact ⟨rfl, HBz.out⟩
  · have dh1 : decide (2000 < (b.length : Int)) = false := by simp; omega
    have HRc := Aside0.mk (rec_calls A c b w hC hc hby (by omega) hLf hL)
    have HV := Aside0.mk (recV_bytes b.length [] b (Nat.le_refl _))
    have HSh := Aside0.mk (recV_short b.length [] b (Nat.le_refl _))
    have HLn : Aside0 ((storeB [] (recV [] b).1).length + (recV [] b).2.length = b.length) := ⟨by have := congrArg List.length HV.out; rwa [List.length_append] at this⟩
    have HOw := Aside0.mk (recV_own [] HSh.out)
    have HBs : Aside0 (∀ x ∈ storeB [] (recV [] b).1, 0 ≤ x ∧ x < 256) := ⟨fun x hx => hby x (by rw [← HV.out]; exact List.mem_append_left _ hx)⟩
    have HTk : Aside0 (b.take (storeB [] (recV [] b).1).length = storeB [] (recV [] b).1) := ⟨by
      have h := congrArg (List.take (storeB [] (recV [] b).1).length) HV.out
      rw [List.take_left] at h
      exact h.symm⟩
    have HC := Aside0.mk hC
    have HCc := Aside0.mk hc
    have hbl : b.length ≤ 2000 := by omega
    clear hC hc hby hLf hL h1
    unfold RecEnd at HRc
    obtain ⟨bs, hbs⟩ : ∃ bs, bs = storeB [] (recV [] b).1 := ⟨_, rfl⟩
    rw [← hbs] at HRc HV HLn HOw HBs HTk
    have HBe := Aside0.mk hbs
    clear hbs
    generalize (recV [] b).1 = rs at *
    generalize (recV [] b).2 = rest at *
    have HLn := Aside0.mk HLn.out
    have d1 : decide ((rest.length : Int) < 0) = false := by simp
    have d2 : decide ((b.length : Int) < (rest.length : Int)) = false := by have := HLn.out; simp; omega
    have d2N : decide (b.length < rest.length) = false := by have := HLn.out; simp; omega
    have hw1 : IntKind.i64.wrap ((b.length : Int) - (rest.length : Int)) = (bs.length : Int) := by have := HLn.out; rw [IntWalk.i64_in _ (by omega)]; omega
    go_enter Tryd.func3, Tryd.ntmps3
    go_wp2_with (fail)
    refine HRc.out.mono ?_
    rintro e w1 ⟨g, vl, vm, vb, rfl, hS, hb⟩
    have HS := Aside0.mk hS
    have HB1 := Aside0.mk hb
    clear hS hb dh1
    go_wp2_with (fail)
    refine (bytes_calls HS.out (by have := HLn.out; omega)).mono ?_
    rintro e w2 ⟨v, rfl, hR, hb⟩
    obtain ⟨Ac, cc, rfl⟩ := Kd.R_slice hR
    have HR := Aside0.mk (Kd.R_reads' hR)
    have HB2 := Aside0.mk (below_step HB1.out hb)
    have HS2 := Aside0.mk (HS.out.below hb)
    clear hR hb d1 d2 d2N HS
    go_wp2_with (fail)
    refine (rec_calls Ac cc bs w2 HR.out.2.2 HR.out.2.1 HBs.out (by have := HLn.out; omega) (HLf.out.below HB2.out) (HL.out.below HB2.out)).mono ?_
    rintro e w3 hE
    unfold RecEnd at hE
    rw [HOw.out] at hE
    obtain ⟨g3, vl3, vm3, vb3, he, hS, hb⟩ := hE
    have he' : e = .returned (.tuple #[.pointer (some ⟨g3, 0, none⟩), .int .i64 0]) := he
    subst he'
    have hS' : StAt w3 w2.heap.size g3 vl3 vm3 vb3 rs (markV [] rs) bs := by rw [HBe.out]; exact hS
    have HS3 := Aside0.mk hS'
    have HS23 := Aside0.mk (HS2.out.below hb)
    have HR3 := Aside0.mk (Kd.C_below HR.out.2.2 hb)
    have HB3 := Aside0.mk (below_step HB2.out hb)
    have hcut : ∀ W, (Instr.slice 22 (.slice A b.length c) none (some (.int .i64 (bs.length : Int))) none).run Tryd.prog W = .ok (.slice A bs.length c) W := fun W => run_upto8 A b.length c bs.length (by have := HLn.out; omega) HCc.out W
    have HT : Aside0 (Kd.C (Kd.int .u8) w3 A bs.length bs) := ⟨by
      have h := take_int bs.length (by have := HLn.out; omega) HC.out
      rw [HTk.out] at h
      exact Kd.C_below h HB3.out⟩
    clear hS hS' hb HS2 HR HOw HBs
    go_wp2_with (fail)
    refine (Law.bytes_n Ac bs.length cc bs A bs.length c bs w3 HR3.out HT.out true (by simp)).mono ?_
    rintro e w4 ⟨rfl, hd⟩
    have HS4 := Aside0.mk (HS3.out.below hd.below)
    have HS24 := Aside0.mk (HS23.out.below hd.below)
    have HR4 := Aside0.mk (C_drawn HR3.out hd)
    have HB4 := Aside0.mk (below_step HB3.out hd.below)
    clear hd HS3 HS23 HR3 HT hcut hw1
    go_wp2_with (fail)
    refine (bytes_calls HS4.out (by have := HLn.out; omega)).mono ?_
    rintro e w5 ⟨v, rfl, hR, hb⟩
    obtain ⟨Ad, cd, rfl⟩ := Kd.R_slice hR
    have HR5 := Aside0.mk (Kd.R_reads' hR)
    have HS5 := Aside0.mk (HS4.out.below hb)
    have HS25 := Aside0.mk (HS24.out.below hb)
    have HR45 := Aside0.mk (Kd.C_below HR4.out hb)
    have HB5 := Aside0.mk (below_step HB4.out hb)
    clear hR hb HS4 HS24 HR4
    go_wp2_with (fail)
    refine (Law.bytes_n Ad bs.length cd bs Ac bs.length cc bs w5 HR5.out.2.2 HR45.out true (by simp)).mono ?_
    rintro e w6 ⟨rfl, hd⟩
    have HL1 := Aside0.mk (len_calls (HS5.out.below hd.below))
    have HL2 := Aside0.mk (len_calls (HS25.out.below hd.below))
    have HB6 := Aside0.mk (below_step HB5.out hd.below)
    clear hd HS5 HS25 HR5 HR45
    go_wp2_with (fail)
    refine HL1.out.mono ?_
    rintro e w7 ⟨rfl, rfl⟩
    go_wp2_with (fail)
    refine HL2.out.mono ?_
    rintro e w7 ⟨rfl, rfl⟩
    go_wp2_with (fail)
    refine (awake_calls w6 (HLf.out.below HB6.out) (HL.out.below HB6.out)).mono ?_
    rintro e wz ⟨rfl, hb⟩
    have HBz := Aside0.mk (below_step HB6.out hb)
    clear hb
    go_wp2_with (fail)
    go_ret
    exact ⟨rfl, HBz.out⟩
theorem any_n (A : Option Addr) (n c : Nat) (b : List Int) (w : World) (hC : Kd.C (Kd.int .u8) w A n b) (hc : n ≤ c) (hby : ∀ x ∈ b, 0 ≤ x ∧ x < 256) (hLf : LaidAt w 0 firstA) (hL : LaidAt w 1 constA) :
    Calls Tryd.prog 3 #[.slice A n c] w fun e w' => e = .returned (.bool true) ∧ Below w.heap.size w w' := by
  obtain rfl := hC.1
  exact any_calls A c b w hC hc hby hLf hL
end Go.Proofs.YtpndobhakmjglaaDoor.Store
