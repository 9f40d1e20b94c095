/- StoreApart: the law's walk. -/
import Derived.Test.YtpndobhakmjglaaDoorStoreMade
import Derived.Test.YtpndobhakmjglaaDoorLawBytes
import Derived.Test.YtpndobhakmjglaaDoorLawPieces
namespace Go.Proofs.YtpndobhakmjglaaDoor.Store
open Go.RowKit Go.Proofs.YtpndobhakmjglaaDoorW.PrintWords Go.Proofs.YtpndobhakmjglaaDoorW.PrintLast Go.Proofs.YtpndobhakmjglaaDoorW.PrintMore Go.Proofs.YtpndobhakmjglaaDoor.K Go.Proofs.YtpndobhakmjglaaDoor.Sha
set_option linter.unusedVariables false
set_option linter.unusedSimpArgs false
theorem bytes_made {W : World} {B g : Nat} {l : List (List Int)} (h : Made W B g l) (hf : (storeB [] l).length ≤ 100000000) : Calls Tryd.prog 11 #[.pointer (some ⟨g, 0, none⟩)] W fun e w' => ∃ A c, e = .returned (.slice A (storeB [] l).length c) ∧ Kd.C (Kd.int .u8) w' A (storeB [] l).length (storeB [] l) ∧ (storeB [] l).length ≤ c ∧ Below W.heap.size W w' := by
  obtain ⟨vl, vm, vb, h⟩ := h
  refine (bytes_calls h hf).mono ?_
  rintro e w' ⟨v, rfl, hR, hb⟩
  obtain ⟨A, c, rfl⟩ := Kd.R_slice hR
  exact ⟨A, c, rfl, (Kd.R_reads' hR).2.2, (Kd.R_reads' hR).2.1, hb⟩
theorem storeB_pre (l : List (List Int)) (n : Nat) : (storeB [] l).take (storeB [] (l.take n)).length = storeB [] (l.take n) ∧ (storeB [] (l.take n)).length ≤ (storeB [] l).length := by
  have h : storeB [] l = storeB [] (l.take n) ++ storeB (markV [] (l.take n)) (l.drop n) := by rw [← storeB_append, List.take_append_drop]
  constructor
  · conv => lhs; rw [h]
    rw [List.take_left]
  · rw [h, List.length_append]; omega
theorem run_upto_bss (A : Option Addr) (n c m : Nat) (hm : m ≤ n) (hc : n ≤ c) (W : World) : (Instr.slice 31 (.slice A n c) none (some (.int .i64 (m : Int))) none).run Tryd.prog W = .ok (.slice A m c) W :=
  run_upto 31 22 Tryd.underlying31 info_bs A n c m hm hc W
set_option maxHeartbeats 8000000 in
set_option maxRecDepth 100000 in
theorem apart_calls (A : Option Addr) (c : Nat) (l : List (List Int)) (A1 : Option Addr) (c1 : Nat) (m : List (List Int)) (n : Int) (w : World) (hC : Kd.C (Kd.slice 5 (Kd.int .u8)) w A l.length l) (hc : l.length ≤ c) (hby : ∀ r ∈ l, ∀ x ∈ r, 0 ≤ x ∧ x < 256) (hC1 : Kd.C (Kd.slice 5 (Kd.int .u8)) w A1 m.length m) (hby1 : ∀ r ∈ m, ∀ x ∈ r, 0 ≤ x ∧ x < 256)
    (hLf : LaidAt w 0 firstA) (hL : LaidAt w 1 constA) :
    Calls Tryd.prog 4 #[.slice A l.length c, .slice A1 m.length c1, .int .i64 n] w fun e w' => e = .returned (.bool true) ∧ Below w.heap.size w w' := by
  have HLf := Aside0.mk hLf
  have HL := Aside0.mk hL
  have HC := Aside0.mk hC
  have HC1 := Aside0.mk hC1
  have HBy := Aside0.mk hby
  have HBy1 := Aside0.mk hby1
  have HAw : Aside0 (∀ W, Below w.heap.size w W → Calls Tryd.prog 9 #[] W fun e w' => e = .returned (.bool true) ∧ Below W.heap.size W w') := ⟨fun W hb => awake_calls W (HLf.out.below hb) (HL.out.below hb)⟩
  clear hLf hL hC hC1 hby hby1
  go_enter Tryd.func4, Tryd.ntmps4
  go_wp2_with (fail)
  refine (few_calls A c l w HC.out).mono ?_
  rintro e w1 ⟨b1, rfl, hF1, hd1⟩
  have HB1 := Aside0.mk hd1.below
  have HF1 := Aside0.mk hF1
  have HCm := Aside0.mk (C_drawn HC1.out hd1)
  clear hd1 hF1
  cases b1 with
  | false =>
    go_wp2_with (fail)
    refine (HAw.out w1 HB1.out).mono ?_
    rintro e wz ⟨rfl, hb⟩
    have HBz := Aside0.mk (below_step HB1.out hb)
    clear hb
    go_wp2_with (fail)
    go_ret
    exact ⟨rfl, HBz.out⟩
  | true =>
    go_wp2_with (fail)
    refine (few_calls A1 c1 m w1 HCm.out).mono ?_
    rintro e w2 ⟨b2, rfl, hF2, hd2⟩
    have HB2 := Aside0.mk (below_step HB1.out hd2.below)
    have HF2 := Aside0.mk hF2
    clear hd2 hF2 HCm
    cases b2 with
    | false =>
      go_wp2_with (fail)
      refine (HAw.out w2 HB2.out).mono ?_
      rintro e wz ⟨rfl, hb⟩
      have HBz := Aside0.mk (below_step HB2.out hb)
      clear hb
      go_wp2_with (fail)
      go_ret
      exact ⟨rfl, HBz.out⟩
    | true =>
      replace HF1 := Aside0.mk (show Few l from by first | exact HF1.out rfl | exact HF1.out trivial)
      replace HF2 := Aside0.mk (show Few m from by first | exact HF2.out rfl | exact HF2.out trivial)
      by_cases hn : n < 0
      · have dn : decide (n < 0) = true := by simp; omega
        clear hn
        go_wp2_with (fail)
        refine (HAw.out w2 HB2.out).mono ?_
        rintro e wz ⟨rfl, hb⟩
        have HBz := Aside0.mk (below_step HB2.out hb)
        clear hb
        go_wp2_with (fail)
        go_ret
        exact ⟨rfl, HBz.out⟩
      · have dn : decide (n < 0) = false := by simp; omega
        by_cases hn2 : (l.length : Int) < n
        · have dn2 : decide ((l.length : Int) < n) = true := by simp; omega
          clear hn hn2
          go_wp2_with (fail)
          refine (HAw.out w2 HB2.out).mono ?_
          rintro e wz ⟨rfl, hb⟩
          have HBz := Aside0.mk (below_step HB2.out hb)
          clear hb
          go_wp2_with (fail)
          go_ret
          exact ⟨rfl, HBz.out⟩
        · obtain ⟨k, rfl⟩ : ∃ k : Nat, n = (k : Int) := ⟨n.toNat, by omega⟩
          have hkl : k ≤ l.length := by omega
          have dn2 : decide ((l.length : Int) < (k : Int)) = false := by simp; omega
          have hcut : ∀ W, (Instr.slice 31 (.slice A l.length c) none (some (.int .i64 (k : Int))) none).run Tryd.prog W = .ok (.slice A k c) W := run_upto_bss A l.length c k hkl hc
          have HTk := Aside0.mk (take_rows k hkl HC.out)
          clear hn hn2 hc
          go_wp2_with (fail)
          refine (made_calls A l.length c l w w2 HC.out HB2.out HBy.out HF1.out HLf.out HL.out).mono ?_
          rintro e w3 ⟨g1, rfl, hM, hb⟩
          have HM1 := Aside0.mk hM
          have HB3 := Aside0.mk (below_step HB2.out hb)
          clear hM hb dn dn2
          go_wp2_with (fail)
          refine (made_calls A1 m.length c1 m w w3 HC1.out HB3.out HBy1.out HF2.out HLf.out HL.out).mono ?_
          rintro e w4 ⟨g2, rfl, hM, hb⟩
          have HM2 := Aside0.mk hM
          have HM1 := Aside0.mk (HM1.out.below hb)
          have HB4 := Aside0.mk (below_step HB3.out hb)
          clear hM hb
          go_wp2_with (fail)
          refine (made_calls A k c (l.take k) w w4 HTk.out HB4.out (fun r hr => HBy.out r (List.mem_of_mem_take hr)) (few_take k HF1.out) HLf.out HL.out).mono ?_
          rintro e w5 ⟨g3, rfl, hM, hb⟩
          have HM3 := Aside0.mk hM
          have HM1 := Aside0.mk (HM1.out.below hb)
          have HM2 := Aside0.mk (HM2.out.below hb)
          have HB5 := Aside0.mk (below_step HB4.out hb)
          clear hM hb
          have HLl := Aside0.mk (few_bytes HF1.out)
          have HLm := Aside0.mk (few_bytes HF2.out)
          have HPre := Aside0.mk (storeB_pre l k)
          have HEq : Aside0 (decide (storeB [] l = storeB [] m) = decide (l = m)) := ⟨by
            by_cases h : l = m
            · rw [h]; simp
            · rw [decide_eq_false h, decide_eq_false (fun h2 => h (storeB_inj [] (few_short HF1.out) (few_short HF2.out) h2))]⟩
          obtain ⟨X, hX⟩ : ∃ X, X = storeB [] l := ⟨_, rfl⟩
          obtain ⟨Y, hY⟩ : ∃ Y, Y = storeB [] m := ⟨_, rfl⟩
          obtain ⟨Z, hZ⟩ : ∃ Z, Z = storeB [] (l.take k) := ⟨_, rfl⟩
          have HBx := Aside0.mk (bytes_made HM1.out (by have := HLl.out; omega))
          have HBy_ := Aside0.mk (fun W hb => bytes_made (HM2.out.below (W1 := W) hb) (by have := HLm.out; omega))
          have HBz_ := Aside0.mk (fun W hb => bytes_made (HM3.out.below (W1 := W) hb) (by have := HPre.out.2; have := HLl.out; omega))
          rw [← hX] at HPre HEq HBx HLl
          rw [← hY] at HEq HBy_ HLm
          rw [← hZ] at HPre HBz_
          clear hX hY hZ HM1 HM2 HM3
          go_wp2_with (fail)
          refine HBx.out.mono ?_
          rintro e w6 ⟨Ax, cx, rfl, hCx, hcx, hb⟩
          have HCx := Aside0.mk hCx
          have HB56 := Aside0.mk hb
          have HB6 := Aside0.mk (below_step HB5.out hb)
          clear hCx hb
          go_wp2_with (fail)
          refine (HBz_.out w6 HB56.out).mono ?_
          rintro e w7 ⟨Az, cz, rfl, hCz, hcz, hb⟩
          have HCz := Aside0.mk hCz
          have HCx := Aside0.mk (Kd.C_below HCx.out hb)
          have HB57 := Aside0.mk (below_step HB56.out hb)
          have HB7 := Aside0.mk (below_step HB6.out hb)
          clear hCz hb
          have HPc := Aside0.mk (Law.pieces_calls A c l A1 c1 m)
          have hzx : Aside0 (Z.length ≤ X.length) := ⟨HPre.out.2⟩
          have dzx : decide ((Z.length : Int) ≤ (X.length : Int)) = true := by have := hzx.out; simp; omega
          have dzxN : decide (Z.length ≤ X.length) = true := by have := hzx.out; simp; omega
          have hcutz : ∀ W, (Instr.slice 22 (.slice Ax X.length cx) none (some (.int .i64 (Z.length : Int))) none).run Tryd.prog W = .ok (.slice Ax Z.length cx) W := run_upto8 Ax X.length cx Z.length hzx.out hcx
          have HTz : Aside0 (Kd.C (Kd.int .u8) w7 Ax Z.length Z) := ⟨by
            have h := take_int Z.length hzx.out HCx.out
            rwa [HPre.out.1] at h⟩
          clear hcx hcz hcut
          go_wp2_with (fail)
          refine (HBy_.out w7 HB57.out).mono ?_
          rintro e w8 ⟨Ay, cy, rfl, hCy, hcy, hb⟩
          have HCy := Aside0.mk hCy
          have HCx := Aside0.mk (Kd.C_below HCx.out hb)
          have HCz := Aside0.mk (Kd.C_below HCz.out hb)
          have HTz := Aside0.mk (Kd.C_below HTz.out hb)
          have HB8 := Aside0.mk (below_step HB7.out hb)
          clear hCy hb hcy
          go_wp2_with (fail)
          obtain ⟨t, ht⟩ : ∃ t, t = decide (X = Y) := ⟨_, rfl⟩
          have HTt := Aside0.mk ht
          refine (Law.bytes_n Ax X.length cx X Ay Y.length cy Y w8 HCx.out HCy.out t ht.symm).mono ?_
          rintro e w9 ⟨rfl, hd⟩
          have HCz := Aside0.mk (C_drawn HCz.out hd)
          have HTz := Aside0.mk (C_drawn HTz.out hd)
          have HB9 := Aside0.mk (below_step HB8.out hd.below)
          clear hd ht
          go_wp2_with (fail)
          refine (HPc.out w9 (Kd.C_below HC.out HB9.out) (Kd.C_below HC1.out HB9.out) t (by rw [HTt.out, HEq.out])).mono ?_
          rintro e w10 ⟨rfl, hd⟩
          have HCz := Aside0.mk (C_drawn HCz.out hd)
          have HTz := Aside0.mk (C_drawn HTz.out hd)
          have HB10 := Aside0.mk (below_step HB9.out hd.below)
          have htt : (t == t) = true := by simp
          clear hd
          go_wp2_with (fail)
          refine (Law.bytes_n Az Z.length cz Z Ax Z.length cx Z w10 HCz.out HTz.out true (by simp)).mono ?_
          rintro e w11 ⟨rfl, hd⟩
          have HB11 := Aside0.mk (below_step HB10.out hd.below)
          clear hd
          go_wp2_with (fail)
          refine (HAw.out w11 HB11.out).mono ?_
          rintro e wz ⟨rfl, hb⟩
          have HBz := Aside0.mk (below_step HB11.out hb)
          clear hb
          go_wp2_with (fail)
          go_ret
          exact ⟨rfl, HBz.out⟩
theorem apart_n (A : Option Addr) (l0 c : Nat) (l : List (List Int)) (A1 : Option Addr) (l1 c1 : Nat) (m : List (List Int)) (n : Int) (w : World) (hC : Kd.C (Kd.slice 5 (Kd.int .u8)) w A l0 l) (hc : l0 ≤ c) (hby : ∀ r ∈ l, ∀ x ∈ r, 0 ≤ x ∧ x < 256) (hC1 : Kd.C (Kd.slice 5 (Kd.int .u8)) w A1 l1 m) (hby1 : ∀ r ∈ m, ∀ x ∈ r, 0 ≤ x ∧ x < 256)
    (hLf : LaidAt w 0 firstA) (hL : LaidAt w 1 constA) :
    Calls Tryd.prog 4 #[.slice A l0 c, .slice A1 l1 c1, .int .i64 n] w fun e w' => e = .returned (.bool true) ∧ Below w.heap.size w w' := by
  obtain rfl := hC.1
  obtain rfl := hC1.1
  exact apart_calls A c l A1 c1 m n w hC hc hby hC1 hby1 hLf hL
end Go.Proofs.YtpndobhakmjglaaDoor.Store
