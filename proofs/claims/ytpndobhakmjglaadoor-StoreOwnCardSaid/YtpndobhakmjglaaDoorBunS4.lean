/- Texts put together: StoreApart, ShaTab, Open, Laid. -/
import Derived.Test.YtpndobhakmjglaaDoorBunS3
import Derived.WalkKit
import Derived.ProofKit
import Derived.OpenShut
import Derived.ShutString
import Derived.ChangeOld
import Derived.Below
import Derived.SizedLaws
import Derived.Deep.Matrix
import Derived.Test.YtpndobhakmjglaaDoorRows
import Derived.LaidMore
import Derived.MakeChecks
set_option linter.unusedVariables false
set_option linter.unusedSimpArgs false
namespace Go.Proofs.YtpndobhakmjglaaDoor.Store
open Go.RowKit Go.Proofs.YtpndobhakmjglaaDoorW.PrintWords Go.Proofs.YtpndobhakmjglaaDoorW.PrintLast Go.Proofs.YtpndobhakmjglaaDoorW.PrintMore Go.Proofs.YtpndobhakmjglaaDoor.K Go.Proofs.YtpndobhakmjglaaDoor.Sha
set_option linter.unusedVariables false
set_option linter.unusedSimpArgs false
theorem bytes_made {W : World} {B g : Nat} {l : List (List Int)} (h : Made W B g l) (hf : (storeB [] l).length ≤ 100000000) : Calls Tryd.prog 11 #[.pointer (some ⟨g, 0, none⟩)] W fun e w' => ∃ A c, e = .returned (.slice A (storeB [] l).length c) ∧ Kd.C (Kd.int .u8) w' A (storeB [] l).length (storeB [] l) ∧ (storeB [] l).length ≤ c ∧ Below W.heap.size W w' := by
  obtain ⟨vl, vm, vb, h⟩ := h
  refine (bytes_calls h hf).mono ?_
  rintro e w' ⟨v, rfl, hR, hb⟩
  obtain ⟨A, c, rfl⟩ := Kd.R_slice hR
  exact ⟨A, c, rfl, (Kd.R_reads' hR).2.2, (Kd.R_reads' hR).2.1, hb⟩
theorem storeB_pre (l : List (List Int)) (n : Nat) : (storeB [] l).take (storeB [] (l.take n)).length = storeB [] (l.take n) ∧ (storeB [] (l.take n)).length ≤ (storeB [] l).length := by
  have h : storeB [] l = storeB [] (l.take n) ++ storeB (markV [] (l.take n)) (l.drop n) := by rw [← storeB_append, List.take_append_drop]
  constructor
  · conv => lhs; rw [h]
    rw [List.take_left]
  · rw [h, List.length_append]; omega
theorem run_upto_bss (A : Option Addr) (n c m : Nat) (hm : m ≤ n) (hc : n ≤ c) (W : World) : (Instr.slice 31 (.slice A n c) none (some (.int .i64 (m : Int))) none).run Tryd.prog W = .ok (.slice A m c) W :=
  run_upto 31 22 Tryd.underlying31 info_bs A n c m hm hc W
set_option maxHeartbeats 8000000 in
set_option maxRecDepth 100000 in
theorem apart_calls (A : Option Addr) (c : Nat) (l : List (List Int)) (A1 : Option Addr) (c1 : Nat) (m : List (List Int)) (n : Int) (w : World) (hC : Kd.C (Kd.slice 5 (Kd.int .u8)) w A l.length l) (hc : l.length ≤ c) (hby : ∀ r ∈ l, ∀ x ∈ r, 0 ≤ x ∧ x < 256) (hC1 : Kd.C (Kd.slice 5 (Kd.int .u8)) w A1 m.length m) (hby1 : ∀ r ∈ m, ∀ x ∈ r, 0 ≤ x ∧ x < 256)
    (hLf : LaidAt w 0 firstA) (hL : LaidAt w 1 constA) :
    Calls Tryd.prog 4 #[.slice A l.length c, .slice A1 m.length c1, .int .i64 n] w fun e w' => e = .returned (.bool true) ∧ Below w.heap.size w w' := by
  have HLf := Aside0.mk hLf
  have HL := Aside0.mk hL
  have HC := Aside0.mk hC
  have HC1 := Aside0.mk hC1
  have HBy := Aside0.mk hby
  have HBy1 := Aside0.mk hby1
  have HAw : Aside0 (∀ W, Below w.heap.size w W → Calls Tryd.prog 9 #[] W fun e w' => e = .returned (.bool true) ∧ Below W.heap.size W w') := ⟨fun W hb => awake_calls W (HLf.out.below hb) (HL.out.below hb)⟩
  clear hLf hL hC hC1 hby hby1
  go_enter Tryd.func4, Tryd.ntmps4
  go_wp2_with (fail)
  refine (few_calls A c l w HC.out).mono ?_
  rintro e w1 ⟨b1, rfl, hF1, hd1⟩
  have HB1 := Aside0.mk hd1.below
  have HF1 := Aside0.mk hF1
  have HCm := Aside0.mk (C_drawn HC1.out hd1)
  clear hd1 hF1
  cases b1 with
  | false =>
    go_wp2_with (fail)
    refine (HAw.out w1 HB1.out).mono ?_
    rintro e wz ⟨rfl, hb⟩
    have HBz := Aside0.mk (below_step HB1.out hb)
    clear hb
    go_wp2_with (fail)
    go_ret
    exact ⟨rfl, HBz.out⟩
  | true =>
    go_wp2_with (fail)
    refine (few_calls A1 c1 m w1 HCm.out).mono ?_
    rintro e w2 ⟨b2, rfl, hF2, hd2⟩
    have HB2 := Aside0.mk (below_step HB1.out hd2.below)
    have HF2 := Aside0.mk hF2
    clear hd2 hF2 HCm
    cases b2 with
    | false =>
      go_wp2_with (fail)
      refine (HAw.out w2 HB2.out).mono ?_
      rintro e wz ⟨rfl, hb⟩
      have HBz := Aside0.mk (below_step HB2.out hb)
      clear hb
      go_wp2_with (fail)
      go_ret
      exact ⟨rfl, HBz.out⟩
    | true =>
      replace HF1 := Aside0.mk (show Few l from by first | exact HF1.out rfl | exact HF1.out trivial)
      replace HF2 := Aside0.mk (show Few m from by first | exact HF2.out rfl | exact HF2.out trivial)
      by_cases hn : n < 0
      · have dn : decide (n < 0) = true := by simp; omega
        clear hn
        go_wp2_with (fail)
        refine (HAw.out w2 HB2.out).mono ?_
        rintro e wz ⟨rfl, hb⟩
        have HBz := Aside0.mk (below_step HB2.out hb)
        clear hb
        go_wp2_with (fail)
        go_ret
        exact ⟨rfl, HBz.out⟩
      · have dn : decide (n < 0) = false := by simp; omega
        by_cases hn2 : (l.length : Int) < n
        · have dn2 : decide ((l.length : Int) < n) = true := by simp; omega
          clear hn hn2
          go_wp2_with (fail)
          refine (HAw.out w2 HB2.out).mono ?_
          rintro e wz ⟨rfl, hb⟩
          have HBz := Aside0.mk (below_step HB2.out hb)
          clear hb
          go_wp2_with (fail)
          go_ret
          exact ⟨rfl, HBz.out⟩
        · obtain ⟨k, rfl⟩ : ∃ k : Nat, n = (k : Int) := ⟨n.toNat, by omega⟩
          have hkl : k ≤ l.length := by omega
          have dn2 : decide ((l.length : Int) < (k : Int)) = false := by simp; omega
          have hcut : ∀ W, (Instr.slice 31 (.slice A l.length c) none (some (.int .i64 (k : Int))) none).run Tryd.prog W = .ok (.slice A k c) W := run_upto_bss A l.length c k hkl hc
          have HTk := Aside0.mk (take_rows k hkl HC.out)
          clear hn hn2 hc
          go_wp2_with (fail)
          refine (made_calls A l.length c l w w2 HC.out HB2.out HBy.out HF1.out HLf.out HL.out).mono ?_
          rintro e w3 ⟨g1, rfl, hM, hb⟩
          have HM1 := Aside0.mk hM
          have HB3 := Aside0.mk (below_step HB2.out hb)
          clear hM hb dn dn2
          go_wp2_with (fail)
          refine (made_calls A1 m.length c1 m w w3 HC1.out HB3.out HBy1.out HF2.out HLf.out HL.out).mono ?_
          rintro e w4 ⟨g2, rfl, hM, hb⟩
          have HM2 := Aside0.mk hM
          have HM1 := Aside0.mk (HM1.out.below hb)
          have HB4 := Aside0.mk (below_step HB3.out hb)
          clear hM hb
          go_wp2_with (fail)
          refine (made_calls A k c (l.take k) w w4 HTk.out HB4.out (fun r hr => HBy.out r (List.mem_of_mem_take hr)) (few_take k HF1.out) HLf.out HL.out).mono ?_
          rintro e w5 ⟨g3, rfl, hM, hb⟩
          have HM3 := Aside0.mk hM
          have HM1 := Aside0.mk (HM1.out.below hb)
          have HM2 := Aside0.mk (HM2.out.below hb)
          have HB5 := Aside0.mk (below_step HB4.out hb)
          clear hM hb
          have HLl := Aside0.mk (few_bytes HF1.out)
          have HLm := Aside0.mk (few_bytes HF2.out)
          have HPre := Aside0.mk (storeB_pre l k)
          have HEq : Aside0 (decide (storeB [] l = storeB [] m) = decide (l = m)) := ⟨by
            by_cases h : l = m
            · rw [h]; simp
            · rw [decide_eq_false h, decide_eq_false (fun h2 => h (storeB_inj [] (few_short HF1.out) (few_short HF2.out) h2))]⟩
          obtain ⟨X, hX⟩ : ∃ X, X = storeB [] l := ⟨_, rfl⟩
          obtain ⟨Y, hY⟩ : ∃ Y, Y = storeB [] m := ⟨_, rfl⟩
          obtain ⟨Z, hZ⟩ : ∃ Z, Z = storeB [] (l.take k) := ⟨_, rfl⟩
          have HBx := Aside0.mk (bytes_made HM1.out (by have := HLl.out; omega))
          have HBy_ := Aside0.mk (fun W hb => bytes_made (HM2.out.below (W1 := W) hb) (by have := HLm.out; omega))
          have HBz_ := Aside0.mk (fun W hb => bytes_made (HM3.out.below (W1 := W) hb) (by have := HPre.out.2; have := HLl.out; omega))
          rw [← hX] at HPre HEq HBx HLl
          rw [← hY] at HEq HBy_ HLm
          rw [← hZ] at HPre HBz_
          clear hX hY hZ HM1 HM2 HM3
          go_wp2_with (fail)
          refine HBx.out.mono ?_
          rintro e w6 ⟨Ax, cx, rfl, hCx, hcx, hb⟩
          have HCx := Aside0.mk hCx
          have HB56 := Aside0.mk hb
          have HB6 := Aside0.mk (below_step HB5.out hb)
          clear hCx hb
          go_wp2_with (fail)
          refine (HBz_.out w6 HB56.out).mono ?_
          rintro e w7 ⟨Az, cz, rfl, hCz, hcz, hb⟩
          have HCz := Aside0.mk hCz
          have HCx := Aside0.mk (Kd.C_below HCx.out hb)
          have HB57 := Aside0.mk (below_step HB56.out hb)
          have HB7 := Aside0.mk (below_step HB6.out hb)
          clear hCz hb
          have HPc := Aside0.mk (Law.pieces_calls A c l A1 c1 m)
          have hzx : Aside0 (Z.length ≤ X.length) := ⟨HPre.out.2⟩
          have dzx : decide ((Z.length : Int) ≤ (X.length : Int)) = true := by have := hzx.out; simp; omega
          have dzxN : decide (Z.length ≤ X.length) = true := by have := hzx.out; simp; omega
          have hcutz : ∀ W, (Instr.slice 22 (.slice Ax X.length cx) none (some (.int .i64 (Z.length : Int))) none).run Tryd.prog W = .ok (.slice Ax Z.length cx) W := run_upto8 Ax X.length cx Z.length hzx.out hcx
          have HTz : Aside0 (Kd.C (Kd.int .u8) w7 Ax Z.length Z) := ⟨by
            have h := take_int Z.length hzx.out HCx.out
            rwa [HPre.out.1] at h⟩
          clear hcx hcz hcut
          go_wp2_with (fail)
          refine (HBy_.out w7 HB57.out).mono ?_
          rintro e w8 ⟨Ay, cy, rfl, hCy, hcy, hb⟩
          have HCy := Aside0.mk hCy
          have HCx := Aside0.mk (Kd.C_below HCx.out hb)
          have HCz := Aside0.mk (Kd.C_below HCz.out hb)
          have HTz := Aside0.mk (Kd.C_below HTz.out hb)
          have HB8 := Aside0.mk (below_step HB7.out hb)
          clear hCy hb hcy
          go_wp2_with (fail)
          obtain ⟨t, ht⟩ : ∃ t, t = decide (X = Y) := ⟨_, rfl⟩
          have HTt := Aside0.mk ht
          refine (Law.bytes_n Ax X.length cx X Ay Y.length cy Y w8 HCx.out HCy.out t ht.symm).mono ?_
          rintro e w9 ⟨rfl, hd⟩
          have HCz := Aside0.mk (C_drawn HCz.out hd)
          have HTz := Aside0.mk (C_drawn HTz.out hd)
          have HB9 := Aside0.mk (below_step HB8.out hd.below)
          clear hd ht
          go_wp2_with (fail)
          refine (HPc.out w9 (Kd.C_below HC.out HB9.out) (Kd.C_below HC1.out HB9.out) t (by rw [HTt.out, HEq.out])).mono ?_
          rintro e w10 ⟨rfl, hd⟩
          have HCz := Aside0.mk (C_drawn HCz.out hd)
          have HTz := Aside0.mk (C_drawn HTz.out hd)
          have HB10 := Aside0.mk (below_step HB9.out hd.below)
          have htt : (t == t) = true := by simp
          clear hd
          go_wp2_with (fail)
          refine (Law.bytes_n Az Z.length cz Z Ax Z.length cx Z w10 HCz.out HTz.out true (by simp)).mono ?_
          rintro e w11 ⟨rfl, hd⟩
          have HB11 := Aside0.mk (below_step HB10.out hd.below)
          clear hd
          go_wp2_with (fail)
          refine (HAw.out w11 HB11.out).mono ?_
          rintro e wz ⟨rfl, hb⟩
          have HBz := Aside0.mk (below_step HB11.out hb)
          clear hb
          go_wp2_with (fail)
          go_ret
          exact ⟨rfl, HBz.out⟩
theorem apart_n (A : Option Addr) (l0 c : Nat) (l : List (List Int)) (A1 : Option Addr) (l1 c1 : Nat) (m : List (List Int)) (n : Int) (w : World) (hC : Kd.C (Kd.slice 5 (Kd.int .u8)) w A l0 l) (hc : l0 ≤ c) (hby : ∀ r ∈ l, ∀ x ∈ r, 0 ≤ x ∧ x < 256) (hC1 : Kd.C (Kd.slice 5 (Kd.int .u8)) w A1 l1 m) (hby1 : ∀ r ∈ m, ∀ x ∈ r, 0 ≤ x ∧ x < 256)
    (hLf : LaidAt w 0 firstA) (hL : LaidAt w 1 constA) :
    Calls Tryd.prog 4 #[.slice A l0 c, .slice A1 l1 c1, .int .i64 n] w fun e w' => e = .returned (.bool true) ∧ Below w.heap.size w w' := by
  obtain rfl := hC.1
  obtain rfl := hC1.1
  exact apart_calls A c l A1 c1 m n w hC hc hby hC1 hby1 hLf hL
end Go.Proofs.YtpndobhakmjglaaDoor.Store
namespace Go.Proofs.YtpndobhakmjglaaDoor.Sha
open Go.RowKit Go.Proofs.YtpndobhakmjglaaDoorW.PrintWords Go.Proofs.YtpndobhakmjglaaDoor.K
def firstL : List Int := [1779033703, 3144134277, 1013904242, 2773480762, 1359893119, 2600822924, 528734635, 1541459225]
def constantsL : List Int := (1116352408 :: 1899447441 :: 3049323471 :: 3921009573 :: 961987163 :: 1508970993 :: 2453635748 :: 2870763221 :: 3624381080 :: 310598401 :: 607225278 :: 1426881987 :: 1925078388 :: 2162078206 :: 2614888103 :: 3248222580 :: 3835390401 :: 4022224774 :: 264347078 :: 604807628 :: 770255983 :: 1249150122 :: 1555081692 :: 1996064986 :: 2554220882 :: 2821834349 :: 2952996808 :: 3210313671 :: 3336571891 :: 3584528711 :: 113926993 :: 338241895 :: 666307205 :: 773529912 :: 1294757372 :: 1396182291 :: 1695183700 :: 1986661051 :: 2177026350 :: 2456956037 :: 2730485921 :: 2820302411 :: 3259730800 :: 3345764771 :: 3516065817 :: 3600352804 :: 4094571909 :: 275423344 :: 430227734 :: 506948616 :: 659060556 :: 883997877 :: 958139571 :: 1322822218 :: 1537002063 :: 1747873779 :: 1955562222 :: 2024104815 :: 2227730452 :: 2361852424 :: 2428436474 :: 2756734187 :: 3204031479 :: 3329325298 :: [])
set_option maxRecDepth 100000 in
theorem first_arr : (nums .u32 firstL).toArray = firstA := by
  have h : firstL = init.l.map wi := by decide +kernel
  rw [h]
  rfl
set_option maxRecDepth 100000 in
theorem constants_arr : (nums .u32 constantsL).toArray = constA := by
  have h : constantsL = kL.map wi := by decide +kernel
  rw [h]
  rfl
end Go.Proofs.YtpndobhakmjglaaDoor.Sha
namespace Go.Proofs.YtpndobhakmjglaaDoor.K
open Go.RowKit Go.ChangeShapes Go.WideShapes Go.ChangeAt Go.Proofs.YtpndobhakmjglaaDoorW.PrintWords Go.Proofs.YtpndobhakmjglaaDoorW.PrintLast Go.Proofs.YtpndobhakmjglaaDoorW.PrintMore
theorem open_bss {H : Type} {enc : TypeId × Value → H} {P : Program} {W : World} {base : Nat} {held : Bool} {t e q E : TypeId} {k : IntKind} {a : Option Addr} {len cap : Nat} {d : DataW H} {ps : List MemPlace}
    (ht : P.underlying t = some (.slice e)) (he : P.underlying e = some (.slice q)) (hq : P.underlying q = some (.int k)) (ce : P.cellsOf e = 1) (cq : P.cellsOf q = 1)
    (h : DataW.Trod enc P W base (fun _ => true) held t (.slice a len cap) d ps) :
    ∃ xs : List (List Int), Kd.C (Kd.slice E (Kd.int k)) W a len xs ∧ len ≤ cap ∧ ∀ x ∈ xs, ∀ n ∈ x, (Lit.int k n).wf = true := by
  obtain ⟨fuel, hf⟩ := h
  rcases Deep.open_int_rows ht he hq ce cq hf with ⟨hcs, _⟩ | ⟨x, l, c, A, L, C, Z, hcs, _, hl, hm, _, hrow⟩
  · simp [Value.cells] at hcs
    obtain ⟨rfl, rfl, rfl⟩ := hcs
    exact ⟨[], ⟨rfl, by decide, fun h => absurd h (by decide)⟩, Nat.le_refl _, fun x hx => by simp at hx⟩
  · simp [Value.cells] at hcs
    obtain ⟨rfl, rfl, rfl⟩ := hcs
    unfold maxLen at hm
    have hlen : ∀ r, r < cap → ((Z r).take (L r)).length = L r := fun r hr => by
      obtain ⟨_, h1, _, h2, _⟩ := hrow r hr
      rw [List.length_take, h2]
      omega
    refine ⟨(List.range len).map fun r => (Z r).take (L r), ⟨by simp, by omega, fun _ => ⟨x, rfl, fun j p hj => ?_⟩⟩, hl, ?_⟩
    · have hj' : j < len := by have := (List.getElem?_eq_some_iff.1 hj).1; simpa using this
      have hp : p = (Z j).take (L j) := by simpa [List.getElem?_map, List.getElem?_range hj'] using hj.symm
      subst hp
      obtain ⟨h1, h2, h3, h4, h5, h6, h7⟩ := hrow j (by omega)
      have hlj := hlen j (by omega)
      refine ⟨[.slice (A j) (L j) (C j)], rfl, ⟨A j, C j, by rw [hlj], by rw [hlj]; exact h2, C_int ?_⟩, fun i u hu => ?_⟩
      · rw [hlj]
        unfold maxLen at h3
        refine ⟨hlj, by omega, fun hp => ?_⟩
        cases hA : A j with
        | none => have := h6 hA; omega
        | some a' =>
          refine ⟨a', rfl, fun i hi => ?_⟩
          rw [(h7 a' hA).2 i (by omega)]
          simp [List.getD_eq_getElem?_getD, hi]
      · obtain ⟨rfl, rfl⟩ : i = 0 ∧ u = .slice (A j) (L j) (C j) := by
          cases i with
          | zero => exact ⟨rfl, by simpa using hu.symm⟩
          | succ i => simp at hu
        have : j * (Kd.slice E (Kd.int k)).sz + 0 = j := by show j * 1 + 0 = j; omega
        rw [this]
        exact h1
    · intro y hy n hn
      obtain ⟨r, hr, rfl⟩ := List.mem_map.1 hy
      have hr' : r < cap := by have := List.mem_range.1 hr; omega
      exact (hrow r hr').2.2.2.2.1 n (List.mem_of_mem_take hn)
theorem open_is {H : Type} {enc : TypeId × Value → H} {P : Program} {W : World} {base : Nat} {held : Bool} {t e : TypeId} {k : IntKind} {a : Option Addr} {len cap : Nat} {d : DataW H} {ps : List MemPlace}
    (ht : P.underlying t = some (.slice e)) (he : P.underlying e = some (.int k)) (ce : P.cellsOf e = 1)
    (h : DataW.Trod enc P W base (fun _ => true) held t (.slice a len cap) d ps) :
    ∃ xs : List Int, Kd.C (Kd.int k) W a len xs ∧ len ≤ cap ∧ ∀ n ∈ xs, (Lit.int k n).wf = true := by
  obtain ⟨fuel, hf⟩ := h
  rcases open_ints ht he ce hf with ⟨hcs, _⟩ | ⟨x, l, c, zs, hcs, _, hl, hm, hz, _, hcell, hwz⟩
  · simp [Value.cells] at hcs
    obtain ⟨rfl, rfl, rfl⟩ := hcs
    exact ⟨[], C_int ⟨rfl, by decide, fun h => absurd h (by decide)⟩, Nat.le_refl _, fun x hx => by simp at hx⟩
  · simp [Value.cells] at hcs
    obtain ⟨rfl, rfl, rfl⟩ := hcs
    unfold maxLen at hm
    simp only [if_true] at hz
    have hl1 : (zs.take len).length = len := by rw [List.length_take, hz]; omega
    refine ⟨zs.take len, C_int ⟨hl1, by omega, fun _ => ⟨x, rfl, fun i hi => ?_⟩⟩, hl, fun n hn => hwz n (List.mem_of_mem_take hn)⟩
    rw [hcell i (by omega)]
    simp [List.getD_eq_getElem?_getD, hi]
theorem byte_wf {xs : List Int} (h : ∀ n ∈ xs, (Lit.int .u8 n).wf = true) : ∀ x ∈ xs, 0 ≤ x ∧ x < 256 := fun x hx => by
  have := h x hx
  simp only [Lit.wf, Bool.and_eq_true, decide_eq_true_eq] at this
  have h1 : IntKind.u8.min = 0 := by decide
  have h2 : IntKind.u8.max = 255 := by decide
  omega
theorem wf_range {x : Int} (h : (Lit.int .i64 x).wf = true) : -9223372036854775808 ≤ x ∧ x ≤ 9223372036854775807 := by
  simp only [Lit.wf, Bool.and_eq_true, decide_eq_true_eq] at h
  have h1 : IntKind.i64.min = -9223372036854775808 := by decide
  have h2 : IntKind.i64.max = 9223372036854775807 := by decide
  omega
end Go.Proofs.YtpndobhakmjglaaDoor.K
namespace Go.Proofs.YtpndobhakmjglaaDoor.Laid
open Go.RowKit Go.Proofs.YtpndobhakmjglaaDoorW.PrintWords Go.Proofs.YtpndobhakmjglaaDoor.K
set_option linter.unusedVariables false
theorem laidVars_mem {P : Program} {w : World} {n : String} {d : DataW Unit} : ∀ {l : List (String × DataW Unit)} {ps : List MemPlace}, DataW.LaidVars P w l ps → (n, d) ∈ l →
    ∃ g t cs fuel p, P.globalNamed n = some g ∧ (P.globals[g]?).map (·.type) = some t ∧ w.var? P n = some cs ∧ DataW.trod (fun _ => ()) P w 0 (fun _ => true) false fuel t cs.toList = some (d, p) := by
  intro l
  induction l with
  | nil => intro ps _ h; cases h
  | cons x l ih =>
    intro ps h hm
    obtain ⟨m, y⟩ := x
    obtain ⟨g, t, cs, fuel, p, q, h1, h2, h3, h4, h5, _⟩ := h
    rcases List.mem_cons.1 hm with e | e
    · cases e
      exact ⟨g, t, cs, fuel, p, h1, h2, h3, h4⟩
    · exact ih h5 e
theorem lit_of_trod {H : Type} {enc : TypeId × Value → H} {P : Program} {w : World} {base : Nat} {sp : Nat → Bool} {held : Bool} {fuel : Nat} {t : TypeId} {k : IntKind} {c : Value} {y : DataW H × List MemPlace}
    (ht : P.underlying t = some (.int k)) (h : DataW.trod enc P w base sp held fuel t [c] = some y) : ∃ n, c = .int k n ∧ y = (.lit (.int k n), []) := by
  cases fuel with
  | zero => simp [DataW.trod] at h
  | succ fuel =>
    cases c <;> simp [DataW.trod, ht] at h
    rename_i k' n
    obtain ⟨⟨rfl, _⟩, rfl⟩ := h
    exact ⟨n, rfl, rfl⟩
theorem ints_cells {P : Program} {w : World} {sp : Nat → Bool} {fuel : Nat} {t E : TypeId} {k : IntKind} {N : Nat} {cs : List Value} {xs : List Int} {p : List MemPlace}
    (ht : P.underlying t = some (.array N E)) (hE : P.underlying E = some (.int k)) (hc : P.cellsOf E = 1) (hct : P.cellsOf t = N)
    (h : DataW.trod (fun _ => ()) P w 0 sp false fuel t cs = some (.agg (xs.map fun x => .lit (.int k x)), p)) : cs = nums k xs := by
  obtain ⟨ys, m, _, hx, hl, hn, hel⟩ := DataW.trod_array ht h
  simp only [Prod.mk.injEq, DataW.agg.injEq] at hx
  obtain ⟨hx, _⟩ := hx
  have hlen : xs.length = N := by have := congrArg List.length hx; simpa [hn] using this
  rw [hct] at hl
  refine List.ext_getElem (by rw [hl, nums, List.length_map, hlen]) fun i h1 h2 => ?_
  have hi : i < N := by omega
  have h3 := hel i hi
  rw [hc, Nat.mul_one, List.drop_eq_getElem_cons h1, List.take_succ_cons, List.take_zero, List.getElem?_eq_getElem (by omega)] at h3
  obtain ⟨n, e1, e2⟩ := lit_of_trod hE h3
  have h4 := congrArg (·[i]?) hx
  simp only [List.getElem?_map] at h4
  rw [List.getElem?_eq_getElem (by omega), List.getElem?_eq_getElem (by omega), Option.map_some, Option.map_some, e2] at h4
  simp at h4
  rw [e1, ← h4]
  simp [nums]
theorem laidAt_of {P : Program} {W : World} {l : List (String × DataW Unit)} {n : String} {g N : Nat} {t E : TypeId} {k : IntKind} {xs : List Int}
    (h : laidMetH P l W) (hp : (l.all fun x => x.2.handleName?.isNone) = true) (hm : (n, DataW.agg (xs.map fun x => .lit (.int k x))) ∈ l) (hg : P.globalNamed n = some g) (hgt : (P.globals[g]?).map (·.type) = some t)
    (ht : P.underlying t = some (.array N E)) (hE : P.underlying E = some (.int k)) (hc : P.cellsOf E = 1) (hct : P.cellsOf t = N) : LaidAt W g (nums k xs).toArray := by
  rw [MakeChecks.laidMetH_plain _ _ _ hp] at h
  obtain ⟨ps, hv, _⟩ := h
  obtain ⟨g', t', cs, fuel, p, h1, h2, h3, h4⟩ := laidVars_mem hv hm
  obtain rfl := Option.some.inj (hg.symm.trans h1)
  obtain rfl := Option.some.inj (hgt.symm.trans h2)
  have h5 := ints_cells ht hE hc hct h4
  have h6 : cs = (nums k xs).toArray := by rw [← h5]
  subst h6
  simp only [World.var?, h1, Option.bind_some] at h3
  split at h3
  · rename_i c t2 fr hh
    cases h3
    exact ⟨t2, fr, hh⟩
  · cases h3
theorem i64_b {a : Int} (h : (Lit.int .i64 a).wf = true) : -9223372036854775808 ≤ a ∧ a ≤ 9223372036854775807 := by
  have h2 : (decide (-9223372036854775808 ≤ a) && decide (a ≤ 9223372036854775807)) = true := h
  simpa using h2
end Go.Proofs.YtpndobhakmjglaaDoor.Laid
