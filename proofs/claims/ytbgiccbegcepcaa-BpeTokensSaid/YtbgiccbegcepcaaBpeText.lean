/- bpe: Text, Decode. -/
import Derived.Test.YtbgiccbegcepcaaBpeTok
import Derived.Test.YtbgiccbegcepcaaBpeCl
import Derived.Test.YtbgiccbegcepcaaClone
import Derived.Test.YtbgiccbegcepcaaConcat
namespace Go.Proofs.Ytbgiccbegcepcaa.Bpe
open Go.RowKit Go.Proofs.YtbgiccbegcepcaaW.PrintWords Go.Proofs.YtbgiccbegcepcaaW.PrintLast Go.Proofs.YtbgiccbegcepcaaW.PrintMore Go.Proofs.Ytbgiccbegcepcaa.K Go.Proofs.Ytbgiccbegcepcaa.Cat
set_option linter.unusedVariables false
set_option linter.unusedSimpArgs false
section
variable {w : World} {B g b : Nat} {vt vo : Value} {T : List (List Int)} {of : List Int} {n : Int} {ps os : List Pr}
set_option maxHeartbeats 1000000 in
theorem text_nil (x : Int) (w : World) :
    Calls Try.prog 20 #[.pointer none, .int .i64 x] w fun e w' => e = .returned (.tuple #[.slice none 0 0, .int .i64 2]) ∧ w = w' := by
  go_enter Try.func20, Try.ntmps20
  go_wp2
  go_ret2
  exact ⟨rfl, rfl⟩
set_option maxHeartbeats 1000000 in
theorem text_none (x : Int) (h : CodAt w B g vt vo b T of n ps os) (hx : isTok T.length x = false) :
    Calls Try.prog 20 #[.pointer (some ⟨g, 0, none⟩), .int .i64 x] w fun e w' => e = .returned (.tuple #[.slice none 0 0, .int .i64 10]) ∧ w = w' := by
  have HT := Aside0.mk (token_calls x false hx h)
  clear hx h
  go_enter Try.func20, Try.ntmps20
  go_wp2_with (fail)
  refine HT.out.mono ?_
  rintro e w' ⟨rfl, rfl⟩
  go_wp2
  go_ret2
  exact ⟨rfl, rfl⟩
set_option maxHeartbeats 1000000 in
theorem text_some (x : Nat) (h : CodAt w B g vt vo b T of n ps os) (hx : x < T.length) (hl : (T.getD x []).length ≤ 1000000) :
    Calls Try.prog 20 #[.pointer (some ⟨g, 0, none⟩), .int .i64 (x : Int)] w fun e w' => ∃ v, e = .returned (.tuple #[v, .int .i64 0]) ∧ Kd.R (Kd.int .u8) 5 w' w.heap.size (fun _ => True) v (T.getD x []) ∧ Below w.heap.size w w' := by
  have HT := Aside0.mk (token_calls (x : Int) true (by simp [isTok, hx]) h)
  have h0 := cd0 h
  obtain ⟨A, c, rfl, hcap, hC⟩ := Kd.R_reads h.2.2.2.2.1
  obtain ⟨ad, A0, c0, rfl, hx1, hcx, hK⟩ := row_at hC x hx
  have HCl := Aside0.mk (Clone.clone_calls A0 (T.getD x []).length c0 (T.getD x []) w hK (by omega))
  clear hC hK h hl hcap
  generalize T.getD x [] = tx at *
  go_enter Try.func20, Try.ntmps20
  go_wp2_with (fail)
  refine HT.out.mono ?_
  rintro e w' ⟨rfl, rfl⟩
  go_wp2_with (fail)
  refine HCl.out.mono ?_
  rintro e w1 ⟨v, rfl, hR, hb⟩
  have HR := Aside0.mk hR
  have HB := Aside0.mk hb
  clear hR hb
  go_wp2
  go_ret2
  exact ⟨_, rfl, HR.out, HB.out⟩
/-! Decode -/
set_option maxHeartbeats 1000000 in
theorem decode_nil (A : Option Addr) (m c : Nat) (w : World) :
    Calls Try.prog 17 #[.pointer none, .slice A m c] w fun e w' => e = .returned (.tuple #[.slice none 0 0, .int .i64 2]) ∧ w = w' := by
  go_enter Try.func17, Try.ntmps17
  go_wp2
  go_ret2
  exact ⟨rfl, rfl⟩
def decL (T : List (List Int)) (l : List Int) : List Int := (l.map fun x => T.getD x.toNat []).flatten
def okL (m : Nat) (l : List Int) : Bool := l.all (isTok m)
def DecEnd (w : World) (T : List (List Int)) (l : List Int) (e : Ending) (w' : World) : Prop :=
  (okL T.length l = false → e = .returned (.tuple #[.slice none 0 0, .int .i64 10])) ∧ Below w.heap.size w w' ∧
  (okL T.length l = true → ∃ v, e = .returned (.tuple #[v, .int .i64 0]) ∧ Kd.R (Kd.int .u8) 5 w' w.heap.size (fun _ => True) v (decL T l))
theorem decL_step (T : List (List Int)) (l : List Int) (k : Nat) (h : k < l.length) : decL T (l.take (k + 1)) = decL T (l.take k) ++ T.getD (l.getD k 0).toNat [] := by
  rw [List.take_succ_eq_append_getElem h, List.getD_eq_getElem?_getD (l := l), List.getElem?_eq_getElem h]
  unfold decL
  rw [List.map_append, List.flatten_append]
  simp only [List.map_cons, List.map_nil, List.flatten_cons, List.flatten_nil, List.append_nil, Option.getD_some]
theorem decL_le (T : List (List Int)) (h16 : ∀ t ∈ T, t.length ≤ 16) : ∀ l : List Int, (decL T l).length ≤ 16 * l.length
  | [] => Nat.le_refl _
  | x :: l => by
    have ih := decL_le T h16 l
    have hx : (T.getD x.toNat []).length ≤ 16 := by
      rw [List.getD_eq_getElem?_getD]
      cases hh : T[x.toNat]? with
      | none => exact Nat.zero_le _
      | some t => exact h16 t (List.mem_of_getElem? hh)
    unfold decL at ih ⊢
    rw [List.map_cons, List.flatten_cons, List.length_append, List.length_cons]
    omega
theorem okL_of (m : Nat) (l : List Int) (k : Nat) (h : k < l.length) (hk : isTok m (l.getD k 0) = false) : okL m l = false := by
  rw [okL, List.all_eq_false]
  refine ⟨l.getD k 0, ?_, by rw [hk]; simp⟩
  rw [List.getD_eq_getElem?_getD, List.getElem?_eq_getElem h]
  exact List.getElem_mem h
set_option maxHeartbeats 4000000 in
set_option maxRecDepth 100000 in
theorem decode_calls (A : Option Addr) (c : Nat) (l : List Int) (hC : Kd.C (Kd.int .i64) w A l.length l) (h : CodAt w B g vt vo b T of n ps os) (h16 : ∀ t ∈ T, t.length ≤ 16) (hlen : l.length ≤ 1000000) (hT : T.length ≤ 1000) :
    Calls Try.prog 17 #[.pointer (some ⟨g, 0, none⟩), .slice A l.length c] w (DecEnd w T l) := by
  have HC := Aside0.mk hC
  have HH := Aside0.mk h
  have H16 := Aside0.mk h16
  have HT := Aside0.mk hT
  obtain ⟨At, ct, rfl, hcap, hCt⟩ := Kd.R_reads h.2.2.2.2.1
  have HCt := Aside0.mk hCt
  clear hC h h16 hT hCt hcap
  go_enter Try.func17, Try.ntmps17
  go_wp2
  go_loopw [6, 13] (fun o i wr => ∃ k : Nat, k ≤ l.length ∧ i = .int .i64 (k : Int) ∧ Aside0 (Kd.R (Kd.int .u8) 5 wr w.heap.size (fun _ => True) o (decL T (l.take k)) ∧ okL T.length (l.take k) = true ∧ Below w.heap.size w wr)) (fun _ i _ => l.length - (intOf i).toNat)
  case atStart => exact ⟨0, Nat.zero_le _, rfl, ⟨Kd.R_nil _ _ _ _ _, rfl, Below.refl _ _⟩⟩
  case round =>
    obtain ⟨k, hk, rfl, HO⟩ := hrel
    by_cases hlt : k < l.length
    · obtain ⟨ad, rfl, hcell⟩ := int_at' HC.out HO.out.2.2 k hlt
      have HX := Aside0.mk (decL_step T l k hlt)
      have HTk : Aside0 (l.take (k + 1) = l.take k ++ [l.getD k 0]) := ⟨by
        rw [List.take_succ_eq_append_getElem hlt, List.getD_eq_getElem?_getD, List.getElem?_eq_getElem hlt]; rfl⟩
      have HLe : Aside0 ((decL T (l.take (k + 1))).length ≤ 16000000) := ⟨by
        have h1 := decL_le T H16.out (l.take (k + 1))
        rw [List.length_take] at h1
        omega⟩
      have HNo : Aside0 (isTok T.length (l.getD k 0) = false → okL T.length l = false) := ⟨okL_of _ _ _ hlt⟩
      obtain ⟨x, hx⟩ : ∃ x, x = l.getD k 0 := ⟨_, rfl⟩
      rw [← hx] at hcell HX HTk HNo
      clear hx
      obtain ⟨A3, c3, rfl⟩ := Kd.R_slice HO.out.1
      have HHr := Aside0.mk (HH.out.below HO.out.2.2)
      cases hq : isTok T.length x with
      | false =>
        have HQ := Aside0.mk hq
        clear hq
        generalize decL T (l.take k) = es at *
        go_wp2_with (fail)
        refine (token_calls x false HQ.out HHr.out).mono ?_
        rintro e w' ⟨rfl, rfl⟩
        go_wp2
        go_ret2
        exact ⟨fun _ => rfl, HO.out.2.2, fun h => by rw [HNo.out HQ.out] at h; cases h⟩
      | true =>
        have HQ := Aside0.mk hq
        have HOk : Aside0 (okL T.length (l.take (k + 1)) = true) := ⟨by rw [HTk.out, okL, List.all_append, ← okL, HO.out.2.1]; simp [hq]⟩
        obtain ⟨m, rfl⟩ : ∃ m : Nat, x = m := ⟨x.toNat, by simp [isTok] at hq; omega⟩
        have hml : m < T.length := by simp [isTok] at hq; omega
        have hmT : (m : Int) < (T.length : Int) := by omega
        clear hq
        have h0 := cd0 HHr.out
        obtain ⟨adt, A0, c0, rfl, hx1, hcx, hK⟩ := row_at' HCt.out HO.out.2.2 m hml
        have HK := Aside0.mk (reads_int (Kd.C_below hK HO.out.2.2))
        rw [Int.toNat_natCast] at HX
        generalize T.getD m [] = tx at *
        clear hK hcx
        generalize decL T (l.take k) = es at *
        go_wp2_with (fail)
        refine (token_calls (m : Int) true HQ.out HHr.out).mono ?_
        rintro e w' ⟨rfl, rfl⟩
        go_wp2_with (at_builtin; refine print_append_row (w0 := w) w.heap.size rfl (.tmp 21) (.tmp 28) 22 5 .u8 1 rfl Try.underlying22 info_u8 (by decide) _ es tx A0 tx.length c0 rfl rfl (own_int HO.out.1) HK.out HO.out.2.2 HO.out.2.2.size (by have h := HLe.out; rw [HX.out, List.length_append] at h; omega) ?_; intro v1 w2 hown hbw hgr hat; have HA := Aside0.mk (And.intro hown hbw); clear hown hbw hgr hat)
        go_roundw
        case rel => exact ⟨k + 1, by omega, by go_num, ⟨by rw [HX.out]; exact R_int HA.out.1, HOk.out, HA.out.2⟩⟩
        case measure => simp [intOf]; omega
    · obtain rfl : k = l.length := by omega
      have HTa : Aside0 (l.take l.length = l) := ⟨List.take_of_length_le (Nat.le_refl _)⟩
      rw [HTa.out] at HO
      go_wp2
      go_ret2
      exact ⟨fun h => absurd (HO.out.2.1.symm.trans h) (by decide), HO.out.2.2, fun _ => ⟨_, rfl, HO.out.1⟩⟩
end
end Go.Proofs.Ytbgiccbegcepcaa.Bpe
