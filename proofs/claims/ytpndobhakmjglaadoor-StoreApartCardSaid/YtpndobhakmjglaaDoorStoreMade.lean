/- store: the law's few and made. -/
import Derived.Test.YtpndobhakmjglaaDoorStoreAwake
namespace Go.Proofs.YtpndobhakmjglaaDoor.Store
open Go.RowKit Go.Proofs.YtpndobhakmjglaaDoorW.PrintWords Go.Proofs.YtpndobhakmjglaaDoorW.PrintLast Go.Proofs.YtpndobhakmjglaaDoorW.PrintMore Go.Proofs.YtpndobhakmjglaaDoor.K Go.Proofs.YtpndobhakmjglaaDoor.Sha
set_option linter.unusedVariables false
set_option linter.unusedSimpArgs false
def Few (xs : List (List Int)) : Prop := (∀ r ∈ xs, r.length ≤ 200) ∧ xs.length ≤ 12
theorem few_step {xs : List (List Int)} {k : Nat} (h : ∀ r ∈ xs.take k, r.length ≤ 200) (hk : k < xs.length) (hx : (xs.getD k []).length ≤ 200) : ∀ r ∈ xs.take (k + 1), r.length ≤ 200 := by
  intro r hr
  rw [List.take_succ_eq_append_getElem hk, List.mem_append] at hr
  rcases hr with hr | hr
  · exact h r hr
  · rw [List.mem_singleton] at hr
    rw [List.getD_eq_getElem?_getD, List.getElem?_eq_getElem hk] at hx
    rw [hr]; exact hx
set_option maxHeartbeats 4000000 in
set_option maxRecDepth 100000 in
theorem few_calls (A : Option Addr) (c : Nat) (xs : List (List Int)) (w : World) (hx : Kd.C (Kd.slice 5 (Kd.int .u8)) w A xs.length xs) :
    Calls Tryd.prog 14 #[.slice A xs.length c] w fun e w' => ∃ b : Bool, e = .returned (.bool b) ∧ (b = true → Few xs) ∧ Drawn0 w w' := by
  have HX := Aside0.mk hx
  have hm := hx.2.1
  clear hx
  go_enter Tryd.func14, Tryd.ntmps14
  go_wp2
  go_loopw [3] (fun v3 w' => ∃ k : Nat, k ≤ xs.length ∧ v3 = .int .i64 k ∧ Aside0 (∀ r ∈ xs.take k, r.length ≤ 200) ∧ ∃ n, w' = w.drewN n) (fun v3 _ => xs.length - (intOf v3).toNat)
  case atStart => exact ⟨0, Nat.zero_le _, rfl, ⟨fun r hr => by simp at hr⟩, 0, rfl⟩
  case round =>
    obtain ⟨k, hk, rfl, HF, nd, rfl⟩ := hrel
    by_cases hlt : k < xs.length
    · obtain ⟨ad, A1, c1, rfl, hx, hl1, hr1⟩ := row_at HX.out k hlt
      clear hl1
      have hm1 := hr1.2.1
      have hwk : IntKind.i64.wrap ((k : Int) + 1) = (k : Int) + 1 := by rw [IntKind.wrap_i64]; omega
      clear hr1
      have HSt := Aside0.mk (fun h => few_step HF.out hlt h)
      generalize xs.getD k [] = x at *
      by_cases h7 : 200 < x.length
      · have h7I : decide (200 < (x.length : Int)) = true := by simp; omega
        have h7N : decide (200 < x.length) = true := by simp; omega
        clear h7
        go_wp2
        go_ret
        exact ⟨_, rfl, (fun h => by cases h), by first | exact ⟨_, rfl⟩ | exact ⟨_, World.drewN_drewN _ _ _⟩⟩
      · have h7I : decide (200 < (x.length : Int)) = false := by simp; omega
        have h7N : decide (200 < x.length) = false := by simp; omega
        have HF2 := Aside0.mk (HSt.out (by omega))
        clear h7
        go_wp2
        go_roundw
        case rel => exact ⟨k + 1, by omega, by go_num, HF2, _, rfl⟩
        case measure => simp [intOf]; omega
    · obtain rfl : k = xs.length := by omega
      have hAll : ∀ r ∈ xs, r.length ≤ 200 := by have := HF.out; rwa [List.take_length] at this
      have HAll := Aside0.mk hAll
      clear hAll hlt hk
      by_cases h12 : xs.length ≤ 12
      · have d1 : decide ((xs.length : Int) ≤ 12) = true := by simp; omega
        have d2 : decide (xs.length ≤ 12) = true := by simp; omega
        go_wp2
        go_ret
        exact ⟨_, rfl, (fun _ => ⟨HAll.out, h12⟩), ⟨_, rfl⟩⟩
      · have d1 : decide ((xs.length : Int) ≤ 12) = false := by simp; omega
        have d2 : decide (xs.length ≤ 12) = false := by simp; omega
        clear h12
        go_wp2
        go_ret
        exact ⟨_, rfl, (fun h => by cases h), ⟨_, rfl⟩⟩
/-- Append of what lay there before the store. -/
theorem append_old {w0 w : World} {B g : Nat} {vl vm vb : Value} {rs : List (List Int)} {mk bs : List Int} (A : Option Addr) (n c : Nat) (r : List Int) (h : StAt w B g vl vm vb rs mk bs) (hC : Kd.C (Kd.int .u8) w0 A n r) (hb : Below w0.heap.size w0 w) (hB0 : w0.heap.size ≤ B) (hB : B ≤ w.heap.size) (hc : n ≤ c) (hby : ∀ x ∈ r, 0 ≤ x ∧ x < 256) (hmb : ∀ x ∈ mk, 0 ≤ x ∧ x < 256) (hml : mk.length ≤ 16) (hn : n ≤ 1048576) (hrs : rs.length ≤ 1000000) (hbs : bs.length ≤ 100000000)
    (hLf : LaidAt w 0 firstA) (hL : LaidAt w 1 constA) :
    Calls Tryd.prog 21 #[.pointer (some ⟨g, 0, none⟩), .slice A n c] w fun e w' => e = .returned (.int .i64 0) ∧ (∃ v1 m1 b1, StAt w' B g v1 m1 b1 (rs ++ [r]) (sealV mk r) (bs ++ joinL [r, sealV mk r])) ∧ Below B w w' ∧ Kept w w' (Touch g vl vb) :=
  append_calls A n c r h hB (Kd.C_kept_came (Kd.heap_int .u8) hC hb (fun k hk => Nat.le_trans hB0 (Touch.old h k hk).1)) hc hby hmb hml hn hrs hbs hLf hL
/-- The state of a store of records. -/
def Made (W : World) (B g : Nat) (l : List (List Int)) : Prop := ∃ vl vm vb, StAt W B g vl vm vb l (markV [] l) (storeB [] l)
theorem Made.below {W W1 : World} {B g : Nat} {l : List (List Int)} (h : Made W B g l) (hb : Below W.heap.size W W1) : Made W1 B g l := by
  obtain ⟨vl, vm, vb, h⟩ := h
  exact ⟨vl, vm, vb, h.below hb⟩
theorem markV_byte : ∀ (l : List (List Int)) (a : List Int), (∀ x ∈ a, 0 ≤ x ∧ x < 256) → ∀ x ∈ markV a l, 0 ≤ x ∧ x < 256
  | [], a, h => h
  | r :: l, a, h => markV_byte l (sealV a r) (sealV_byte a r)
theorem markV_le : ∀ (l : List (List Int)) (a : List Int), a.length ≤ 16 → (markV a l).length ≤ 16
  | [], a, h => h
  | r :: l, a, h => markV_le l (sealV a r) (by rw [sealV_len]; exact Nat.le_refl _)
theorem storeB_le (m : Nat) : ∀ (l : List (List Int)) (a : List Int), (∀ r ∈ l, r.length ≤ m) → (storeB a l).length ≤ (m + 24) * l.length
  | [], a, _ => Nat.zero_le _
  | r :: l, a, h => by
    have h1 := storeB_le m l (sealV a r) (fun x hx => h x (List.mem_cons_of_mem _ hx))
    have h2 := h r (List.mem_cons_self ..)
    rw [storeB, List.length_append, joinTwo_eq_len _ _ (sealV_len _ _), List.length_cons, Nat.mul_succ]
    omega
theorem few_bytes {l : List (List Int)} (h : Few l) : (storeB [] l).length ≤ 2688 := by
  have h1 := storeB_le 200 l [] h.1
  have h2 := h.2
  have h3 : 224 * l.length ≤ 224 * 12 := Nat.mul_le_mul_left _ h2
  omega
theorem few_take {l : List (List Int)} (k : Nat) (h : Few l) : Few (l.take k) := ⟨fun r hr => h.1 r (List.mem_of_mem_take hr), by rw [List.length_take]; have := h.2; omega⟩
theorem few_short {l : List (List Int)} (h : Few l) : ∀ r ∈ l, r.length ≤ 1048576 := fun r hr => by have := h.1 r hr; omega
theorem take_snoc {l : List (List Int)} (k : Nat) (h : k < l.length) : l.take (k + 1) = l.take k ++ [l.getD k []] := by
  rw [List.take_succ_eq_append_getElem h, List.getD_eq_getElem?_getD, List.getElem?_eq_getElem h]; rfl
/-- One more record of a store. -/
theorem made_step {W : World} {B g : Nat} {v1 m1 b1 : Value} {l : List (List Int)} {k : Nat} (hk : k < l.length) (h : StAt W B g v1 m1 b1 (l.take k ++ [l.getD k []]) (sealV (markV [] (l.take k)) (l.getD k [])) (storeB [] (l.take k) ++ joinL [l.getD k [], sealV (markV [] (l.take k)) (l.getD k [])])) : Made W B g (l.take (k + 1)) := by
  rw [← storeB_snoc, ← markV_snoc, ← take_snoc k hk] at h
  exact ⟨v1, m1, b1, h⟩
set_option maxHeartbeats 4000000 in
set_option maxRecDepth 100000 in
theorem made_calls (A : Option Addr) (n c : Nat) (l : List (List Int)) (w0 w : World) (hx : Kd.C (Kd.slice 5 (Kd.int .u8)) w0 A n l) (hb : Below w0.heap.size w0 w) (hby : ∀ r ∈ l, ∀ x ∈ r, 0 ≤ x ∧ x < 256) (hf : Few l)
    (hLf : LaidAt w0 0 firstA) (hL : LaidAt w0 1 constA) :
    Calls Tryd.prog 15 #[.slice A n c] w fun e w' => ∃ g, e = .returned (.pointer (some ⟨g, 0, none⟩)) ∧ Made w' w.heap.size g l ∧ Below w.heap.size w w' := by
  obtain rfl := hx.1
  have HX := Aside0.mk hx
  have HB0 := Aside0.mk hb
  have HBy := Aside0.mk hby
  have HF := Aside0.mk hf
  have HLf := Aside0.mk hLf
  have HL := Aside0.mk hL
  clear hx hb hby hLf hL
  have hl12 := hf.2
  clear hf
  go_enter Tryd.func15, Tryd.ntmps15
  go_wp2_with (fail)
  refine (new_calls w).mono ?_
  rintro e w1 ⟨g, rfl, hS, hb⟩
  have HS := Aside0.mk hS
  have HB1 := Aside0.mk hb
  clear hS hb
  go_wp2_with (fail)
  go_loopw [4] (fun v3 w' => ∃ k : Nat, k ≤ l.length ∧ v3 = .int .i64 k ∧ Aside0 (Made w' w.heap.size g (l.take k) ∧ Below w.heap.size w w')) (fun v3 _ => l.length - (intOf v3).toNat)
  case atStart => exact ⟨0, Nat.zero_le _, rfl, ⟨⟨_, _, _, HS.out⟩, HB1.out⟩⟩
  case round =>
    obtain ⟨k, hk, rfl, HM⟩ := hrel
    clear HS HB1
    by_cases hlt : k < l.length
    · obtain ⟨vl, vm, vb, hS⟩ := HM.out.1
      have HS := Aside0.mk hS
      have HBr := Aside0.mk HM.out.2
      have HB2 : Aside0 (Below w0.heap.size w0 wr) := ⟨below_step HB0.out HBr.out⟩
      obtain ⟨ad, A1, c1, rfl, hx, hl1, hr1⟩ := row_at' HX.out HB2.out k hlt
      have HR1 := Aside0.mk hr1
      have hwk : IntKind.i64.wrap ((k : Int) + 1) = (k : Int) + 1 := by rw [IntKind.wrap_i64]; omega
      have HG : Aside0 (l.getD k [] ∈ l) := ⟨by rw [List.getD_eq_getElem?_getD, List.getElem?_eq_getElem hlt]; exact List.getElem_mem hlt⟩
      have HAp := Aside0.mk (append_old A1 (l.getD k []).length c1 (l.getD k []) HS.out HR1.out HB2.out HB0.out.size HBr.out.size hl1 (HBy.out _ HG.out) (markV_byte _ _ (fun x hx => by cases hx)) (markV_le _ _ (by decide)) (by have := HF.out.1 _ HG.out; omega) (by rw [List.length_take]; omega) (by have := few_bytes (few_take k HF.out); omega) (HLf.out.below HB2.out) (HL.out.below HB2.out))
      have HSt : Aside0 (∀ W v1 m1 b1, StAt W w.heap.size g v1 m1 b1 (l.take k ++ [l.getD k []]) (sealV (markV [] (l.take k)) (l.getD k [])) (storeB [] (l.take k) ++ joinL [l.getD k [], sealV (markV [] (l.take k)) (l.getD k [])]) → Made W w.heap.size g (l.take (k + 1))) := ⟨fun W v1 m1 b1 h => made_step hlt h⟩
      clear hS hl1 hr1 HM
      generalize l.getD k [] = x at *
      go_wp2_with (fail)
      refine HAp.out.mono ?_
      rintro e w2 ⟨rfl, ⟨v1, m1, b1, hS⟩, hb, _⟩
      have HM2 := Aside0.mk (HSt.out _ _ _ _ hS)
      have HB3 : Aside0 (Below w.heap.size w w2) := ⟨HBr.out.trans hb⟩
      clear hS hb
      go_wp2_with (fail)
      go_roundw
      case rel => exact ⟨k + 1, by omega, by go_num, ⟨HM2.out, HB3.out⟩⟩
      case measure => simp [intOf]; omega
    · obtain rfl : k = l.length := by omega
      have HM1 := Aside0.mk HM.out.1
      rw [List.take_length] at HM1
      have HB3 := Aside0.mk HM.out.2
      go_wp2
      go_ret
      exact ⟨_, rfl, HM1.out, HB3.out⟩
end Go.Proofs.YtpndobhakmjglaaDoor.Store
