/- The reference's Sum: the digest of bytes. -/
import Derived.Test.YtpndobhakmjglaaDoorRefBlockB
import Derived.Test.YtpndobhakmjglaaDoorRefFilledB
import Derived.Test.YtpndobhakmjglaaDoorBunS4
namespace Go.Proofs.YtpndobhakmjglaaDoor.Sha
open Go.RowKit Go.Proofs.YtpndobhakmjglaaDoorW.PrintWords Go.Proofs.YtpndobhakmjglaaDoorW.PrintLast Go.Proofs.YtpndobhakmjglaaDoorW.PrintMore Go.Proofs.YtpndobhakmjglaaDoor.K Go.Proofs.YtpndobhakmjglaaDoor.PRefCut
set_option linter.unusedVariables false
set_option linter.unusedSimpArgs false
theorem block_lit (sa sb sc sd se sf sg sh : W32) (A : Option Addr) (c : Nat) (b : List Int) (w : World) (hb : Kd.C (Kd.int .u8) w A b.length b) (hbl : b.length = 64) (hc : 64 ≤ c) (hby : ∀ x ∈ b, 0 ≤ x ∧ x < 256) :
    Calls Tryd.prog 41 #[.agg #[.int .i64 (wi sa), .int .i64 (wi sb), .int .i64 (wi sc), .int .i64 (wi sd), .int .i64 (wi se), .int .i64 (wi sf), .int .i64 (wi sg), .int .i64 (wi sh)], .slice A 64 c] w fun e w' => ∃ t : St, t = turnV ⟨sa, sb, sc, sd, se, sf, sg, sh⟩ b ∧ e = .returned (.agg #[.int .i64 (wi t.a), .int .i64 (wi t.b), .int .i64 (wi t.c), .int .i64 (wi t.d), .int .i64 (wi t.e), .int .i64 (wi t.f), .int .i64 (wi t.g), .int .i64 (wi t.h)]) ∧ Below w.heap.size w w' :=
  (block_calls ⟨sa, sb, sc, sd, se, sf, sg, sh⟩ A c b w hb hbl hc hby).mono fun e w' ⟨he, h⟩ => ⟨_, rfl, he, h⟩
theorem i8_lit : (#[.int .i64 1779033703, .int .i64 3144134277, .int .i64 1013904242, .int .i64 2773480762, .int .i64 1359893119, .int .i64 2600822924, .int .i64 528734635, .int .i64 1541459225] : Array Value) = nArr init.l := by kernel_rfl
def SumW (w : World) (A4 : Option Addr) (L : List Int) (s : St) (wr : World) : Prop :=
  wr.heap[w.heap.size]? = some (.cells (dA (List.replicate 32 0)) 63 (0, 0)) ∧ wr.heap[w.heap.size + 1]? = some (.cells (nArr s.l) 70 (0, 0)) ∧ Kd.C (Kd.int .u8) wr A4 L.length L ∧ Below w.heap.size w wr
theorem SumW.below {w w1 w2 : World} {A4 : Option Addr} {L : List Int} {s : St} (h : SumW w A4 L s w1) (hb : Below w1.heap.size w1 w2) : SumW w A4 L s w2 :=
  ⟨(hb.block _ (blk_lt h.1)).trans h.1, (hb.block _ (blk_lt h.2.1)).trans h.2.1, Kd.C_below h.2.2.1 hb, below_step h.2.2.2 hb⟩
def SumL (w : World) (A4 : Option Addr) (L : List Int) (m : List W32) (wr : World) : Prop :=
  wr.heap[w.heap.size]? = some (.cells (dA (List.replicate 32 0)) 63 (0, 0)) ∧ wr.heap[w.heap.size + 1]? = some (.cells (nArr m) 70 (0, 0)) ∧ Kd.C (Kd.int .u8) wr A4 L.length L ∧ Below w.heap.size w wr
theorem nArr_no (m : List W32) (j : Nat) (x : Int) : (nArr m)[j]? ≠ some (Value.int .u8 x) := by
  intro h
  simp only [nArr, nums, List.getElem?_toArray, List.getElem?_map] at h
  cases hm : m[j]? with
  | none => rw [hm] at h; cases h
  | some y => rw [hm] at h; cases h
theorem SumL.set {w w1 : World} {A4 : Option Addr} {L : List Int} {m : List W32} (h : SumL w A4 L m w1) (i : Nat) (x : W32) : SumL w A4 L (m.set i x) (w1.setCell ⟨w.heap.size + 1, i, none⟩ (.int .i64 (wi x))) :=
  ⟨blk_far h.1 (by show w.heap.size ≠ w.heap.size + 1; omega) _, blkN_set h.2.1 i x, C_far h.2.1 (nArr_no m) h.2.2.1 i _, h.2.2.2.setCell (by show w.heap.size ≤ w.heap.size + 1; omega) _⟩
theorem SumW.set8 {w w1 : World} {A4 : Option Addr} {L : List Int} {s : St} (h : SumW w A4 L s w1) (t : St) :
    SumW w A4 L t ((((((((w1.setCell ⟨w.heap.size + 1, 0, none⟩ (.int .i64 (wi t.a))).setCell ⟨w.heap.size + 1, 1, none⟩ (.int .i64 (wi t.b))).setCell ⟨w.heap.size + 1, 2, none⟩ (.int .i64 (wi t.c))).setCell ⟨w.heap.size + 1, 3, none⟩ (.int .i64 (wi t.d))).setCell ⟨w.heap.size + 1, 4, none⟩ (.int .i64 (wi t.e))).setCell ⟨w.heap.size + 1, 5, none⟩ (.int .i64 (wi t.f))).setCell ⟨w.heap.size + 1, 6, none⟩ (.int .i64 (wi t.g))).setCell ⟨w.heap.size + 1, 7, none⟩ (.int .i64 (wi t.h))) := by
  have h0 : SumL w A4 L s.l w1 := h
  have h8 := (((((((h0.set 0 t.a).set 1 t.b).set 2 t.c).set 3 t.d).set 4 t.e).set 5 t.f).set 6 t.g).set 7 t.h
  rw [set8_list s.l rfl t] at h8
  exact h8
def outL (D : List Int) (i : Nat) : List Int := D.take i ++ List.replicate (32 - i) 0
theorem outL_length (D : List Int) (hD : D.length = 32) (i : Nat) (hi : i ≤ 32) : (outL D i).length = 32 := by
  rw [outL, List.length_append, List.length_take, List.length_replicate]
  omega
theorem outL_set (D : List Int) (hD : D.length = 32) (i : Nat) (hi : i < 32) : (outL D i).set i (D.getD i 0) = outL D (i + 1) := by
  have ht : (D.take i).length = i := by rw [List.length_take]; omega
  rw [outL, List.set_append_right _ _ (by omega), ht, Nat.sub_self, show 32 - i = (32 - (i + 1)) + 1 by omega, List.replicate_succ, List.set_cons_zero, outL, List.take_succ_eq_append_getElem (by omega), List.getD_eq_getElem?_getD, List.getElem?_eq_getElem (by omega), List.append_assoc]
  rfl
theorem outL_end (D : List Int) (hD : D.length = 32) : outL D 32 = D := by
  rw [outL, List.take_of_length_le (by omega), Nat.sub_self]
  exact List.append_nil _
theorem dA_set' (l : List Int) (i : Nat) (x : Int) : (dA l).setIfInBounds i (.int .u8 x) = dA (l.set i x) := by
  apply Array.ext'
  simp [dA, nums, List.map_set]
theorem dA_at (d : List Int) (i : Nat) (h : i < d.length) : (dA d)[i]? = some (.int .u8 (d.getD i 0)) := by
  simp [dA, nums, List.getElem?_eq_getElem h, List.getD_eq_getElem?_getD]
/-- While the digest is laid. -/
def ROutW (w : World) (s : St) (g : Nat) (m : List Int) (wr : World) : Prop :=
  wr.heap[w.heap.size]? = some (.cells (dA (List.replicate 32 0)) 63 (0, 0)) ∧ wr.heap[w.heap.size + 1]? = some (.cells (nArr s.l) 70 (0, 0)) ∧ wr.heap[g]? = some (.cells (dA m) 63 (0, 0)) ∧ Below w.heap.size w wr ∧ w.heap.size + 1 < g
theorem ROutW.below {w w1 w2 : World} {s : St} {g : Nat} {m : List Int} (h : ROutW w s g m w1) (hb : Below w1.heap.size w1 w2) : ROutW w s g m w2 :=
  ⟨(hb.block _ (blk_lt h.1)).trans h.1, (hb.block _ (blk_lt h.2.1)).trans h.2.1, (hb.block _ (blk_lt h.2.2.1)).trans h.2.2.1, below_step h.2.2.2.1 hb, h.2.2.2.2⟩
theorem ROutW.set {w w1 : World} {s : St} {g : Nat} {m : List Int} (h : ROutW w s g m w1) (i : Nat) (x : Int) : ROutW w s g (m.set i x) (w1.setCell ⟨g, i, none⟩ (.int .u8 x)) :=
  ⟨blk_far h.1 (by show w.heap.size ≠ g; have := h.2.2.2.2; omega) _, blk_far h.2.1 (by show w.heap.size + 1 ≠ g; have := h.2.2.2.2; omega) _, by rw [← dA_set']; exact blk_set h.2.2.1 i _, h.2.2.2.1.setCell (by show w.heap.size ≤ g; have := h.2.2.2.2; omega) _, h.2.2.2.2⟩
def pw : Nat → Int
  | 0 => 16777216
  | 1 => 65536
  | 2 => 256
  | _ => 1
theorem digL_at (s : St) : ∀ i, i < 32 → (digL s).getD i 0 = wi (s.l.getD (i / 4) 0) / pw (i % 4) % 256
  | 0, _ => rfl
  | 1, _ => rfl
  | 2, _ => rfl
  | 3, _ => (congrArg (· % 256) (Int.ediv_one _).symm)
  | 4, _ => rfl
  | 5, _ => rfl
  | 6, _ => rfl
  | 7, _ => (congrArg (· % 256) (Int.ediv_one _).symm)
  | 8, _ => rfl
  | 9, _ => rfl
  | 10, _ => rfl
  | 11, _ => (congrArg (· % 256) (Int.ediv_one _).symm)
  | 12, _ => rfl
  | 13, _ => rfl
  | 14, _ => rfl
  | 15, _ => (congrArg (· % 256) (Int.ediv_one _).symm)
  | 16, _ => rfl
  | 17, _ => rfl
  | 18, _ => rfl
  | 19, _ => (congrArg (· % 256) (Int.ediv_one _).symm)
  | 20, _ => rfl
  | 21, _ => rfl
  | 22, _ => rfl
  | 23, _ => (congrArg (· % 256) (Int.ediv_one _).symm)
  | 24, _ => rfl
  | 25, _ => rfl
  | 26, _ => rfl
  | 27, _ => (congrArg (· % 256) (Int.ediv_one _).symm)
  | 28, _ => rfl
  | 29, _ => rfl
  | 30, _ => rfl
  | 31, _ => (congrArg (· % 256) (Int.ediv_one _).symm)
  | n + 32, h => absurd h (by omega)
theorem byteN (s : St) (i : Nat) (hi : i < 32) : ∃ (k m4 : Nat) (e8 ee p x y z : Int), k < 8 ∧ (i : Int) / 4 = (k : Int) ∧ Int.tdiv (i : Int) 4 = (k : Int) ∧ (i : Int) % 4 = (m4 : Int) ∧ Int.tmod (i : Int) 4 = (m4 : Int) ∧ IntKind.i64.wrap (8 * (m4 : Int)) = e8 ∧ IntKind.i64.wrap (24 - e8) = ee ∧ cupelref01_Power.f 90 ee = some p ∧ 0 < p ∧ wi (s.l.getD k 0) = x ∧
    x / p = y ∧ Int.tdiv x p = y ∧ IntKind.i64.wrap y = y ∧ 0 ≤ y ∧ y % 256 = z ∧ Int.tmod y 256 = z ∧ IntKind.u8.wrap z = z ∧ (digL s).getD i 0 = z := by
  have hx := wi_range (s.l.getD (i / 4) 0)
  have hpw : 0 < pw (i % 4) := by unfold pw; split <;> decide
  have hq : 0 ≤ wi (s.l.getD (i / 4) 0) / pw (i % 4) := Int.ediv_nonneg hx.1 (by omega)
  have hq2 : wi (s.l.getD (i / 4) 0) / pw (i % 4) ≤ wi (s.l.getD (i / 4) 0) := Int.ediv_le_self _ hx.1
  have hpow : cupelref01_Power.f 90 (24 - 8 * ((i % 4 : Nat) : Int)) = some (pw (i % 4)) := by
    rcases (show i % 4 = 0 ∨ i % 4 = 1 ∨ i % 4 = 2 ∨ i % 4 = 3 by omega) with h | h | h | h <;> rw [h]
    · exact pow24 30
    · exact pow16 30
    · exact pow8 30
    · exact pow0 30
  refine ⟨i / 4, i % 4, _, _, _, _, _, _, by omega, by omega, by rw [Int.tdiv_eq_ediv_of_nonneg (by omega)]; omega, by omega, by rw [Int.tmod_eq_emod_of_nonneg (by omega)]; omega, i64_small _ (by omega) (by omega), i64_small _ (by omega) (by omega), hpow, hpw, rfl, rfl, Int.tdiv_eq_ediv_of_nonneg hx.1, i64_small _ hq (by omega), hq, rfl, Int.tmod_eq_emod_of_nonneg hq, by rw [IntKind.wrap_u8]; omega, digL_at s i hi⟩
theorem power_q (k : Nat) (e p : Int) (w : World) (n : Nat) (h : cupelref01_Power.f k e = some p) :
    Calls Tryd.prog 42 #[.int .i64 e] (w.drewN n) fun e w' => e = .returned (.int .i64 p) ∧ ∃ m, w' = w.drewN m := by
  refine (cupelref01_Power.calls k e p _ h).mono ?_
  rintro e w' ⟨he, m, hm⟩
  exact ⟨he, n + m, by rw [hm, World.drewN_drewN]⟩
set_option maxHeartbeats 8000000 in
set_option maxRecDepth 100000 in
theorem rsum_calls (A : Option Addr) (c : Nat) (l : List Int) (w : World) (hl : Kd.C (Kd.int .u8) w A l.length l) (hc : l.length ≤ c) (hby : ∀ x ∈ l, 0 ≤ x ∧ x < 256) (hm : l.length ≤ 900) :
    Calls Tryd.prog 36 #[.slice A l.length c] w fun e w' => e = .returned (.agg (dA (shaV l))) ∧ Below w.heap.size w w' := by
  have HC := Aside0.mk hl
  have HBy := Aside0.mk hby
  have HM := Aside0.mk hm
  have HCc := Aside0.mk hc
  have HD1 := Aside0.mk (dig_info (shaV_length l))
  have HD2 : Aside0 ((dA (List.replicate 32 0)).size = (dA (shaV l)).size) := ⟨by rw [dA_size, dA_size, shaV_length]; rfl⟩
  clear hl hby hm hc
  go_enter Tryd.func36, Tryd.ntmps36
  go_wp2_with (fail)
  rw [z32_lit, i8_lit]
  have HB1 : Aside0 (Below w.heap.size w ((w.alloc (.cells (dA (List.replicate 32 0)) 63)).alloc (.cells (nArr init.l) 70))) := ⟨bel_alloc (bel_alloc (Below.refl _ _) _) _⟩
  have HR1 : Aside0 (((w.alloc (.cells (dA (List.replicate 32 0)) 63)).alloc (.cells (nArr init.l) 70)).heap[w.heap.size]? = some (.cells (dA (List.replicate 32 0)) 63 (0, 0))) := ⟨((bel_alloc (Below.refl _ _) _).block _ (blk_lt (heap_alloc_new w _))).trans (heap_alloc_new w _)⟩
  have HS1 : Aside0 (((w.alloc (.cells (dA (List.replicate 32 0)) 63)).alloc (.cells (nArr init.l) 70)).heap[w.heap.size + 1]? = some (.cells (nArr init.l) 70 (0, 0))) := ⟨by have := heap_alloc_new (w.alloc (.cells (dA (List.replicate 32 0)) 63)) (.cells (nArr init.l) 70); rw [World.size_alloc] at this; exact this⟩
  generalize (w.alloc (.cells (dA (List.replicate 32 0)) 63)).alloc (.cells (nArr init.l) 70) = w1 at *
  refine (cupelref01_filled.calls 200 A c l (filledV l) w1 (Kd.C_below HC.out HB1.out) HCc.out (filled_f l (by have := HM.out; omega))).mono ?_
  rintro e w4 ⟨v4, rfl, hv, hb⟩
  obtain ⟨A4, c4, rfl⟩ := Kd.R_slice hv
  have HT4 : Aside0 (SumW w A4 (filledV l) init w4) := ⟨(hb.block _ (blk_lt HR1.out)).trans HR1.out, (hb.block _ (blk_lt HS1.out)).trans HS1.out, (Kd.R_reads' hv).2.2, below_step HB1.out hb⟩
  have HC4 := Aside0.mk (Kd.R_reads' hv).2.1
  clear hv hb HR1 HS1 HB1
  have HFl := Aside0.mk (filledV_length l)
  have HFb := Aside0.mk (filledV_byte l HBy.out)
  obtain ⟨L, hL⟩ : ∃ L, L = filledV l := ⟨_, rfl⟩
  rw [← hL] at HT4 HC4 HFl HFb ⊢
  have HSh : Aside0 (digL (absorb init L).1 = shaV l) := ⟨by rw [hL]; exact filledV_sha l⟩
  clear hL
  have hL64 := HFl.out.1
  have hLb : L.length ≤ 1000 := by have := HFl.out.2; have := HM.out; omega
  go_wp2_with (fail)
  go_loopw [5] (fun v5 wr => ∃ (p : Nat) (s : St), p % 64 = 0 ∧ p ≤ L.length ∧ v5 = .int .i64 (p : Int) ∧ Aside0 (absorb s (L.drop p) = absorb init L) ∧ Aside0 (SumW w A4 L s wr)) (fun v5 _ => L.length - (intOf v5).toNat)
  case atStart => exact ⟨0, init, rfl, Nat.zero_le _, rfl, ⟨rfl⟩, HT4⟩
  case round =>
    clear HT4
    obtain ⟨p, ⟨sa, sb, sc, sd, se, sf, sg, sh⟩, hp64, hj, rfl, HAb, HT⟩ := hrel
    by_cases hlt : p < L.length
    · have hp8 : p + 64 ≤ L.length := by omega
      obtain ⟨q, hq⟩ : ∃ q, q = p + 64 := ⟨_, rfl⟩
      have HQ := Aside0.mk (show q % 64 = 0 ∧ q ≤ L.length ∧ p < q by omega)
      have M2 : IntKind.i64.wrap ((p : Int) + 64) = (q : Int) := by rw [IntWalk.i64_in _ (by omega)]; omega
      obtain ⟨A6, hsl, hC6, hle6⟩ := mid_int (k := .u8) (P := Tryd.prog) 22 5 Tryd.underlying22 info_u8 A4 c4 L (p : Int) (q : Int) p 64 rfl (by omega) (by omega) HC4.out
      have h86 : ((L.drop p).take 64).length = 64 := by rw [List.length_take, List.length_drop]; omega
      have HNx : Aside0 (absorb (turnV ⟨sa, sb, sc, sd, se, sf, sg, sh⟩ ((L.drop p).take 64)) (L.drop q) = absorb init L) := ⟨by
        rw [← HAb.out, absorb_ge (l := L.drop p) (by rw [List.length_drop]; omega), List.drop_drop, hq]⟩
      have HC6 : Aside0 (∀ W : World, Kd.C (Kd.int .u8) wr.drew A6 ((L.drop p).take 64).length ((L.drop p).take 64)) := ⟨fun _ => hC6 _ (Kd.C_drewN HT.out.2.2.1 1)⟩
      have HB6 : Aside0 (∀ x ∈ (L.drop p).take 64, 0 ≤ x ∧ x < 256) := ⟨fun x hx => HFb.out x (List.mem_of_mem_drop (List.mem_of_mem_take hx))⟩
      have H6l := Aside0.mk h86
      rw [h86] at hsl hle6
      have HL6 := Aside0.mk hle6
      clear hle6 hC6 h86 hq hj
      generalize (L.drop p).take 64 = b6 at *
      generalize c4 - p = c6 at *
      have h0 : wr.cell? ⟨w.heap.size + 1, 0, none⟩ = some (.int .i64 (wi sa)) := blk_cell HT.out.2.1 0
      have h1 : wr.cell? ⟨w.heap.size + 1, 1, none⟩ = some (.int .i64 (wi sb)) := blk_cell HT.out.2.1 1
      have h2 : wr.cell? ⟨w.heap.size + 1, 2, none⟩ = some (.int .i64 (wi sc)) := blk_cell HT.out.2.1 2
      have h3 : wr.cell? ⟨w.heap.size + 1, 3, none⟩ = some (.int .i64 (wi sd)) := blk_cell HT.out.2.1 3
      have h4 : wr.cell? ⟨w.heap.size + 1, 4, none⟩ = some (.int .i64 (wi se)) := blk_cell HT.out.2.1 4
      have h5 : wr.cell? ⟨w.heap.size + 1, 5, none⟩ = some (.int .i64 (wi sf)) := blk_cell HT.out.2.1 5
      have h6 : wr.cell? ⟨w.heap.size + 1, 6, none⟩ = some (.int .i64 (wi sg)) := blk_cell HT.out.2.1 6
      have h7 : wr.cell? ⟨w.heap.size + 1, 7, none⟩ = some (.int .i64 (wi sh)) := blk_cell HT.out.2.1 7
      go_wp2
      refine start_ (n := 8) (S := fun w' => w'.cell? ⟨w.heap.size + 1, 0, none⟩ = some (.int .i64 (wi sa)) ∧ w'.cell? ⟨w.heap.size + 1, 1, none⟩ = some (.int .i64 (wi sb)) ∧ w'.cell? ⟨w.heap.size + 1, 2, none⟩ = some (.int .i64 (wi sc)) ∧ w'.cell? ⟨w.heap.size + 1, 3, none⟩ = some (.int .i64 (wi sd)) ∧ w'.cell? ⟨w.heap.size + 1, 4, none⟩ = some (.int .i64 (wi se)) ∧ w'.cell? ⟨w.heap.size + 1, 5, none⟩ = some (.int .i64 (wi sf)) ∧ w'.cell? ⟨w.heap.size + 1, 6, none⟩ = some (.int .i64 (wi sg)) ∧ w'.cell? ⟨w.heap.size + 1, 7, none⟩ = some (.int .i64 (wi sh))) (ds := [7]) #[false, false, false, false, false, false, false, false] (by kernel_rfl) rfl rfl ⟨h0, h1, h2, h3, h4, h5, h6, h7⟩ (fun hHeld => ?_)
      refine pure_ (i := 1) (N := some 18) (v := ?_) (a' := ?_) #[false, true, false, false, false, false, false, false] rfl rfl (by kernel_rfl) (fun _ _ _ h => h) (Or.inl ⟨by rfl, ?_⟩) ?_ ?_
      rotate_left
      · intro w'
        go_simp
        with_reducible rfl
      rotate_left
      · simp only [Act.put, List.setIfInBounds_toArray, List.set_cons_zero, List.set_cons_succ]
        rfl
      refine pure_ (i := 2) (N := some 19) (v := ?_) (a' := ?_) #[false, true, true, false, false, false, false, false] rfl rfl (by kernel_rfl) (fun _ _ _ h => h) (Or.inl ⟨by rfl, ?_⟩) ?_ ?_
      rotate_left
      · intro w'
        go_simp
        with_reducible rfl
      rotate_left
      · simp only [Act.put, List.setIfInBounds_toArray, List.set_cons_zero, List.set_cons_succ]
        rfl
      refine pure_ (i := 3) (N := some 20) (v := ?_) (a' := ?_) #[false, true, true, true, false, false, false, false] rfl rfl (by kernel_rfl) (fun _ _ _ h => h) (Or.inl ⟨by rfl, ?_⟩) ?_ ?_
      rotate_left
      · intro w'
        go_simp
        with_reducible rfl
      rotate_left
      · simp only [Act.put, List.setIfInBounds_toArray, List.set_cons_zero, List.set_cons_succ]
        rfl
      refine pure_ (i := 4) (N := some 21) (v := ?_) (a' := ?_) #[false, true, true, true, true, false, false, false] rfl rfl (by kernel_rfl) (fun _ _ _ h => h) (Or.inl ⟨by rfl, ?_⟩) ?_ ?_
      rotate_left
      · intro w'
        go_simp
        with_reducible rfl
      rotate_left
      · simp only [Act.put, List.setIfInBounds_toArray, List.set_cons_zero, List.set_cons_succ]
        rfl
      refine pure_ (i := 5) (N := some 22) (v := ?_) (a' := ?_) #[false, true, true, true, true, true, false, false] rfl rfl (by kernel_rfl) (fun _ _ _ h => h) (Or.inl ⟨by rfl, ?_⟩) ?_ ?_
      rotate_left
      · intro w'
        go_simp
        with_reducible rfl
      rotate_left
      · simp only [Act.put, List.setIfInBounds_toArray, List.set_cons_zero, List.set_cons_succ]
        rfl
      refine take_ (i := 0) (N := some 17) (v := ?_) (a' := ?_) #[true, true, true, true, true, true, false, false] rfl rfl (by kernel_rfl) (fun _ _ _ h => h) (Or.inl ⟨by rfl, ?_⟩) hHeld ?_ ?_
      rotate_left
      · rintro w' ⟨s0, s1, s2, s3, s4, s5, s6, s7⟩
        go_simp
        with_reducible rfl
      rotate_left
      · simp only [Act.put, List.setIfInBounds_toArray, List.set_cons_zero, List.set_cons_succ]
        rfl
      refine one_ (i := 6) (N := some 23) #[true, true, true, true, true, true, true, false] rfl rfl (by kernel_rfl) (by decide) (fun K hK => ?_)
      refine goes_ Tryd.func41 (by kernel_rfl) rfl #[.agg #[.int .i64 (wi sa), .int .i64 (wi sb), .int .i64 (wi sc), .int .i64 (wi sd), .int .i64 (wi se), .int .i64 (wi sf), .int .i64 (wi sg), .int .i64 (wi sh)], .slice A6 64 c6] (by rfl) rfl rfl (by simp only [List.map_toArray, List.map_cons, List.map_nil]; rfl) ?_
      with_reducible refine (block_lit sa sb sc sd se sf sg sh A6 c6 b6 _ (HC6.out wr.drew) H6l.out HL6.out HB6.out).mono ?_
      rintro e w7 ⟨t, ht, rfl, hb⟩
      refine ⟨_, rfl, ?_⟩
      have HT7 : Aside0 (SumW w A4 L ⟨sa, sb, sc, sd, se, sf, sg, sh⟩ w7) := ⟨(HT.out.below (below_drew (Below.refl _ _))).below hb⟩
      have HTt := Aside0.mk ht
      clear hb ht
      have f0 : w7.frozen? ⟨w.heap.size + 1, 0, none⟩ = false := blk_frozen HT7.out.2.1 0
      have f1 : w7.frozen? ⟨w.heap.size + 1, 1, none⟩ = false := blk_frozen HT7.out.2.1 1
      have f2 : w7.frozen? ⟨w.heap.size + 1, 2, none⟩ = false := blk_frozen HT7.out.2.1 2
      have f3 : w7.frozen? ⟨w.heap.size + 1, 3, none⟩ = false := blk_frozen HT7.out.2.1 3
      have f4 : w7.frozen? ⟨w.heap.size + 1, 4, none⟩ = false := blk_frozen HT7.out.2.1 4
      have f5 : w7.frozen? ⟨w.heap.size + 1, 5, none⟩ = false := blk_frozen HT7.out.2.1 5
      have f6 : w7.frozen? ⟨w.heap.size + 1, 6, none⟩ = false := blk_frozen HT7.out.2.1 6
      have f7 : w7.frozen? ⟨w.heap.size + 1, 7, none⟩ = false := blk_frozen HT7.out.2.1 7
      have g0 : w7.cell? ⟨w.heap.size + 1, 0, none⟩ = some (.int .i64 (wi sa)) := blk_cell HT7.out.2.1 0
      have g1 : w7.cell? ⟨w.heap.size + 1, 1, none⟩ = some (.int .i64 (wi sb)) := blk_cell HT7.out.2.1 1
      have g2 : w7.cell? ⟨w.heap.size + 1, 2, none⟩ = some (.int .i64 (wi sc)) := blk_cell HT7.out.2.1 2
      have g3 : w7.cell? ⟨w.heap.size + 1, 3, none⟩ = some (.int .i64 (wi sd)) := blk_cell HT7.out.2.1 3
      have g4 : w7.cell? ⟨w.heap.size + 1, 4, none⟩ = some (.int .i64 (wi se)) := blk_cell HT7.out.2.1 4
      have g5 : w7.cell? ⟨w.heap.size + 1, 5, none⟩ = some (.int .i64 (wi sf)) := blk_cell HT7.out.2.1 5
      have g6 : w7.cell? ⟨w.heap.size + 1, 6, none⟩ = some (.int .i64 (wi sg)) := blk_cell HT7.out.2.1 6
      have g7 : w7.cell? ⟨w.heap.size + 1, 7, none⟩ = some (.int .i64 (wi sh)) := blk_cell HT7.out.2.1 7
      refine hK.out _ _ ⟨g0, g1, g2, g3, g4, g5, g6, g7⟩ (fun hHeld => ?_)
      clear hK K
      refine norm_ (a' := ?_) ?_ ?_
      rotate_left
      · show Act.put _ (some 23) _ = _
        simp only [Act.put, List.setIfInBounds_toArray, List.set_cons_zero, List.set_cons_succ]
        rfl
      refine last_ (i := 7) (N := none) #[true, true, true, true, true, true, true, true] rfl rfl (by kernel_rfl) (by decide) (fun K hK => ?_)
      refine skip_ (w1 := ?_) (by rfl) rfl ?_ ?_
      rotate_left
      · go_simp
        rfl
      refine hK.out _ _ ?_
      clear hK K
      refine done_ (by kernel_rfl) ?_
      clear hHeld h0 h1 h2 h3 h4 h5 h6 h7
      have HT8 := Aside0.mk (HT7.out.set8 t)
      clear g0 g1 g2 g3 g4 g5 g6 g7 f0 f1 f2 f3 f4 f5 f6 f7
      generalize (((((((w7.setCell ⟨w.heap.size + 1, 0, none⟩ (.int .i64 (wi t.a))).setCell ⟨w.heap.size + 1, 1, none⟩ (.int .i64 (wi t.b))).setCell ⟨w.heap.size + 1, 2, none⟩ (.int .i64 (wi t.c))).setCell ⟨w.heap.size + 1, 3, none⟩ (.int .i64 (wi t.d))).setCell ⟨w.heap.size + 1, 4, none⟩ (.int .i64 (wi t.e))).setCell ⟨w.heap.size + 1, 5, none⟩ (.int .i64 (wi t.f))).setCell ⟨w.heap.size + 1, 6, none⟩ (.int .i64 (wi t.g))).setCell ⟨w.heap.size + 1, 7, none⟩ (.int .i64 (wi t.h)) = w8 at *
      go_wp2
      go_roundw
      case measure => have := HQ.out; simp [intOf]; omega
      case rel => exact ⟨q, t, HQ.out.1, HQ.out.2.1, rfl, by rw [HTt.out]; exact HNx, HT8⟩
    · obtain rfl : p = L.length := by omega
      have HE : Aside0 (shaV l = digL ⟨sa, sb, sc, sd, se, sf, sg, sh⟩) := ⟨by rw [← HSh.out, ← HAb.out, List.drop_length, absorb_lt (by decide)]⟩
      clear HAb hlt hj hp64 HSh
      generalize (⟨sa, sb, sc, sd, se, sf, sg, sh⟩ : St) = s at *
      go_wp2_with (fail)
      rw [z32_lit]
      have HO1 : Aside0 (ROutW w s wr.heap.size (outL (digL s) 0) (wr.alloc (.cells (dA (List.replicate 32 0)) 63))) := ⟨((bel_alloc (Below.refl _ _) _).block _ (blk_lt HT.out.1)).trans HT.out.1, ((bel_alloc (Below.refl _ _) _).block _ (blk_lt HT.out.2.1)).trans HT.out.2.1, heap_alloc_new _ _, below_step HT.out.2.2.2 (bel_alloc (Below.refl _ _) _), blk_lt HT.out.2.1⟩
      generalize wr.heap.size = g6 at *
      generalize wr.alloc (.cells (dA (List.replicate 32 0)) 63) = w8 at *
      clear HT
      go_loopw [7] (fun v7 wr' => ∃ i : Nat, i ≤ 32 ∧ v7 = .int .i64 (i : Int) ∧ Aside0 (ROutW w s g6 (outL (digL s) i) wr')) (fun v7 _ => 32 - (intOf v7).toNat)
      case atStart => exact ⟨0, Nat.zero_le _, rfl, HO1⟩
      case round =>
        clear HO1
        obtain ⟨i, hi, rfl, HT⟩ := hrel
        by_cases hlt : i < 32
        · have hltI : (i : Int) < 32 := by omega
          obtain ⟨k, m4, e8, ee, pp, x, y, z, hk, b1, b2, b3, b4, b5, b6, HP, b8, hx, b9, b10, b11, b12, b13, b14, b15, HZ⟩ := byteN s i hlt
          have HP := Aside0.mk HP
          have HO := Aside0.mk (outL_set (digL s) (digL_length s) i hlt)
          rw [HZ] at HO
          have hkI : (k : Int) < 8 := by omega
          have hpn : pp ≠ 0 := by omega
          have hpb : (pp == 0) = false := by rw [beq_eq_false_iff_ne]; exact hpn
          have h1 : wr.cell? ⟨w.heap.size + 1, k, none⟩ = some (.int .i64 x) := by rw [← hx]; exact (blk_cell HT.out.2.1 k).trans (nArr_get _ k hk)
          have HOl := Aside0.mk (outL_length (digL s) (digL_length s) i hi)
          clear hx HZ
          go_wp2
          refine wp_region_quiet_store 14 (by kernel_rfl) rfl rfl (by kernel_rfl) ?_
          simp only [List.take_succ_cons, List.take_zero, List.cons_append, List.nil_append]
          repeat (go_big_quiet_step ((go_at_call 42; exact power_q _ _ _ _ _ HP.out)))
          refine wpQuiet_nil ?_
          rintro w2 ⟨nq2, rfl⟩
          have HW2 : Aside0 _ := ⟨HT.out.below (pw_below_drewN (Below.refl _ _) nq2)⟩
          clear h1 HT b1 b2 b3 b4 b5 b6 b8 b9 b10 b11 b12 b13 b14 b15 hpn hpb
          have hfz2 : (wr.drewN nq2).frozen? ⟨g6, i, none⟩ = false := blk_frozen HW2.out.2.2.1 i
          have hst2 : ∃ v, (wr.drewN nq2).cell? ⟨g6, i, none⟩ = some v := ⟨_, (blk_cell HW2.out.2.2.1 i).trans (dA_at _ _ (by rw [HOl.out]; exact hlt))⟩
          obtain ⟨v2, hst2⟩ := hst2
          generalize wr.drewN nq2 = w2 at *
          go_wp2
          go_roundw
          case measure => simp [intOf]; omega
          case rel => exact ⟨i + 1, by omega, by go_num, ⟨by rw [← HO.out]; exact HW2.out.set i z⟩⟩
        · obtain rfl : i = 32 := by omega
          rw [outL_end _ (digL_length s), ← HE.out] at HT
          clear hi hlt
          obtain ⟨d, hd⟩ : ∃ d, d = shaV l := ⟨_, rfl⟩
          rw [← hd] at HD1 HD2 HT
          have Hd := Aside0.mk hd
          clear hd HE
          have HI3 := Aside0.mk (dA_one d)
          have HTa : Aside0 (wr.heap[g6]? = some (.cells (dA d) 63 (0, 0))) := ⟨HT.out.2.2.1⟩
          have HTb : Aside0 (wr.heap[w.heap.size]? = some (.cells (dA (List.replicate 32 0)) 63 (0, 0))) := ⟨HT.out.1⟩
          go_wp2_with (first
            | (with_reducible refine wpList_load_row rfl 63 (.tmp 6) rfl g6 rfl 63 (dA d) (0, 0) _ HTa.out Tryd.underlying63 rfl HD1.out ?_)
            | (with_reducible refine wpList_store_row rfl 63 (.tmp 2) (.tmp 42) rfl w.heap.size (dA d) rfl rfl 63 _ HTb.out HD1.out HD2.out HI3.out ?_))
          exact bodyPost_ret (results_cell_row Tryd.results36 _ _ w.heap.size 63 (dA d) (0, 0) _ rfl (setRow_heap _ _ _ _ _ _ HT.out.1) Tryd.underlying63 rfl HD1.out) rfl ⟨by rw [Hd.out], below_setRow HT.out.2.2.2.1 (Nat.le_refl _) _⟩
end Go.Proofs.YtpndobhakmjglaaDoor.Sha
