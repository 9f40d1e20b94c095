/- Texts put together: RefFilled, RefSum, RefJoin, DrawRefN, DrawRefB, DrawRefC, FixedR, RSoft, RTop, RCheckD, RPick, DrawPicks. -/
import Derived.Test.YtdmeocoehahopaaDoorBunP9
set_option linter.unusedVariables false
set_option linter.unusedSimpArgs false
namespace Go.Proofs.YtdmeocoehahopaaDoor.Sha
open Go.RowKit Go.Proofs.YtdmeocoehahopaaDoorW.PrintWords Go.Proofs.YtdmeocoehahopaaDoorW.PrintLast Go.Proofs.YtdmeocoehahopaaDoorW.PrintMore Go.Proofs.YtdmeocoehahopaaDoor.K Go.Proofs.YtdmeocoehahopaaDoor.PDrawNumbers
set_option maxRecDepth 100000
theorem pow0 (k : Nat) : cupelref01_Power.f (k + 60) 0 = some 1 := by kernel_rfl
theorem pow8 (k : Nat) : cupelref01_Power.f (k + 60) 8 = some 256 := by kernel_rfl
theorem pow16 (k : Nat) : cupelref01_Power.f (k + 60) 16 = some 65536 := by kernel_rfl
theorem pow24 (k : Nat) : cupelref01_Power.f (k + 60) 24 = some 16777216 := by kernel_rfl
theorem pow32 (k : Nat) : cupelref01_Power.f (k + 60) 32 = some 4294967296 := by kernel_rfl
theorem pow40 (k : Nat) : cupelref01_Power.f (k + 60) 40 = some 1099511627776 := by kernel_rfl
theorem pow48 (k : Nat) : cupelref01_Power.f (k + 60) 48 = some 281474976710656 := by kernel_rfl
theorem pow56 (k : Nat) : cupelref01_Power.f (k + 60) 56 = some 72057594037927936 := by kernel_rfl
theorem l1_step (k : Nat) (x : List Int) (m i e p : Int) (hm : 0 ≤ m) (hm2 : m < 1000000000) (hi : 0 ≤ i) (hi2 : i < 8) (hx : x.length < 100000) (he : 8 * i = e) (hp : cupelref01_Power.f k e = some p) (hp0 : 0 < p) :
    cupelref01_filled.l1 (k + 1) x m i = cupelref01_filled.l1 k (x ++ [m / p % 256]) m (i - 1) := by
  have hq : 0 ≤ m / p := Int.ediv_nonneg hm (by omega); have hq2 : m / p ≤ m := Int.ediv_le_self _ hm; rw [cupelref01_filled.l1, if_pos hi, w64_in (8 * i) (by omega) (by omega), he, hp, Option.bind_some, if_neg (by omega), if_pos (by omega), w64_in (i - 1) (by omega) (by omega), Int.tdiv_eq_ediv_of_nonneg hm, w64_in (m / p) (by omega) (by omega), Int.tmod_eq_emod_of_nonneg hq, Int.emod_emod_of_dvd _ (Int.dvd_refl 256)]
theorem l1_all (k : Nat) (x : List Int) (m : Int) (hm : 0 ≤ m) (hm2 : m < 1000000000) (hx : x.length < 90000) : cupelref01_filled.l1 (k + 69) x m 7 = some (x ++ be8 m) := by
  rw [l1_step (k + 68) x m 7 56 _ hm hm2 (by decide) (by decide) (by omega) rfl (pow56 (k + 8)) (by decide),
    l1_step (k + 67) _ m (7 - 1) 48 _ hm hm2 (by decide) (by decide) (by simp; omega) rfl (pow48 (k + 7)) (by decide),
    l1_step (k + 66) _ m (7 - 1 - 1) 40 _ hm hm2 (by decide) (by decide) (by simp; omega) rfl (pow40 (k + 6)) (by decide),
    l1_step (k + 65) _ m (7 - 1 - 1 - 1) 32 _ hm hm2 (by decide) (by decide) (by simp; omega) rfl (pow32 (k + 5)) (by decide),
    l1_step (k + 64) _ m (7 - 1 - 1 - 1 - 1) 24 _ hm hm2 (by decide) (by decide) (by simp; omega) rfl (pow24 (k + 4)) (by decide),
    l1_step (k + 63) _ m (7 - 1 - 1 - 1 - 1 - 1) 16 _ hm hm2 (by decide) (by decide) (by simp; omega) rfl (pow16 (k + 3)) (by decide),
    l1_step (k + 62) _ m (7 - 1 - 1 - 1 - 1 - 1 - 1) 8 _ hm hm2 (by decide) (by decide) (by simp; omega) rfl (pow8 (k + 2)) (by decide),
    l1_step (k + 61) _ m (7 - 1 - 1 - 1 - 1 - 1 - 1 - 1) 0 _ hm hm2 (by decide) (by decide) (by simp; omega) rfl (pow0 (k + 1)) (by decide),
    show k + 61 = (k + 60) + 1 from rfl, cupelref01_filled.l1, if_neg (by decide)]
  simp [be8]
theorem l0_all (K : Nat) (l : List Int) : ∀ (d : Nat) (x : List Int), (x.length + d) % 64 = 56 → (∀ j, j < d → (x.length + j) % 64 ≠ 56) → x.length + d < 90000 →
    cupelref01_filled.l0 (d + 1 + K) l x = cupelref01_filled.l1 K (x ++ List.replicate d 0) (wrap64 (8 * (l.length : Int))) 7
  | 0, x, h, _, _ => by
    rw [show 0 + 1 + K = K + 1 by omega, cupelref01_filled.l0, if_pos (by omega)]
    simp
  | d + 1, x, h, hj, hx => by
    have h0 := hj 0 (by omega); rw [show d + 1 + 1 + K = (d + 1 + K) + 1 by omega, cupelref01_filled.l0, if_neg (by omega), if_pos (by omega), l0_all K l d (x ++ [0]) (by rw [List.length_append]; simp; omega) (fun j hjd => by have := hj (j + 1) (by omega); rw [List.length_append]; simp; omega) (by rw [List.length_append]; simp; omega), List.append_assoc]
    rfl
def filledV (l : List Int) : List Int := l ++ (tail1 l.length ++ be8 (8 * (l.length : Int)))
theorem filled_f (l : List Int) (h : l.length ≤ 1000) : cupelref01_filled.f 200 l = some (filledV l) := by
  obtain ⟨d, hd⟩ : ∃ d, d = (119 - l.length % 64) % 64 := ⟨_, rfl⟩
  have hd64 : d < 64 := by omega
  rw [cupelref01_filled.f, if_pos (by simp; omega), Option.bind_some, if_pos (by simp; omega), List.nil_append]; have h1 := l0_all (199 - d) l d (l ++ [128]) (by simp; omega) (fun j hj => by simp; omega) (by simp; omega); rw [show d + 1 + (199 - d) = 200 by omega] at h1; rw [h1, w64_in _ (by omega) (by omega), show 199 - d = (130 - d) + 69 by omega, l1_all _ _ _ (by omega) (by omega) (by simp; omega)]; simp only [filledV, tail1, ← hd, List.append_assoc, List.cons_append, List.nil_append]
theorem filledV_length (l : List Int) : (filledV l).length % 64 = 0 ∧ (filledV l).length ≤ l.length + 73 := by
  simp only [filledV, tail1, be8, List.length_append, List.length_cons, List.length_replicate, List.length_nil]
  omega
theorem filledV_byte (l : List Int) (h : ∀ x ∈ l, 0 ≤ x ∧ x < 256) : ∀ x ∈ filledV l, 0 ≤ x ∧ x < 256 := by
  intro x hx
  rcases List.mem_append.1 hx with hx | hx
  · exact h x hx
  · rcases List.mem_append.1 hx with hx | hx
    · rcases List.mem_cons.1 hx with rfl | hx
      · decide
      · rw [List.eq_of_mem_replicate hx]; decide
    · simp only [be8, List.mem_cons, List.not_mem_nil, or_false] at hx
      rcases hx with rfl | rfl | rfl | rfl | rfl | rfl | rfl | rfl <;> omega
theorem filledV_sha (l : List Int) : digL (absorb init (filledV l)).1 = shaV l := rfl
end Go.Proofs.YtdmeocoehahopaaDoor.Sha
namespace Go.Proofs.YtdmeocoehahopaaDoor.Sha
open Go.RowKit Go.Proofs.YtdmeocoehahopaaDoorW.PrintWords Go.Proofs.YtdmeocoehahopaaDoorW.PrintLast Go.Proofs.YtdmeocoehahopaaDoorW.PrintMore Go.Proofs.YtdmeocoehahopaaDoor.K Go.Proofs.YtdmeocoehahopaaDoor.PDrawNumbers
theorem block_lit (sa sb sc sd se sf sg sh : W32) (A : Option Addr) (c : Nat) (b : List Int) (w : World) (hb : Kd.C (Kd.int .u8) w A b.length b) (hbl : b.length = 64) (hc : 64 ≤ c) (hby : ∀ x ∈ b, 0 ≤ x ∧ x < 256) :
    Calls Tryd.prog 42 #[.agg #[.int .i64 (wi sa), .int .i64 (wi sb), .int .i64 (wi sc), .int .i64 (wi sd), .int .i64 (wi se), .int .i64 (wi sf), .int .i64 (wi sg), .int .i64 (wi sh)], .slice A 64 c] w fun e w' => ∃ t : St, t = turnV ⟨sa, sb, sc, sd, se, sf, sg, sh⟩ b ∧ e = .returned (.agg #[.int .i64 (wi t.a), .int .i64 (wi t.b), .int .i64 (wi t.c), .int .i64 (wi t.d), .int .i64 (wi t.e), .int .i64 (wi t.f), .int .i64 (wi t.g), .int .i64 (wi t.h)]) ∧ Below w.heap.size w w' :=
  (block_calls ⟨sa, sb, sc, sd, se, sf, sg, sh⟩ A c b w hb hbl hc hby).mono fun e w' ⟨he, h⟩ => ⟨_, rfl, he, h⟩
theorem i8_lit : (#[.int .i64 1779033703, .int .i64 3144134277, .int .i64 1013904242, .int .i64 2773480762, .int .i64 1359893119, .int .i64 2600822924, .int .i64 528734635, .int .i64 1541459225] : Array Value) = nArr init.l := by kernel_rfl
def SumW (w : World) (A4 : Option Addr) (L : List Int) (s : St) (wr : World) : Prop :=
  wr.heap[w.heap.size]? = some (.cells (dA (List.replicate 32 0)) 23 (0, 0)) ∧ wr.heap[w.heap.size + 1]? = some (.cells (nArr s.l) 72 (0, 0)) ∧ Kd.C (Kd.int .u8) wr A4 L.length L ∧ Below w.heap.size w wr
theorem SumW.below {w w1 w2 : World} {A4 : Option Addr} {L : List Int} {s : St} (h : SumW w A4 L s w1) (hb : Below w1.heap.size w1 w2) : SumW w A4 L s w2 :=
  ⟨(hb.block _ (blk_lt h.1)).trans h.1, (hb.block _ (blk_lt h.2.1)).trans h.2.1, Kd.C_below h.2.2.1 hb, below_step h.2.2.2 hb⟩
def SumL (w : World) (A4 : Option Addr) (L : List Int) (m : List W32) (wr : World) : Prop :=
  wr.heap[w.heap.size]? = some (.cells (dA (List.replicate 32 0)) 23 (0, 0)) ∧ wr.heap[w.heap.size + 1]? = some (.cells (nArr m) 72 (0, 0)) ∧ Kd.C (Kd.int .u8) wr A4 L.length L ∧ Below w.heap.size w wr
theorem nArr_no (m : List W32) (j : Nat) (x : Int) : (nArr m)[j]? ≠ some (Value.int .u8 x) := by
  intro h; simp only [nArr, nums, List.getElem?_toArray, List.getElem?_map] at h
  cases hm : m[j]? with
  | none => rw [hm] at h; cases h
  | some y => rw [hm] at h; cases h
theorem SumL.set {w w1 : World} {A4 : Option Addr} {L : List Int} {m : List W32} (h : SumL w A4 L m w1) (i : Nat) (x : W32) : SumL w A4 L (m.set i x) (w1.setCell ⟨w.heap.size + 1, i, none⟩ (.int .i64 (wi x))) :=
  ⟨blk_far h.1 (by show w.heap.size ≠ w.heap.size + 1; omega) _, blkN_set h.2.1 i x, C_far h.2.1 (nArr_no m) h.2.2.1 i _, h.2.2.2.setCell (by show w.heap.size ≤ w.heap.size + 1; omega) _⟩
theorem SumW.set8 {w w1 : World} {A4 : Option Addr} {L : List Int} {s : St} (h : SumW w A4 L s w1) (t : St) :
    SumW w A4 L t ((((((((w1.setCell ⟨w.heap.size + 1, 0, none⟩ (.int .i64 (wi t.a))).setCell ⟨w.heap.size + 1, 1, none⟩ (.int .i64 (wi t.b))).setCell ⟨w.heap.size + 1, 2, none⟩ (.int .i64 (wi t.c))).setCell ⟨w.heap.size + 1, 3, none⟩ (.int .i64 (wi t.d))).setCell ⟨w.heap.size + 1, 4, none⟩ (.int .i64 (wi t.e))).setCell ⟨w.heap.size + 1, 5, none⟩ (.int .i64 (wi t.f))).setCell ⟨w.heap.size + 1, 6, none⟩ (.int .i64 (wi t.g))).setCell ⟨w.heap.size + 1, 7, none⟩ (.int .i64 (wi t.h))) := by
  have h0 : SumL w A4 L s.l w1 := h; have h8 := (((((((h0.set 0 t.a).set 1 t.b).set 2 t.c).set 3 t.d).set 4 t.e).set 5 t.f).set 6 t.g).set 7 t.h; rw [set8_list s.l rfl t] at h8; exact h8
def outL (D : List Int) (i : Nat) : List Int := D.take i ++ List.replicate (32 - i) 0
theorem outL_length (D : List Int) (hD : D.length = 32) (i : Nat) (hi : i ≤ 32) : (outL D i).length = 32 := by
  rw [outL, List.length_append, List.length_take, List.length_replicate]
  omega
theorem outL_set (D : List Int) (hD : D.length = 32) (i : Nat) (hi : i < 32) : (outL D i).set i (D.getD i 0) = outL D (i + 1) := by
  have ht : (D.take i).length = i := by rw [List.length_take]; omega
  rw [outL, List.set_append_right _ _ (by omega), ht, Nat.sub_self, show 32 - i = (32 - (i + 1)) + 1 by omega, List.replicate_succ, List.set_cons_zero, outL, List.take_succ_eq_append_getElem (by omega), List.getD_eq_getElem?_getD, List.getElem?_eq_getElem (by omega), List.append_assoc]
  rfl
theorem outL_end (D : List Int) (hD : D.length = 32) : outL D 32 = D := by
  rw [outL, List.take_of_length_le (by omega), Nat.sub_self]; exact List.append_nil _
theorem dA_set' (l : List Int) (i : Nat) (x : Int) : (dA l).setIfInBounds i (.int .u8 x) = dA (l.set i x) := by
  apply Array.ext'
  simp [dA, nums, List.map_set]
theorem dA_at (d : List Int) (i : Nat) (h : i < d.length) : (dA d)[i]? = some (.int .u8 (d.getD i 0)) := by
  simp [dA, nums, List.getElem?_eq_getElem h, List.getD_eq_getElem?_getD]
/-- While the digest is laid. -/
def ROutW (w : World) (s : St) (g : Nat) (m : List Int) (wr : World) : Prop :=
  wr.heap[w.heap.size]? = some (.cells (dA (List.replicate 32 0)) 23 (0, 0)) ∧ wr.heap[w.heap.size + 1]? = some (.cells (nArr s.l) 72 (0, 0)) ∧ wr.heap[g]? = some (.cells (dA m) 23 (0, 0)) ∧ Below w.heap.size w wr ∧ w.heap.size + 1 < g
theorem ROutW.below {w w1 w2 : World} {s : St} {g : Nat} {m : List Int} (h : ROutW w s g m w1) (hb : Below w1.heap.size w1 w2) : ROutW w s g m w2 :=
  ⟨(hb.block _ (blk_lt h.1)).trans h.1, (hb.block _ (blk_lt h.2.1)).trans h.2.1, (hb.block _ (blk_lt h.2.2.1)).trans h.2.2.1, below_step h.2.2.2.1 hb, h.2.2.2.2⟩
theorem ROutW.set {w w1 : World} {s : St} {g : Nat} {m : List Int} (h : ROutW w s g m w1) (i : Nat) (x : Int) : ROutW w s g (m.set i x) (w1.setCell ⟨g, i, none⟩ (.int .u8 x)) :=
  ⟨blk_far h.1 (by show w.heap.size ≠ g; have := h.2.2.2.2; omega) _, blk_far h.2.1 (by show w.heap.size + 1 ≠ g; have := h.2.2.2.2; omega) _, by rw [← dA_set']; exact blk_set h.2.2.1 i _, h.2.2.2.1.setCell (by show w.heap.size ≤ g; have := h.2.2.2.2; omega) _, h.2.2.2.2⟩
def pw : Nat → Int
  | 0 => 16777216
  | 1 => 65536
  | 2 => 256
  | _ => 1
theorem digL_at (s : St) : ∀ i, i < 32 → (digL s).getD i 0 = wi (s.l.getD (i / 4) 0) / pw (i % 4) % 256
  | 0, _ => rfl
  | 1, _ => rfl
  | 2, _ => rfl
  | 3, _ => (congrArg (· % 256) (Int.ediv_one _).symm)
  | 4, _ => rfl
  | 5, _ => rfl
  | 6, _ => rfl
  | 7, _ => (congrArg (· % 256) (Int.ediv_one _).symm)
  | 8, _ => rfl
  | 9, _ => rfl
  | 10, _ => rfl
  | 11, _ => (congrArg (· % 256) (Int.ediv_one _).symm)
  | 12, _ => rfl
  | 13, _ => rfl
  | 14, _ => rfl
  | 15, _ => (congrArg (· % 256) (Int.ediv_one _).symm)
  | 16, _ => rfl
  | 17, _ => rfl
  | 18, _ => rfl
  | 19, _ => (congrArg (· % 256) (Int.ediv_one _).symm)
  | 20, _ => rfl
  | 21, _ => rfl
  | 22, _ => rfl
  | 23, _ => (congrArg (· % 256) (Int.ediv_one _).symm)
  | 24, _ => rfl
  | 25, _ => rfl
  | 26, _ => rfl
  | 27, _ => (congrArg (· % 256) (Int.ediv_one _).symm)
  | 28, _ => rfl
  | 29, _ => rfl
  | 30, _ => rfl
  | 31, _ => (congrArg (· % 256) (Int.ediv_one _).symm)
  | n + 32, h => absurd h (by omega)
theorem byteN (s : St) (i : Nat) (hi : i < 32) : ∃ (k m4 : Nat) (e8 ee p x y z : Int), k < 8 ∧ (i : Int) / 4 = (k : Int) ∧ Int.tdiv (i : Int) 4 = (k : Int) ∧ (i : Int) % 4 = (m4 : Int) ∧ Int.tmod (i : Int) 4 = (m4 : Int) ∧ IntKind.i64.wrap (8 * (m4 : Int)) = e8 ∧ IntKind.i64.wrap (24 - e8) = ee ∧ cupelref01_Power.f 90 ee = some p ∧ 0 < p ∧ wi (s.l.getD k 0) = x ∧
    x / p = y ∧ Int.tdiv x p = y ∧ IntKind.i64.wrap y = y ∧ 0 ≤ y ∧ y % 256 = z ∧ Int.tmod y 256 = z ∧ IntKind.u8.wrap z = z ∧ (digL s).getD i 0 = z := by
  have hx := wi_range (s.l.getD (i / 4) 0)
  have hpw : 0 < pw (i % 4) := by unfold pw; split <;> decide
  have hq : 0 ≤ wi (s.l.getD (i / 4) 0) / pw (i % 4) := Int.ediv_nonneg hx.1 (by omega); have hq2 : wi (s.l.getD (i / 4) 0) / pw (i % 4) ≤ wi (s.l.getD (i / 4) 0) := Int.ediv_le_self _ hx.1
  have hpow : cupelref01_Power.f 90 (24 - 8 * ((i % 4 : Nat) : Int)) = some (pw (i % 4)) := by
    rcases (show i % 4 = 0 ∨ i % 4 = 1 ∨ i % 4 = 2 ∨ i % 4 = 3 by omega) with h | h | h | h <;> rw [h]
    · exact pow24 30
    · exact pow16 30
    · exact pow8 30
    · exact pow0 30
  refine ⟨i / 4, i % 4, _, _, _, _, _, _, by omega, by omega, by rw [Int.tdiv_eq_ediv_of_nonneg (by omega)]; omega, by omega, by rw [Int.tmod_eq_emod_of_nonneg (by omega)]; omega, i64_small _ (by omega) (by omega), i64_small _ (by omega) (by omega), hpow, hpw, rfl, rfl, Int.tdiv_eq_ediv_of_nonneg hx.1, i64_small _ hq (by omega), hq, rfl, Int.tmod_eq_emod_of_nonneg hq, by rw [IntKind.wrap_u8]; omega, digL_at s i hi⟩
theorem power_q (k : Nat) (e p : Int) (w : World) (n : Nat) (h : cupelref01_Power.f k e = some p) :
    Calls Tryd.prog 43 #[.int .i64 e] (w.drewN n) fun e w' => e = .returned (.int .i64 p) ∧ ∃ m, w' = w.drewN m := by
  refine (cupelref01_Power.calls k e p _ h).mono ?_; rintro e w' ⟨he, m, hm⟩; exact ⟨he, n + m, by rw [hm, World.drewN_drewN]⟩
set_option maxHeartbeats 8000000 in
set_option maxRecDepth 100000 in
theorem rsum_calls (A : Option Addr) (c : Nat) (l : List Int) (w : World) (hl : Kd.C (Kd.int .u8) w A l.length l) (hc : l.length ≤ c) (hby : ∀ x ∈ l, 0 ≤ x ∧ x < 256) (hm : l.length ≤ 300) :
    Calls Tryd.prog 25 #[.slice A l.length c] w fun e w' => e = .returned (.agg (dA (shaV l))) ∧ Below w.heap.size w w' := by
  have HC := Aside0.mk hl; have HBy := Aside0.mk hby; have HM := Aside0.mk hm; have HCc := Aside0.mk hc; have HD1 := Aside0.mk (dig_info (shaV_length l)); have HD2 : Aside0 ((dA (List.replicate 32 0)).size = (dA (shaV l)).size) := ⟨by rw [dA_size, dA_size, shaV_length]; rfl⟩; clear hl hby hm hc
  go_enter Tryd.func25, Tryd.ntmps25
  go_wp2_with (fail); rw [z32_lit, i8_lit]; have HB1 : Aside0 (Below w.heap.size w ((w.alloc (.cells (dA (List.replicate 32 0)) 23)).alloc (.cells (nArr init.l) 72))) := ⟨bel_alloc (bel_alloc (Below.refl _ _) _) _⟩; have HR1 : Aside0 (((w.alloc (.cells (dA (List.replicate 32 0)) 23)).alloc (.cells (nArr init.l) 72)).heap[w.heap.size]? = some (.cells (dA (List.replicate 32 0)) 23 (0, 0))) := ⟨((bel_alloc (Below.refl _ _) _).block _ (blk_lt (heap_alloc_new w _))).trans (heap_alloc_new w _)⟩; have HS1 : Aside0 (((w.alloc (.cells (dA (List.replicate 32 0)) 23)).alloc (.cells (nArr init.l) 72)).heap[w.heap.size + 1]? = some (.cells (nArr init.l) 72 (0, 0))) := ⟨by have := heap_alloc_new (w.alloc (.cells (dA (List.replicate 32 0)) 23)) (.cells (nArr init.l) 72); rw [World.size_alloc] at this; exact this⟩; generalize (w.alloc (.cells (dA (List.replicate 32 0)) 23)).alloc (.cells (nArr init.l) 72) = w1 at *; refine (cupelref01_filled.calls 200 A c l (filledV l) w1 (Kd.C_below HC.out HB1.out) HCc.out (filled_f l (by have := HM.out; omega))).mono ?_; rintro e w4 ⟨v4, rfl, hv, hb⟩; obtain ⟨A4, c4, rfl⟩ := Kd.R_slice hv; have HT4 : Aside0 (SumW w A4 (filledV l) init w4) := ⟨(hb.block _ (blk_lt HR1.out)).trans HR1.out, (hb.block _ (blk_lt HS1.out)).trans HS1.out, (Kd.R_reads' hv).2.2, below_step HB1.out hb⟩; have HC4 := Aside0.mk (Kd.R_reads' hv).2.1; clear hv hb HR1 HS1 HB1; have HFl := Aside0.mk (filledV_length l); have HFb := Aside0.mk (filledV_byte l HBy.out); obtain ⟨L, hL⟩ : ∃ L, L = filledV l := ⟨_, rfl⟩; rw [← hL] at HT4 HC4 HFl HFb ⊢; have HSh : Aside0 (digL (absorb init L).1 = shaV l) := ⟨by rw [hL]; exact filledV_sha l⟩; clear hL; have hL64 := HFl.out.1
  have hLb : L.length ≤ 400 := by have := HFl.out.2; have := HM.out; omega
  go_wp2_with (fail)
  go_loopw [5] (fun v5 wr => ∃ (p : Nat) (s : St), p % 64 = 0 ∧ p ≤ L.length ∧ v5 = .int .i64 (p : Int) ∧ Aside0 (absorb s (L.drop p) = absorb init L) ∧ Aside0 (SumW w A4 L s wr)) (fun v5 _ => L.length - (intOf v5).toNat)
  case atStart => exact ⟨0, init, rfl, Nat.zero_le _, rfl, ⟨rfl⟩, HT4⟩
  case round =>
    clear HT4; obtain ⟨p, ⟨sa, sb, sc, sd, se, sf, sg, sh⟩, hp64, hj, rfl, HAb, HT⟩ := hrel
    by_cases hlt : p < L.length
    · have hp8 : p + 64 ≤ L.length := by omega
      obtain ⟨q, hq⟩ : ∃ q, q = p + 64 := ⟨_, rfl⟩; have HQ := Aside0.mk (show q % 64 = 0 ∧ q ≤ L.length ∧ p < q by omega)
      have M2 : IntKind.i64.wrap ((p : Int) + 64) = (q : Int) := by rw [IntWalk.i64_in _ (by omega)]; omega
      obtain ⟨A6, hsl, hC6, hle6⟩ := mid_int (k := .u8) (P := Tryd.prog) 57 5 Tryd.underlying57 info_u8 A4 c4 L (p : Int) (q : Int) p 64 rfl (by omega) (by omega) HC4.out
      have h86 : ((L.drop p).take 64).length = 64 := by rw [List.length_take, List.length_drop]; omega
      have HNx : Aside0 (absorb (turnV ⟨sa, sb, sc, sd, se, sf, sg, sh⟩ ((L.drop p).take 64)) (L.drop q) = absorb init L) := ⟨by
        rw [← HAb.out, absorb_ge (l := L.drop p) (by rw [List.length_drop]; omega), List.drop_drop, hq]⟩
      have HC6 : Aside0 (∀ W : World, Kd.C (Kd.int .u8) wr.drew A6 ((L.drop p).take 64).length ((L.drop p).take 64)) := ⟨fun _ => hC6 _ (Kd.C_drewN HT.out.2.2.1 1)⟩; have HB6 : Aside0 (∀ x ∈ (L.drop p).take 64, 0 ≤ x ∧ x < 256) := ⟨fun x hx => HFb.out x (List.mem_of_mem_drop (List.mem_of_mem_take hx))⟩; have H6l := Aside0.mk h86; rw [h86] at hsl hle6; have HL6 := Aside0.mk hle6; clear hle6 hC6 h86 hq hj; generalize (L.drop p).take 64 = b6 at *; generalize c4 - p = c6 at *; have h0 : wr.cell? ⟨w.heap.size + 1, 0, none⟩ = some (.int .i64 (wi sa)) := blk_cell HT.out.2.1 0; have h1 : wr.cell? ⟨w.heap.size + 1, 1, none⟩ = some (.int .i64 (wi sb)) := blk_cell HT.out.2.1 1; have h2 : wr.cell? ⟨w.heap.size + 1, 2, none⟩ = some (.int .i64 (wi sc)) := blk_cell HT.out.2.1 2; have h3 : wr.cell? ⟨w.heap.size + 1, 3, none⟩ = some (.int .i64 (wi sd)) := blk_cell HT.out.2.1 3; have h4 : wr.cell? ⟨w.heap.size + 1, 4, none⟩ = some (.int .i64 (wi se)) := blk_cell HT.out.2.1 4; have h5 : wr.cell? ⟨w.heap.size + 1, 5, none⟩ = some (.int .i64 (wi sf)) := blk_cell HT.out.2.1 5; have h6 : wr.cell? ⟨w.heap.size + 1, 6, none⟩ = some (.int .i64 (wi sg)) := blk_cell HT.out.2.1 6; have h7 : wr.cell? ⟨w.heap.size + 1, 7, none⟩ = some (.int .i64 (wi sh)) := blk_cell HT.out.2.1 7; go_wp2; refine start_ (n := 8) (S := fun w' => w'.cell? ⟨w.heap.size + 1, 0, none⟩ = some (.int .i64 (wi sa)) ∧ w'.cell? ⟨w.heap.size + 1, 1, none⟩ = some (.int .i64 (wi sb)) ∧ w'.cell? ⟨w.heap.size + 1, 2, none⟩ = some (.int .i64 (wi sc)) ∧ w'.cell? ⟨w.heap.size + 1, 3, none⟩ = some (.int .i64 (wi sd)) ∧ w'.cell? ⟨w.heap.size + 1, 4, none⟩ = some (.int .i64 (wi se)) ∧ w'.cell? ⟨w.heap.size + 1, 5, none⟩ = some (.int .i64 (wi sf)) ∧ w'.cell? ⟨w.heap.size + 1, 6, none⟩ = some (.int .i64 (wi sg)) ∧ w'.cell? ⟨w.heap.size + 1, 7, none⟩ = some (.int .i64 (wi sh))) (ds := [7]) #[false, false, false, false, false, false, false, false] (by kernel_rfl) rfl rfl ⟨h0, h1, h2, h3, h4, h5, h6, h7⟩ (fun hHeld => ?_); refine pure_ (i := 1) (N := some 18) (v := ?_) (a' := ?_) #[false, true, false, false, false, false, false, false] rfl rfl (by kernel_rfl) (fun _ _ _ h => h) (Or.inl ⟨by rfl, ?_⟩) ?_ ?_
      rotate_left
      · intro w'
        go_simp
        with_reducible rfl
      rotate_left
      · simp only [Act.put, List.setIfInBounds_toArray, List.set_cons_zero, List.set_cons_succ]
        rfl
      refine pure_ (i := 2) (N := some 19) (v := ?_) (a' := ?_) #[false, true, true, false, false, false, false, false] rfl rfl (by kernel_rfl) (fun _ _ _ h => h) (Or.inl ⟨by rfl, ?_⟩) ?_ ?_
      rotate_left
      · intro w'
        go_simp
        with_reducible rfl
      rotate_left
      · simp only [Act.put, List.setIfInBounds_toArray, List.set_cons_zero, List.set_cons_succ]
        rfl
      refine pure_ (i := 3) (N := some 20) (v := ?_) (a' := ?_) #[false, true, true, true, false, false, false, false] rfl rfl (by kernel_rfl) (fun _ _ _ h => h) (Or.inl ⟨by rfl, ?_⟩) ?_ ?_
      rotate_left
      · intro w'
        go_simp
        with_reducible rfl
      rotate_left
      · simp only [Act.put, List.setIfInBounds_toArray, List.set_cons_zero, List.set_cons_succ]
        rfl
      refine pure_ (i := 4) (N := some 21) (v := ?_) (a' := ?_) #[false, true, true, true, true, false, false, false] rfl rfl (by kernel_rfl) (fun _ _ _ h => h) (Or.inl ⟨by rfl, ?_⟩) ?_ ?_
      rotate_left
      · intro w'
        go_simp
        with_reducible rfl
      rotate_left
      · simp only [Act.put, List.setIfInBounds_toArray, List.set_cons_zero, List.set_cons_succ]
        rfl
      refine pure_ (i := 5) (N := some 22) (v := ?_) (a' := ?_) #[false, true, true, true, true, true, false, false] rfl rfl (by kernel_rfl) (fun _ _ _ h => h) (Or.inl ⟨by rfl, ?_⟩) ?_ ?_
      rotate_left
      · intro w'
        go_simp
        with_reducible rfl
      rotate_left
      · simp only [Act.put, List.setIfInBounds_toArray, List.set_cons_zero, List.set_cons_succ]
        rfl
      refine take_ (i := 0) (N := some 17) (v := ?_) (a' := ?_) #[true, true, true, true, true, true, false, false] rfl rfl (by kernel_rfl) (fun _ _ _ h => h) (Or.inl ⟨by rfl, ?_⟩) hHeld ?_ ?_
      rotate_left
      · rintro w' ⟨s0, s1, s2, s3, s4, s5, s6, s7⟩
        go_simp
        with_reducible rfl
      rotate_left
      · simp only [Act.put, List.setIfInBounds_toArray, List.set_cons_zero, List.set_cons_succ]
        rfl
      refine one_ (i := 6) (N := some 23) #[true, true, true, true, true, true, true, false] rfl rfl (by kernel_rfl) (by decide) (fun K hK => ?_); refine goes_ Tryd.func42 (by kernel_rfl) rfl #[.agg #[.int .i64 (wi sa), .int .i64 (wi sb), .int .i64 (wi sc), .int .i64 (wi sd), .int .i64 (wi se), .int .i64 (wi sf), .int .i64 (wi sg), .int .i64 (wi sh)], .slice A6 64 c6] (by rfl) rfl rfl (by simp only [List.map_toArray, List.map_cons, List.map_nil]; rfl) ?_
      with_reducible refine (block_lit sa sb sc sd se sf sg sh A6 c6 b6 _ (HC6.out wr.drew) H6l.out HL6.out HB6.out).mono ?_
      rintro e w7 ⟨t, ht, rfl, hb⟩; refine ⟨_, rfl, ?_⟩; have HT7 : Aside0 (SumW w A4 L ⟨sa, sb, sc, sd, se, sf, sg, sh⟩ w7) := ⟨(HT.out.below (below_drew (Below.refl _ _))).below hb⟩; have HTt := Aside0.mk ht; clear hb ht; have f0 : w7.frozen? ⟨w.heap.size + 1, 0, none⟩ = false := blk_frozen HT7.out.2.1 0; have f1 : w7.frozen? ⟨w.heap.size + 1, 1, none⟩ = false := blk_frozen HT7.out.2.1 1; have f2 : w7.frozen? ⟨w.heap.size + 1, 2, none⟩ = false := blk_frozen HT7.out.2.1 2; have f3 : w7.frozen? ⟨w.heap.size + 1, 3, none⟩ = false := blk_frozen HT7.out.2.1 3; have f4 : w7.frozen? ⟨w.heap.size + 1, 4, none⟩ = false := blk_frozen HT7.out.2.1 4; have f5 : w7.frozen? ⟨w.heap.size + 1, 5, none⟩ = false := blk_frozen HT7.out.2.1 5; have f6 : w7.frozen? ⟨w.heap.size + 1, 6, none⟩ = false := blk_frozen HT7.out.2.1 6; have f7 : w7.frozen? ⟨w.heap.size + 1, 7, none⟩ = false := blk_frozen HT7.out.2.1 7; have g0 : w7.cell? ⟨w.heap.size + 1, 0, none⟩ = some (.int .i64 (wi sa)) := blk_cell HT7.out.2.1 0; have g1 : w7.cell? ⟨w.heap.size + 1, 1, none⟩ = some (.int .i64 (wi sb)) := blk_cell HT7.out.2.1 1; have g2 : w7.cell? ⟨w.heap.size + 1, 2, none⟩ = some (.int .i64 (wi sc)) := blk_cell HT7.out.2.1 2; have g3 : w7.cell? ⟨w.heap.size + 1, 3, none⟩ = some (.int .i64 (wi sd)) := blk_cell HT7.out.2.1 3; have g4 : w7.cell? ⟨w.heap.size + 1, 4, none⟩ = some (.int .i64 (wi se)) := blk_cell HT7.out.2.1 4; have g5 : w7.cell? ⟨w.heap.size + 1, 5, none⟩ = some (.int .i64 (wi sf)) := blk_cell HT7.out.2.1 5; have g6 : w7.cell? ⟨w.heap.size + 1, 6, none⟩ = some (.int .i64 (wi sg)) := blk_cell HT7.out.2.1 6; have g7 : w7.cell? ⟨w.heap.size + 1, 7, none⟩ = some (.int .i64 (wi sh)) := blk_cell HT7.out.2.1 7; refine hK.out _ _ ⟨g0, g1, g2, g3, g4, g5, g6, g7⟩ (fun hHeld => ?_); clear hK K; refine norm_ (a' := ?_) ?_ ?_
      rotate_left
      · show Act.put _ (some 23) _ = _
        simp only [Act.put, List.setIfInBounds_toArray, List.set_cons_zero, List.set_cons_succ]
        rfl
      refine last_ (i := 7) (N := none) #[true, true, true, true, true, true, true, true] rfl rfl (by kernel_rfl) (by decide) (fun K hK => ?_); refine skip_ (w1 := ?_) (by rfl) rfl ?_ ?_
      rotate_left
      · go_simp
        rfl
      refine hK.out _ _ ?_; clear hK K; refine done_ (by kernel_rfl) ?_; clear hHeld h0 h1 h2 h3 h4 h5 h6 h7; have HT8 := Aside0.mk (HT7.out.set8 t); clear g0 g1 g2 g3 g4 g5 g6 g7 f0 f1 f2 f3 f4 f5 f6 f7; generalize (((((((w7.setCell ⟨w.heap.size + 1, 0, none⟩ (.int .i64 (wi t.a))).setCell ⟨w.heap.size + 1, 1, none⟩ (.int .i64 (wi t.b))).setCell ⟨w.heap.size + 1, 2, none⟩ (.int .i64 (wi t.c))).setCell ⟨w.heap.size + 1, 3, none⟩ (.int .i64 (wi t.d))).setCell ⟨w.heap.size + 1, 4, none⟩ (.int .i64 (wi t.e))).setCell ⟨w.heap.size + 1, 5, none⟩ (.int .i64 (wi t.f))).setCell ⟨w.heap.size + 1, 6, none⟩ (.int .i64 (wi t.g))).setCell ⟨w.heap.size + 1, 7, none⟩ (.int .i64 (wi t.h)) = w8 at *; go_wp2; go_roundw
      case measure => have := HQ.out; simp [intOf]; omega
      case rel => exact ⟨q, t, HQ.out.1, HQ.out.2.1, rfl, by rw [HTt.out]; exact HNx, HT8⟩
    · obtain rfl : p = L.length := by omega
      have HE : Aside0 (shaV l = digL ⟨sa, sb, sc, sd, se, sf, sg, sh⟩) := ⟨by rw [← HSh.out, ← HAb.out, List.drop_length, absorb_lt (by decide)]⟩; clear HAb hlt hj hp64 HSh; generalize (⟨sa, sb, sc, sd, se, sf, sg, sh⟩ : St) = s at *; go_wp2_with (fail); rw [z32_lit]; have HO1 : Aside0 (ROutW w s wr.heap.size (outL (digL s) 0) (wr.alloc (.cells (dA (List.replicate 32 0)) 23))) := ⟨((bel_alloc (Below.refl _ _) _).block _ (blk_lt HT.out.1)).trans HT.out.1, ((bel_alloc (Below.refl _ _) _).block _ (blk_lt HT.out.2.1)).trans HT.out.2.1, heap_alloc_new _ _, below_step HT.out.2.2.2 (bel_alloc (Below.refl _ _) _), blk_lt HT.out.2.1⟩; generalize wr.heap.size = g6 at *; generalize wr.alloc (.cells (dA (List.replicate 32 0)) 23) = w8 at *; clear HT
      go_loopw [7] (fun v7 wr' => ∃ i : Nat, i ≤ 32 ∧ v7 = .int .i64 (i : Int) ∧ Aside0 (ROutW w s g6 (outL (digL s) i) wr')) (fun v7 _ => 32 - (intOf v7).toNat)
      case atStart => exact ⟨0, Nat.zero_le _, rfl, HO1⟩
      case round =>
        clear HO1; obtain ⟨i, hi, rfl, HT⟩ := hrel
        by_cases hlt : i < 32
        · have hltI : (i : Int) < 32 := by omega
          obtain ⟨k, m4, e8, ee, pp, x, y, z, hk, b1, b2, b3, b4, b5, b6, HP, b8, hx, b9, b10, b11, b12, b13, b14, b15, HZ⟩ := byteN s i hlt; have HP := Aside0.mk HP; have HO := Aside0.mk (outL_set (digL s) (digL_length s) i hlt); rw [HZ] at HO
          have hkI : (k : Int) < 8 := by omega
          have hpn : pp ≠ 0 := by omega
          have hpb : (pp == 0) = false := by rw [beq_eq_false_iff_ne]; exact hpn
          have h1 : wr.cell? ⟨w.heap.size + 1, k, none⟩ = some (.int .i64 x) := by rw [← hx]; exact (blk_cell HT.out.2.1 k).trans (nArr_get _ k hk)
          have HOl := Aside0.mk (outL_length (digL s) (digL_length s) i hi); clear hx HZ; go_wp2; refine wp_region_quiet_store 14 (by kernel_rfl) rfl rfl (by kernel_rfl) ?_; simp only [List.take_succ_cons, List.take_zero, List.cons_append, List.nil_append]
          repeat (go_big_quiet_step ((go_at_call 43; exact power_q _ _ _ _ _ HP.out)))
          refine wpQuiet_nil ?_; rintro w2 ⟨nq2, rfl⟩; have HW2 : Aside0 _ := ⟨HT.out.below (pw_below_drewN (Below.refl _ _) nq2)⟩; clear h1 HT b1 b2 b3 b4 b5 b6 b8 b9 b10 b11 b12 b13 b14 b15 hpn hpb; have hfz2 : (wr.drewN nq2).frozen? ⟨g6, i, none⟩ = false := blk_frozen HW2.out.2.2.1 i; have hst2 : ∃ v, (wr.drewN nq2).cell? ⟨g6, i, none⟩ = some v := ⟨_, (blk_cell HW2.out.2.2.1 i).trans (dA_at _ _ (by rw [HOl.out]; exact hlt))⟩; obtain ⟨v2, hst2⟩ := hst2; generalize wr.drewN nq2 = w2 at *; go_wp2; go_roundw
          case measure => simp [intOf]; omega
          case rel => exact ⟨i + 1, by omega, by go_num, ⟨by rw [← HO.out]; exact HW2.out.set i z⟩⟩
        · obtain rfl : i = 32 := by omega
          rw [outL_end _ (digL_length s), ← HE.out] at HT; clear hi hlt; obtain ⟨d, hd⟩ : ∃ d, d = shaV l := ⟨_, rfl⟩; rw [← hd] at HD1 HD2 HT; have Hd := Aside0.mk hd; clear hd HE; have HI3 := Aside0.mk (dA_one d); have HTa : Aside0 (wr.heap[g6]? = some (.cells (dA d) 23 (0, 0))) := ⟨HT.out.2.2.1⟩; have HTb : Aside0 (wr.heap[w.heap.size]? = some (.cells (dA (List.replicate 32 0)) 23 (0, 0))) := ⟨HT.out.1⟩
          go_wp2_with (first
            | (with_reducible refine wpList_load_row rfl 23 (.tmp 6) rfl g6 rfl 23 (dA d) (0, 0) _ HTa.out Tryd.underlying23 rfl HD1.out ?_)
            | (with_reducible refine wpList_store_row rfl 23 (.tmp 2) (.tmp 42) rfl w.heap.size (dA d) rfl rfl 23 _ HTb.out HD1.out HD2.out HI3.out ?_))
          exact bodyPost_ret (results_cell_row Tryd.results25 _ _ w.heap.size 23 (dA d) (0, 0) _ rfl (setRow_heap _ _ _ _ _ _ HT.out.1) Tryd.underlying23 rfl HD1.out) rfl ⟨by rw [Hd.out], below_setRow HT.out.2.2.2.1 (Nat.le_refl _) _⟩
end Go.Proofs.YtdmeocoehahopaaDoor.Sha
namespace Go.Proofs.YtdmeocoehahopaaDoor.Ref
open Go.RowKit Go.Proofs.YtdmeocoehahopaaDoorW.PrintWords Go.Proofs.YtdmeocoehahopaaDoorW.PrintLast Go.Proofs.YtdmeocoehahopaaDoorW.PrintMore Go.Proofs.YtdmeocoehahopaaDoor.K Go.Proofs.YtdmeocoehahopaaDoor.Codec
set_option maxHeartbeats 1000000 in
set_option maxRecDepth 100000 in
theorem rjoin_calls (A0 : Option Addr) (c0 : Nat) (l0 : List (List Int)) (w : World) (hr0 : Kd.C (Kd.slice 5 (Kd.int .u8)) w A0 l0.length l0) (hb : (joinL l0).length ≤ 140737488355328) :
    Calls Tryd.prog 26 #[.slice A0 l0.length c0] w fun e w' => ∃ v0_ : Value, e = .returned (v0_) ∧ Kd.R (Kd.int .u8) 5 w' w.heap.size (fun _ => True) v0_ (joinL l0) ∧ Below w.heap.size w w' := by
  have HR0 := Aside0.mk hr0; have HBd := Aside0.mk hb; have hm := hr0.2.1; clear hr0 hb
  go_enter Tryd.func26, Tryd.ntmps26
  go_wp2
  go_loopw [3, 4] (fun v3 v4 w' => ∃ (k : Nat), k ≤ l0.length ∧ v4 = .int .i64 k ∧ Aside0 (w'.ownsRow w.heap.size 5 1 v3 (joinL (l0.take k)).length (nums .u8 (joinL (l0.take k)))) ∧ Aside0 (Below w.heap.size w w')) (fun _ v4 _ => l0.length - (intOf v4).toNat)
  case atStart => exact ⟨0, Nat.zero_le _, rfl, ⟨own_nil _ _ _ _⟩, ⟨Below.refl _ _⟩⟩
  case round =>
    obtain ⟨k, hk, rfl, HO, HB⟩ := hrel
    by_cases hlt : k < l0.length
    · obtain ⟨ad, A1, c1, rfl, hxa, hl1, hi1⟩ := row_get HR0.out k hlt; have HX := Aside0.mk hxa; have hx := hxa wr HB.out; clear hxa; have HS := Aside0.mk (joinL_snoc l0 k hlt); have HLe := Aside0.mk (joinL_le l0 (k + 1)); have hm1 := hi1.2.1; obtain ⟨A3, c3, rfl⟩ := own_slice HO.out; generalize l0.getD k [] = p at *; generalize hxs : joinL (l0.take k) = xs at *; clear hxs; have HR1 := Aside0.mk (reads_int hi1)
      have HLim : Aside0 (xs.length + 4 + p.length ≤ 140737488355328) := ⟨by
        have h1 := congrArg List.length HS.out; have h2 := HLe.out; have h3 := HBd.out; simp only [List.length_append, be4, List.length_cons, List.length_nil] at h1
        omega⟩
      clear hi1 hl1
      go_wp2_with (first
        | (at_builtin; refine print_append_row (w0 := w) w.heap.size rfl (.tmp 17) (.tmp 33) 57 5 .u8 1 rfl Tryd.underlying57 info_u8 (by decide) (.slice A3 xs.length c3) xs (be4 p.length) (some ⟨wr.heap.size, 0, none⟩) 4 4 rfl rfl (HO.out.alloc _) (reads_lit wr .u8 5 (be4 p.length) (by simp [be4])) (bel_alloc HB.out _) (bel_size HB.out _) (by have := HLim.out; omega) ?_; intro v1 w1 ho hb hg hat; have HO1 := Aside0.mk ho; have HB1 := Aside0.mk hb; have hx1 := HX.out w1 hb; clear ho hb hg hat HO)
        | (at_builtin; refine print_append_row (w0 := w) w.heap.size rfl (.tmp 35) (.tmp 39) 57 5 .u8 1 rfl Tryd.underlying57 info_u8 (by decide) v1 (xs ++ be4 p.length) p A1 p.length c1 rfl rfl HO1.out (HR1.out.below HB1.out) HB1.out HB1.out.size (by have := HLim.out; simp only [List.length_append, be4, List.length_cons, List.length_nil]; omega) ?_; intro v2 w2 ho hb hg hat; have HO2 := Aside0.mk ho; have HB2 := Aside0.mk hb; clear ho hb hg hat))
      go_roundw
      case measure => simp [intOf]; omega
      case rel => exact ⟨k + 1, by omega, by go_num, ⟨by rw [HS.out]; exact HO2.out⟩, HB2⟩
    · obtain rfl : k = l0.length := by omega
      go_wp2; go_ret; exact ⟨_, rfl, R_int (by rw [← List.take_length (l := l0)]; simpa using HO.out), HB.out⟩
theorem rjoin_n (A0 : Option Addr) (n c0 : Nat) (l0 : List (List Int)) (w : World) (hr0 : Kd.C (Kd.slice 5 (Kd.int .u8)) w A0 n l0) (hb : (joinL l0).length ≤ 140737488355328) :
    Calls Tryd.prog 26 #[.slice A0 n c0] w fun e w' => ∃ v0_ : Value, e = .returned (v0_) ∧ Kd.R (Kd.int .u8) 5 w' w.heap.size (fun _ => True) v0_ (joinL l0) ∧ Below w.heap.size w w' := by
  obtain rfl := hr0.1; exact rjoin_calls A0 c0 l0 w hr0 hb
end Go.Proofs.YtdmeocoehahopaaDoor.Ref
namespace Go.Proofs.YtdmeocoehahopaaDoor.Draw
open Go.RowKit Go.Proofs.YtdmeocoehahopaaDoorW.PrintWords Go.Proofs.YtdmeocoehahopaaDoorW.PrintLast Go.Proofs.YtdmeocoehahopaaDoorW.PrintMore Go.Proofs.YtdmeocoehahopaaDoor.K Go.Proofs.YtdmeocoehahopaaDoor.Sha Go.Proofs.YtdmeocoehahopaaDoor.Codec Go.Proofs.YtdmeocoehahopaaDoor.RI Go.Proofs.YtdmeocoehahopaaDoor.Num Go.Proofs.YtdmeocoehahopaaDoor.Ref
theorem rnumbers_n (A0 : Option Addr) (n c0 : Nat) (l0 : List Int) (w : World) (hr0 : Kd.C (Kd.int .i64) w A0 n l0) (hc : n ≤ c0) (hl : ∀ x ∈ l0, I64 x) (hb : l0.length * 8 ≤ 1000000) :
    Calls Tryd.prog 27 #[.slice A0 n c0] w fun e w' => ∃ v0_ : Value, e = .returned (v0_) ∧ Kd.R (Kd.int .u8) 5 w' w.heap.size (fun _ => True) v0_ (numsL l0) ∧ Below w.heap.size w w' := by
  obtain rfl := hr0.1; exact (PDrawNumbers.cupelref02_Numbers.calls _ A0 c0 l0 _ w hr0 hc (numbers_f l0 hl hb)).mono fun e w' h => h
theorem rhor_lt {D : List Int} (hD : ∀ x ∈ D, 0 ≤ x ∧ x < 256) : ∀ k, 0 ≤ rhor D k ∧ rhor D k < 128 * 256 ^ k
  | 0 => by simp only [rhor]; omega
  | k + 1 => by
    have h1 := rhor_lt hD k; have h2 := byte_at hD (k + 1); simp only [rhor]; have e : (256 : Int) ^ (k + 1) = 256 ^ k * 256 := Int.pow_succ ..; rw [e]
    omega
theorem rhor_step {D : List Int} (hD : ∀ x ∈ D, 0 ≤ x ∧ x < 256) (k : Nat) (hk : k < 7) : IntKind.i64.wrap (256 * rhor D k) = 256 * rhor D k ∧ IntKind.i64.wrap (256 * rhor D k + D.getD (k + 1) 0) = rhor D (k + 1) := by
  have h1 := rhor_lt hD k; have h2 := byte_at hD (k + 1)
  have h3 : (256 : Int) ^ k ≤ 256 ^ 6 := by
    have : ((256 ^ k : Nat) : Int) ≤ ((256 ^ 6 : Nat) : Int) := Int.ofNat_le.2 (Nat.pow_le_pow_right (by decide) (by omega))
    rwa [Int.natCast_pow, Int.natCast_pow] at this
  have h4 : (256 : Int) ^ 6 = 281474976710656 := by decide
  rw [show rhor D (k + 1) = 256 * rhor D k + D.getD (k + 1) 0 from rfl, IntKind.wrap_i64, IntKind.wrap_i64]
  omega
set_option maxHeartbeats 4000000 in
set_option maxRecDepth 100000 in
theorem rnumber_calls (d : List Int) (c : Int) (w : World) (hd : d.length = 32) (hby : ∀ x ∈ d, 0 ≤ x ∧ x < 256) (hI : -9223372036854775808 ≤ c ∧ c < 9223372036854775808) :
    Calls Tryd.prog 14 #[.agg (dA d), .int .i64 c] w fun e w' => e = .returned (.int .i64 (numV d c)) ∧ Below w.heap.size w w' := by
  have HBy := Aside0.mk hby; have HDl := Aside0.mk hd; have HI := Aside0.mk hI; clear hI hby hd
  go_enter Tryd.func14, Tryd.ntmps14
  go_upto_region 1 with fail
  have HB1 : Aside0 (Below w.heap.size w (w.alloc (.cells (dA d) 23))) := ⟨bel_alloc (Below.refl _ _) _⟩; have HR1 : Aside0 ((w.alloc (.cells (dA d) 23)).heap[w.heap.size]? = some (.cells (dA d) 23 (0, 0))) := ⟨heap_alloc_new _ _⟩; generalize w.alloc (.cells (dA d) 23) = w1 at *
  go_cut [5] (fun s5 wx => ∃ g, s5 = .pointer (some ⟨g, 0, none⟩) ∧ wx.heap[g]? = some (.cells (dA (shaV (joinL [d, numsL [c]]))) 23 (0, 0)) ∧ Below w.heap.size w wx)
  case first =>
    refine wp_region_mono 8 [false, false, false, false, false, true, false, false, true, true, true, true, true, true, true] (by kernel_rfl) (by kernel_rfl) (fun W => Below w1.heap.size w1 W) (fun W W' => Below W.heap.size W W') (NumF d c w w1) (fun i x W W' _ hb h => h.step i x W W' hb) (below_drew (Below.refl _ _)) ?_; refine ⟨?_, ?_, ?_, ?_, ?_, ?_, ?_, ?_, ?_, trivial⟩
    · intro v W hb hd; refine step_list fun K hK => ?_; simp only [fill_lit, fillL, Act.put, List.setIfInBounds_toArray, List.set_cons_zero, List.set_cons_succ, Nat.reduceAdd] at hK ⊢; clear hd; go_wp2; exact ⟨hb, Below.refl _ _, rfl⟩
    · intro v W hb hd; refine step_list fun K hK => ?_; simp only [fill_lit, fillL, Act.put, List.setIfInBounds_toArray, List.set_cons_zero, List.set_cons_succ, Nat.reduceAdd] at hK ⊢; clear hd; go_wp2; exact ⟨hb, Below.refl _ _, rfl⟩
    · intro v W hb hd; have h1 : v 9 = .int .i64 c := hd 1 (by kernel_rfl); refine step_list fun K hK => ?_; simp only [fill_lit, fillL, Act.put, List.setIfInBounds_toArray, List.set_cons_zero, List.set_cons_succ, Nat.reduceAdd] at hK ⊢; rw [h1] at hK ⊢; clear hd h1; go_wp2; exact ⟨below_alloc hb _, below_alloc (Below.refl _ _) _, W.heap.size, rfl, C_int (reads_lit W .i64 3 [c] (by simp))⟩
    · intro v W hb hd; have h2 : ∃ g, v 10 = .slice (some ⟨g, 0, none⟩) 1 1 ∧ Kd.C (Kd.int .i64) W (some ⟨g, 0, none⟩) 1 [c] := hd 2 (by kernel_rfl); obtain ⟨g, h1, hC⟩ := h2; have HC := Aside0.mk hC; refine step_list fun K hK => ?_; simp only [fill_lit, fillL, Act.put, List.setIfInBounds_toArray, List.set_cons_zero, List.set_cons_succ, Nat.reduceAdd] at hK ⊢; rw [h1] at hK ⊢; clear hd h1 hC; go_wp2_with (fail); refine (rnumbers_n (some ⟨g, 0, none⟩) 1 1 [c] W HC.out (by decide) (by simp; exact HI.out) (by simp)).mono ?_; rintro e W' ⟨v0, rfl, hR, hb'⟩; have HR := Aside0.mk hR; have HB' := Aside0.mk hb'; clear hR hb'; go_wp2_with (fail); exact ⟨below_step hb HB'.out, HB'.out, Kd.R_lower HR.out (Nat.le_trans HB1.out.size hb.size)⟩
    · intro v W hb hd; have h0 : v 8 = .slice (some ⟨w.heap.size, 0, none⟩) 32 32 := hd 0 (by kernel_rfl); have h3 : Kd.R (Kd.int .u8) 5 W w.heap.size (fun _ => True) (v 11) (numsL [c]) := hd 3 (by kernel_rfl); obtain ⟨A, cc, hA⟩ := Kd.R_slice h3; rw [hA] at h3; have HR := Aside0.mk h3; refine step_list fun K hK => ?_; simp only [fill_lit, fillL, Act.put, List.setIfInBounds_toArray, List.set_cons_zero, List.set_cons_succ, Nat.reduceAdd] at hK ⊢; rw [h0, hA] at hK ⊢; clear hd h0 h3 hA; go_wp2; refine ⟨below_alloc hb _, below_alloc (Below.refl _ _) _, W.heap.size, rfl, ?_⟩
      exact rows_lit W 57 [.slice (some ⟨w.heap.size, 0, none⟩) 32 32, .slice A (numsL [c]).length cc] [d, numsL [c]] (by simp) (fun j x hj => by
        match j, hj with
        | 0, hj =>
          obtain rfl : d = x := by simpa using hj
          exact ⟨_, 32, by rw [HDl.out]; rfl, by rw [HDl.out]; exact Nat.le_refl _, by rw [HDl.out]; exact dig_reads ((hb.block _ (blk_lt HR1.out)).trans HR1.out) HDl.out (by decide)⟩
        | 1, hj =>
          obtain rfl : numsL [c] = x := by simpa using hj
          exact ⟨A, cc, rfl, (Kd.R_reads' HR.out).2.1, (Kd.R_reads' HR.out).2.2⟩
        | j + 2, hj => simp at hj)
    · intro v W hb hd; have h2 : ∃ g, v 12 = .slice (some ⟨g, 0, none⟩) 2 2 ∧ Kd.C (Kd.slice 5 (Kd.int .u8)) W (some ⟨g, 0, none⟩) 2 [d, numsL [c]] := hd 4 (by kernel_rfl); obtain ⟨g, h1, hC⟩ := h2; have HC := Aside0.mk hC; refine step_list fun K hK => ?_; simp only [fill_lit, fillL, Act.put, List.setIfInBounds_toArray, List.set_cons_zero, List.set_cons_succ, Nat.reduceAdd] at hK ⊢; rw [h1] at hK ⊢; clear hd h1 hC; go_wp2_with (fail); refine (rjoin_calls (some ⟨g, 0, none⟩) 2 [d, numsL [c]] W HC.out (by rw [join2_len HDl.out]; decide)).mono ?_; rintro e W' ⟨v0, rfl, hR, hb'⟩; have HR := Aside0.mk hR; have HB' := Aside0.mk hb'; clear hR hb'; go_wp2_with (fail); exact ⟨below_step hb HB'.out, HB'.out, Kd.R_lower HR.out (Nat.le_trans HB1.out.size hb.size)⟩
    · intro v W hb hd; have h3 : Kd.R (Kd.int .u8) 5 W w.heap.size (fun _ => True) (v 13) (joinL [d, numsL [c]]) := hd 5 (by kernel_rfl); obtain ⟨A, cc, hA⟩ := Kd.R_slice h3; rw [hA] at h3; have HR := Aside0.mk h3; have HBw : Aside0 (Below w.heap.size w W) := ⟨below_step HB1.out hb⟩; refine step_list fun K hK => ?_; simp only [fill_lit, fillL, Act.put, List.setIfInBounds_toArray, List.set_cons_zero, List.set_cons_succ, Nat.reduceAdd] at hK ⊢; rw [hA] at hK ⊢; clear hd h3 hA; go_wp2_with (fail); refine (rsum_calls A cc (joinL [d, numsL [c]]) W (Kd.R_reads' HR.out).2.2 (Kd.R_reads' HR.out).2.1 (join2_bytes HBy.out c) (by rw [join2_len HDl.out]; decide)).mono ?_; rintro e W' ⟨rfl, hb'⟩; have HB' := Aside0.mk hb'; clear hb'; go_wp2_with (fail); exact ⟨below_step hb HB'.out, HB'.out, rfl⟩
    · intro v W hb hd; refine step_list fun K hK => ?_; simp only [fill_lit, fillL, Act.put, List.setIfInBounds_toArray, List.set_cons_zero, List.set_cons_succ, Nat.reduceAdd] at hK ⊢; clear hd; go_wp2; rw [z32_lit]; exact ⟨below_alloc hb _, below_alloc (Below.refl _ _) _, W.heap.size, rfl, heap_alloc_new _ _, hb.size⟩
    · intro v W hb hd; have h6 : v 14 = .agg (dA (shaV (joinL [d, numsL [c]]))) := hd 6 (by kernel_rfl); have h7 : ∃ g, v 5 = .pointer (some ⟨g, 0, none⟩) ∧ W.heap[g]? = some (.cells (dA (List.replicate 32 0)) 23 (0, 0)) ∧ w1.heap.size ≤ g := hd 7 (by kernel_rfl); obtain ⟨g, hp, hz, hg⟩ := h7; have HZ := Aside0.mk hz; have HGe := Aside0.mk hg; have HBw : Aside0 (Below w.heap.size w W) := ⟨below_step HB1.out hb⟩; have HD1 := Aside0.mk (dig_info (shaV_length (joinL [d, numsL [c]]))); have HD2 : Aside0 ((dA (List.replicate 32 0)).size = (dA (shaV (joinL [d, numsL [c]]))).size) := ⟨by rw [dA_size, dA_size, shaV_length]; rfl⟩; have HI3 := Aside0.mk (dA_one (shaV (joinL [d, numsL [c]]))); have HG1 : Aside0 (w.heap.size ≤ g) := ⟨Nat.le_trans HB1.out.size hg⟩; refine step_list fun K hK => ?_; simp only [fill_lit, fillL, Act.put, List.setIfInBounds_toArray, List.set_cons_zero, List.set_cons_succ, Nat.reduceAdd] at hK ⊢; rw [h6, hp] at hK ⊢; clear hd h6 hp hz hg; generalize shaV (joinL [d, numsL [c]]) = D at *; go_wp2_with (with_reducible refine wpList_store_row rfl 23 (.tmp 5) (.tmp 14) rfl g (dA D) rfl rfl 23 _ HZ.out HD1.out HD2.out HI3.out ?_); refine hK undef _ ?_; rw [if_pos trivial]; go_wp2
      go_meet
      case rel => exact ⟨g, rfl, setRow_heap _ _ _ _ _ _ HZ.out, below_setRow HBw.out HG1.out _⟩
  case rest =>
    obtain ⟨g, rfl, hg, hb⟩ := hcut; have HG := Aside0.mk hg; have HB := Aside0.mk hb; have HDy : Aside0 (∀ x ∈ shaV (joinL [d, numsL [c]]), 0 ≤ x ∧ x < 256) := ⟨shaV_byte _⟩; have HDn : Aside0 ((shaV (joinL [d, numsL [c]])).length = 32) := ⟨shaV_length _⟩; have HV : Aside0 (numV d c = rhor (shaV (joinL [d, numsL [c]])) 7) := ⟨rfl⟩; clear hg hb; have HH : Aside0 (∀ k, k < 7 → 256 * rhor (shaV (joinL [d, numsL [c]])) k + (shaV (joinL [d, numsL [c]])).getD (k + 1) 0 = rhor (shaV (joinL [d, numsL [c]])) (k + 1)) := ⟨fun k _ => rfl⟩; generalize shaV (joinL [d, numsL [c]]) = D at *; have hc0 : wc.cell? ⟨g, 0, none⟩ = some (.int .u8 (D.getD 0 0)) := (blk_cell HG.out 0).trans (dA_get D 0 (by rw [HDn.out]; decide)); have hr0 : 0 ≤ D.getD 0 0 := (byte_at HDy.out 0).1; have hr1 : D.getD 0 0 < 256 := (byte_at HDy.out 0).2; have HR0 : Aside0 (D.getD 0 0 % 128 = rhor D 0) := ⟨rfl⟩; generalize D.getD 0 0 = x0 at *; go_wp2_with (fail); rw [HR0.out]
    go_loop [6, 7] (fun n i => ∃ k : Nat, k ≤ 7 ∧ i = .int .i64 ((k : Int) + 1) ∧ n = .int .i64 (rhor D k)) (fun _ i => 8 - (intOf i).toNat)
    case atStart => exact ⟨0, by decide, rfl, rfl⟩
    case round =>
      obtain ⟨k, hk, rfl, rfl⟩ := hrel; clear hc0 hr0 hr1
      by_cases hlt : k < 7
      · obtain ⟨s1, s2⟩ := rhor_step HDy.out k hlt; have hc : wc.cell? ⟨g, k + 1, none⟩ = some (.int .u8 (D.getD (k + 1) 0)) := (blk_cell HG.out (k + 1)).trans (dA_get D (k + 1) (by rw [HDn.out]; omega)); have hx0 := (byte_at HDy.out (k + 1)).1; have hx1 := (byte_at HDy.out (k + 1)).2; have HS : Aside0 (rhor D (k + 1) = rhor D (k + 1)) := ⟨rfl⟩; obtain ⟨y, hy⟩ : ∃ y, y = rhor D (k + 1) := ⟨_, rfl⟩; rw [← hy] at s2; have HY := Aside0.mk hy; clear hy HS; generalize D.getD (k + 1) 0 = z at *; generalize rhor D k = h at *; go_wp2; refine ⟨⟨k + 1, by omega, by go_num, by rw [← HY.out]⟩, by simp [intOf]; omega⟩
      · obtain rfl : k = 7 := by omega
        go_wp2; go_ret; exact ⟨congrArg (fun x => Ending.returned (Value.int .i64 x)) HV.out.symm, HB.out⟩
end Go.Proofs.YtdmeocoehahopaaDoor.Draw
namespace Go.Proofs.YtdmeocoehahopaaDoor.Draw
open Go.RowKit Go.Proofs.YtdmeocoehahopaaDoorW.PrintWords Go.Proofs.YtdmeocoehahopaaDoorW.PrintLast Go.Proofs.YtdmeocoehahopaaDoorW.PrintMore Go.Proofs.YtdmeocoehahopaaDoor.K Go.Proofs.YtdmeocoehahopaaDoor.Sha Go.Proofs.YtdmeocoehahopaaDoor.Codec Go.Proofs.YtdmeocoehahopaaDoor.RI
theorem end_iff {n x : Int} (hn : 0 < n) : x - x % n ≤ 9223372036854775807 - (n - 1) ↔ x < endOf n := by
  have e1 := Int.emod_add_mul_ediv x n; have e2 := Int.emod_add_mul_ediv 9223372036854775808 n; have h1 : x / n < 9223372036854775808 / n ↔ x < 9223372036854775808 / n * n := Int.ediv_lt_iff_lt_mul hn; have h2 : x / n + 1 ≤ 9223372036854775808 / n ↔ (x / n + 1) * n ≤ 9223372036854775808 := Int.le_ediv_iff_mul_le hn; rw [Int.add_mul, Int.one_mul] at h2; rw [Int.mul_comm n] at e1 e2; unfold endOf; generalize 9223372036854775808 / n * n = Q at *; generalize x / n * n = X at *; generalize 9223372036854775808 / n = q at *; generalize x / n = y at *
  omega
def RBelowEnd (d : List Int) (n c : Int) (e : Ending) : Prop := ∀ x er c', belowV d n c = (x, er, c') → e = .returned (.tuple #[.int .i64 x, .int .i64 (if er = 0 then c' - c else 0), .int .i64 er])
set_option maxHeartbeats 8000000 in
set_option maxRecDepth 100000 in
theorem rbelow_calls (d : List Int) (n c : Int) (w : World) (hd : d.length = 32) (hby : ∀ x ∈ d, 0 ≤ x ∧ x < 256) (h0 : 0 ≤ c) (h1 : c ≤ 9223372036854775807) (hn0 : -9223372036854775808 ≤ n) (hn : n ≤ 9223372036854775807) :
    Calls Tryd.prog 18 #[.agg (dA d), .int .i64 c, .int .i64 n] w fun e w' => RBelowEnd d n c e ∧ Below w.heap.size w w' := by
  have HBy := Aside0.mk hby; have HDl := Aside0.mk hd; have HI := Aside0.mk (dig_info hd); have H0 := Aside0.mk h0; have H1 := Aside0.mk h1; have HB0 : Aside0 (Below w.heap.size w (w.alloc (.cells (dA d) 23))) := ⟨bel_alloc (Below.refl _ _) _⟩; have HR0 : Aside0 ((w.alloc (.cells (dA d) 23)).heap[w.heap.size]? = some (.cells (dA d) 23 (0, 0))) := ⟨heap_alloc_new _ _⟩
  by_cases hlt : n < 1
  · have hltD : decide (n < 1) = true := by simpa using hlt
    have HE : Aside0 (RBelowEnd d n c (.returned (.tuple #[.int .i64 0, .int .i64 0, .int .i64 10]))) := ⟨fun x er c' h => by
      unfold belowV at h; rw [if_pos hlt] at h
      cases h
      rfl⟩
    clear hd hby h0 h1 hn hlt hn0
    go_enter Tryd.func18, Tryd.ntmps18
    go_wp2; go_ret3; exact ⟨HE.out, HB0.out⟩
  · have hltD : decide (n < 1) = false := by simpa using hlt
    have hn1 : 1 ≤ n := by omega
    have HN := Aside0.mk hn; have HV : Aside0 (belowV d n c = belowF d n 64 c) := ⟨if_neg hlt⟩; clear hd hby h0 h1 hn hlt hn0
    go_enter Tryd.func18, Tryd.ntmps18
    go_wp2_with (fail); generalize w.alloc (.cells (dA d) 23) = w0 at *
    go_loopw [9] (fun i wr => ∃ k : Nat, k ≤ 64 ∧ i = .int .i64 k ∧ Aside0 (belowF d n 64 c = belowF d n (64 - k) (c + k) ∧ c + k ≤ 9223372036854775807 ∧ Below w.heap.size w wr ∧ wr.heap[w.heap.size]? = some (.cells (dA d) 23 (0, 0)))) (fun i _ => 64 - (intOf i).toNat)
    case atStart => exact ⟨0, by decide, rfl, ⟨by simp, by have := H1.out; omega, HB0.out, HR0.out⟩⟩
    case round =>
      obtain ⟨k, hk, rfl, HR⟩ := hrel
      by_cases hk64 : k < 64
      · have HJ : Aside0 (belowF d n (64 - k) (c + k) = if c + k = 9223372036854775807 then (0, 17, c + k) else if numV d (c + k) < endOf n then (numV d (c + k) % n, 0, c + k + 1) else belowF d n (64 - (k + 1)) (c + k + 1)) := ⟨by
          rw [show 64 - k = (64 - (k + 1)) + 1 by omega]
          rfl⟩
        have hwk : IntKind.i64.wrap (9223372036854775806 - (k : Int)) = 9223372036854775806 - (k : Int) := by rw [IntKind.wrap_i64]; omega
        by_cases hmx : c + k = 9223372036854775807
        · have hgD : decide (9223372036854775806 - (k : Int) < c) = true := by simp; omega
          have HE : Aside0 (RBelowEnd d n c (.returned (.tuple #[.int .i64 0, .int .i64 0, .int .i64 17]))) := ⟨fun x er c' h => by
            rw [HV.out, HR.out.1, HJ.out, if_pos hmx] at h
            cases h
            rfl⟩
          clear hmx; go_wp2; go_ret3; exact ⟨HE.out, HR.out.2.2.1⟩
        · have hgD : decide (9223372036854775806 - (k : Int) < c) = false := by have := HR.out.2.1; simp; omega
          have hwc : IntKind.i64.wrap (c + (k : Int)) = c + (k : Int) := by have := HR.out.2.1; have := H0.out; rw [IntKind.wrap_i64]; omega
          have HMx : Aside0 (c + k + 1 ≤ 9223372036854775807) := ⟨by have := HR.out.2.1; omega⟩; have HNe := Aside0.mk hmx; have HR1 := Aside0.mk HR.out.2.2.2; clear hmx; go_wp2_with (with_reducible refine wpList_load_row rfl 23 (.tmp 3) rfl w.heap.size rfl 23 (dA d) (0, 0) _ HR1.out Tryd.underlying23 rfl HI.out ?_); refine (rnumber_calls d (c + k) wr HDl.out HBy.out (by have := HR.out.2.1; have := H0.out; omega)).mono ?_; rintro e w1 ⟨rfl, hb⟩; have HB1 := Aside0.mk (below_step HR.out.2.2.1 hb); have HR2 : Aside0 (w1.heap[w.heap.size]? = some (.cells (dA d) 23 (0, 0))) := ⟨(hb.block _ (blk_lt HR1.out)).trans HR1.out⟩; clear hb hgD hwc hwk; have hr := numV_range d (c + k); have hiff := end_iff (n := n) (x := numV d (c + k)) (by omega); have HF : ∃ x, x = numV d (c + k) := ⟨_, rfl⟩; obtain ⟨x, hx⟩ := HF; rw [← hx] at hr hiff ⊢; have hx0 := hr.1
          have he0 : 0 ≤ x % n ∧ x % n ≤ x := ⟨Int.emod_nonneg _ (by omega), by
            have := Int.emod_add_mul_ediv x n; have h3 : 0 ≤ n * (x / n) := Int.mul_nonneg (by omega) (Int.ediv_nonneg hx0 (by omega))
            omega⟩
          have hw1 : IntKind.i64.wrap (x - x % n) = x - x % n := by rw [IntKind.wrap_i64]; omega
          have hw0 : IntKind.i64.wrap (n - 1) = n - 1 := by have := HN.out; rw [IntKind.wrap_i64]; omega
          have hw2 : IntKind.i64.wrap (9223372036854775807 - (n - 1)) = 9223372036854775807 - (n - 1) := by have := HN.out; rw [IntKind.wrap_i64]; omega
          by_cases hle : x < endOf n
          · have hD : decide (x - x % n ≤ 9223372036854775807 - (n - 1)) = true := decide_eq_true (hiff.2 hle)
            have HE : Aside0 (RBelowEnd d n c (.returned (.tuple #[.int .i64 (x % n), .int .i64 ((k : Int) + 1), .int .i64 0]))) := ⟨fun x1 er c' h => by
              rw [HV.out, HR.out.1, HJ.out, if_neg HNe.out, ← hx, if_pos hle] at h
              cases h
              rw [if_pos rfl, show c + (k : Int) + 1 - c = (k : Int) + 1 by omega]⟩
            clear hx hr hiff hle; go_wp2; go_ret3; exact ⟨HE.out, HB1.out⟩
          · have hD : decide (x - x % n ≤ 9223372036854775807 - (n - 1)) = false := decide_eq_false (fun h => hle (hiff.1 h)); have HG : Aside0 (belowF d n 64 c = belowF d n (64 - (k + 1)) (c + (k + 1 : Nat))) := ⟨by rw [HR.out.1, HJ.out, if_neg HNe.out, ← hx, if_neg hle, Int.natCast_add, ← Int.add_assoc]; rfl⟩; clear hx hr hiff hle; go_wp2; go_roundw
            case rel => exact ⟨k + 1, by omega, by go_num, ⟨HG.out, by have := HMx.out; omega, HB1.out, HR2.out⟩⟩
            case measure => simp [intOf]; omega
      · obtain rfl : k = 64 := by omega
        have HE : Aside0 (RBelowEnd d n c (.returned (.tuple #[.int .i64 0, .int .i64 0, .int .i64 14]))) := ⟨fun x er c' h => by
          rw [HV.out, HR.out.1] at h
          cases h
          rfl⟩
        go_wp2; go_ret3; exact ⟨HE.out, HR.out.2.2.1⟩
end Go.Proofs.YtdmeocoehahopaaDoor.Draw
namespace Go.Proofs.YtdmeocoehahopaaDoor.Draw
open Go.RowKit Go.Proofs.YtdmeocoehahopaaDoorW.PrintWords Go.Proofs.YtdmeocoehahopaaDoorW.PrintLast Go.Proofs.YtdmeocoehahopaaDoorW.PrintMore Go.Proofs.YtdmeocoehahopaaDoor.K Go.Proofs.YtdmeocoehahopaaDoor.Sha Go.Proofs.YtdmeocoehahopaaDoor.Codec Go.Proofs.YtdmeocoehahopaaDoor.RI Go.Proofs.YtdmeocoehahopaaDoor.Ten
def RChooseEnd (d ws : List Int) (c : Int) (e : Ending) : Prop := ∀ x er c', chooseV d ws c = (x, er, c') → e = .returned (.tuple #[.int .i64 x, .int .i64 (if er = 0 then c' - c else 0), .int .i64 er])
theorem rchoose_of {d ws : List Int} {c x er c' f : Int} (h : chooseV d ws c = (x, er, c')) (hf : (if er = 0 then c' - c else 0) = f) : RChooseEnd d ws c (.returned (.tuple #[.int .i64 x, .int .i64 f, .int .i64 er])) := fun x1 er1 c1 h1 => by
  rw [h] at h1
  cases h1
  rw [hf]
set_option maxHeartbeats 8000000 in
set_option maxRecDepth 100000 in
theorem rchoose_calls (d : List Int) (A : Option Addr) (cc : Nat) (ws : List Int) (c : Int) (w : World) (hd : d.length = 32) (hby : ∀ x ∈ d, 0 ≤ x ∧ x < 256) (h0 : 0 ≤ c) (h1 : c ≤ 9223372036854775807) (hC : Kd.C (Kd.int .i64) w A ws.length ws) :
    Calls Tryd.prog 20 #[.agg (dA d), .int .i64 c, .slice A ws.length cc] w fun e w' => RChooseEnd d ws c e ∧ Below w.heap.size w w' := by
  have HBy := Aside0.mk hby; have HD := Aside0.mk hd; have HI := Aside0.mk (dig_info hd); have H0 := Aside0.mk h0; have H1 := Aside0.mk h1; have HC := Aside0.mk hC; have hm := hC.2.1; have HB0 : Aside0 (Below w.heap.size w (w.alloc (.cells (dA d) 23))) := ⟨bel_alloc (Below.refl _ _) _⟩; have HR0 : Aside0 ((w.alloc (.cells (dA d) 23)).heap[w.heap.size]? = some (.cells (dA d) 23 (0, 0))) := ⟨heap_alloc_new _ _⟩; clear hd hby h0 h1 hC
  by_cases h2 : ws.length = 0
  · have d2 : decide ((ws.length : Int) < 1) = true := by simp [h2]
    have HE : Aside0 (RChooseEnd d ws c (.returned (.tuple #[.int .i64 0, .int .i64 0, .int .i64 13]))) := ⟨rchoose_of (chooseV_size (.inl h2)) rfl⟩; clear h2
    go_enter Tryd.func20, Tryd.ntmps20
    go_wp2; go_ret3; exact ⟨HE.out, HB0.out⟩
  · have d2 : decide ((ws.length : Int) < 1) = false := by simp; omega
    by_cases h3 : 512 < ws.length
    · have d3 : decide (512 < (ws.length : Int)) = true := by simp; omega
      have HE : Aside0 (RChooseEnd d ws c (.returned (.tuple #[.int .i64 0, .int .i64 0, .int .i64 13]))) := ⟨rchoose_of (chooseV_size (.inr h3)) rfl⟩; clear h2 h3
      go_enter Tryd.func20, Tryd.ntmps20
      go_wp2; go_ret3; exact ⟨HE.out, HB0.out⟩
    · have d3 : decide (512 < (ws.length : Int)) = false := by simp; omega
      have HSz : Aside0 (¬ (ws.length = 0 ∨ 512 < ws.length)) := ⟨by omega⟩
      have hp : 0 < ws.length := by omega
      obtain ⟨ad, rfl, hadz⟩ := int_at HC.out 0 hp; have HMl : Aside0 (ws.length ≤ 512) := ⟨by omega⟩; clear hadz h2 h3
      go_enter Tryd.func20, Tryd.ntmps20
      go_wp2_with (fail); clear d2 d3; generalize w.alloc (.cells (dA d) 23) = w0 at *; have HC0 : Aside0 (Kd.C (Kd.int .i64) w0 (some ad) ws.length ws) := ⟨Kd.C_below HC.out HB0.out⟩
      go_loop [9, 10] (fun s i => ∃ k : Nat, k ≤ ws.length ∧ i = .int .i64 (k : Int) ∧ s = .int .i64 (preV ws k) ∧ Aside0 ((ws.take k).all isWt = true)) (fun _ i => ws.length - (intOf i).toNat)
      case atStart => exact ⟨0, Nat.zero_le _, rfl, rfl, ⟨rfl⟩⟩
      case round =>
        obtain ⟨k, hk, rfl, rfl, HA⟩ := hrel
        by_cases hlt : k < ws.length
        · have hx := int_cell HC0.out (Below.refl _ _) k hlt; have hbd := preV_bd' HA.out hk; have hsc := preV_succ ws k hlt; obtain ⟨x, hxe⟩ : ∃ x, x = ws.getD k 0 := ⟨_, rfl⟩; rw [← hxe] at hx hsc
          have hwk : IntKind.i64.wrap ((k : Int) + 1) = (k : Int) + 1 := by rw [IntKind.wrap_i64]; omega
          by_cases hb1 : x < 0
          · have dx : decide (x < 0) = true := by simpa using hb1
            have HE : Aside0 (RChooseEnd d ws c (.returned (.tuple #[.int .i64 0, .int .i64 0, .int .i64 10]))) := ⟨rchoose_of (chooseV_range HSz.out (all_not hlt (by rw [← hxe]; unfold isWt; simp; omega))) rfl⟩; clear hbd hsc hxe hb1; go_wp2; go_ret3; exact ⟨HE.out, HB0.out⟩
          · have dx : decide (x < 0) = false := by simpa using hb1
            by_cases hb2 : 2147483648 < x
            · have dy : decide (2147483648 < x) = true := by simpa using hb2
              have HE : Aside0 (RChooseEnd d ws c (.returned (.tuple #[.int .i64 0, .int .i64 0, .int .i64 10]))) := ⟨rchoose_of (chooseV_range HSz.out (all_not hlt (by rw [← hxe]; unfold isWt; simp; omega))) rfl⟩; clear hbd hsc hxe hb1 hb2; go_wp2; go_ret3; exact ⟨HE.out, HB0.out⟩
            · have dy : decide (2147483648 < x) = false := by simpa using hb2
              have HA2 : Aside0 ((ws.take (k + 1)).all isWt = true) := ⟨take_all_succ hlt HA.out (by rw [← hxe]; unfold isWt; simp; omega)⟩; obtain ⟨s, hs⟩ : ∃ s, s = preV ws (k + 1) := ⟨_, rfl⟩
              have hws : IntKind.i64.wrap (preV ws k + x) = s := by have := HMl.out; rw [hs, hsc, IntKind.wrap_i64]; omega
              generalize preV ws k = p at *; have HSs := Aside0.mk hs; clear hbd hsc hxe hb1 hb2 hs; go_wp2
              go_round
              case rel => exact ⟨k + 1, by omega, by go_num, by rw [HSs.out], HA2⟩
              case measure => simp [intOf]; omega
        · obtain rfl : k = ws.length := by omega
          have HAll : Aside0 (ws.all isWt = true) := ⟨by have := HA.out; rwa [List.take_length] at this⟩; have hbd := preV_bd HAll.out ws.length (Nat.le_refl _); have HSu : Aside0 (preV ws ws.length = sumV ws) := ⟨preV_all ws⟩; have HL3 := HMl.out; obtain ⟨s, hs⟩ : ∃ s, s = preV ws ws.length := ⟨_, rfl⟩; rw [← hs] at hbd HSu ⊢; clear hs
          by_cases hz : s = 0
          · subst hz; have HE : Aside0 (RChooseEnd d ws c (.returned (.tuple #[.int .i64 0, .int .i64 0, .int .i64 14]))) := ⟨rchoose_of (chooseV_none HSz.out HAll.out HSu.out.symm) rfl⟩; clear hbd; go_wp2; go_ret3; exact ⟨HE.out, HB0.out⟩
          · have dz : (s == 0) = false := by simpa using hz
            have HSn : Aside0 (sumV ws ≠ 0) := ⟨by rw [← HSu.out]; exact hz⟩; have HSb : Aside0 (0 < s ∧ s ≤ 9223372036854775807) := ⟨by omega, by omega⟩; clear hbd hz HL3; go_wp2_with (with_reducible refine wpList_load_row rfl 23 (.tmp 3) rfl w.heap.size rfl 23 (dA d) (0, 0) _ HR0.out Tryd.underlying23 rfl HI.out ?_); refine (rbelow_calls d s c w0 HD.out HBy.out H0.out H1.out (by have := HSb.out.1; omega) HSb.out.2).mono ?_; rintro e w1 ⟨he, hb⟩; obtain ⟨⟨x, er, c'⟩, hp3⟩ : ∃ p, belowV d s c = p := ⟨_, rfl⟩; have he2 := he _ _ _ hp3; have HR := Aside0.mk hp3; have HB1 := Aside0.mk (below_step HB0.out hb); have HC1 := Aside0.mk (Kd.C_below HC0.out hb); clear he hb hp3 HA hlt
            by_cases her : er = 0
            · subst her; rw [if_pos rfl] at he2; subst he2; have hxr := belowV_x HSb.out.1 HR.out; have HE : Aside0 (RChooseEnd d ws c (.returned (.tuple #[.int .i64 (atL ws x : Int), .int .i64 (c' - c), .int .i64 0]))) := ⟨rchoose_of (chooseV_ok HSz.out HAll.out HSn.out (by rw [← HSu.out]; exact HR.out)) (if_pos rfl)⟩; have HI0 : Aside0 (AtInv ws x 0) := ⟨AtInv.start hp hxr.1 (by rw [← HSu.out]; exact hxr.2)⟩; have HXx : Aside0 (x ≤ 9223372036854775807) := ⟨by have := HSb.out.2; omega⟩; have HX0 := hxr.1; obtain ⟨df, hdf⟩ : ∃ df, df = c' - c := ⟨_, rfl⟩; rw [← hdf] at HE ⊢; clear hdf HR hxr dz; go_wp2_with (fail)
              go_loop [11, 14] (fun s a => ∃ k : Nat, a = .int .i64 (k : Int) ∧ s = .int .i64 (x - preV ws k) ∧ Aside0 (AtInv ws x k)) (fun _ a => ws.length - (intOf a).toNat)
              case atStart => exact ⟨0, rfl, by rw [preV_zero, Int.sub_zero], HI0⟩
              case round =>
                obtain ⟨k, rfl, rfl, HIv⟩ := hrel; have hkl := HIv.out.1; have HLn := HMl.out; have hx1 := int_cell HC1.out (Below.refl _ _) k hkl; have hs1 := preV_succ ws k hkl; have hge := HIv.out.2.2.1; obtain ⟨y, hy⟩ : ∃ y, y = ws.getD k 0 := ⟨_, rfl⟩; have hyb := wt_get HAll.out k; rw [← hy] at hx1 hs1 hyb; obtain ⟨p, hpe⟩ : ∃ p, p = preV ws k := ⟨_, rfl⟩; obtain ⟨x1, hx1e⟩ : ∃ x1, x1 = x - preV ws k := ⟨_, rfl⟩; obtain ⟨x2, hx2e⟩ : ∃ x2, x2 = x - preV ws (k + 1) := ⟨_, rfl⟩; rw [← hx1e]
                by_cases hle : preV ws (k + 1) ≤ x
                · have HI2 := Aside0.mk (HIv.out.next hle)
                  have dle : decide (y ≤ x1) = true := by simp; omega
                  have hws : IntKind.i64.wrap (x1 - y) = x2 := by have := HXx.out; have := preV_bd HAll.out k (by omega); rw [IntKind.wrap_i64]; omega
                  have hwk : IntKind.i64.wrap ((k : Int) + 1) = (k : Int) + 1 := by rw [IntKind.wrap_i64]; omega
                  have HX2 := Aside0.mk hx2e; clear hle hs1 hy hpe hx1e hx2e hge hyb; go_wp2
                  go_round
                  case rel => exact ⟨k + 1, by go_num, by rw [HX2.out], HI2⟩
                  case measure => simp [intOf]; omega
                · have dle : decide (y ≤ x1) = false := by simp; omega
                  have HF : Aside0 (RChooseEnd d ws c (.returned (.tuple #[.int .i64 (k : Int), .int .i64 df, .int .i64 0]))) := ⟨by have := HE.out; rwa [HIv.out.done (by omega)] at this⟩; clear hle hs1 hy hpe hx1e hx2e hge hyb; go_wp2; go_ret3; exact ⟨HF.out, HB1.out⟩
            · rw [if_neg her] at he2; subst he2; have HE : Aside0 (RChooseEnd d ws c (.returned (.tuple #[.int .i64 0, .int .i64 0, .int .i64 er]))) := ⟨rchoose_of (chooseV_err HSz.out HAll.out HSn.out (by rw [← HSu.out]; exact HR.out) her) (if_neg her)⟩
              have dn : (er != 0) = true := by simpa using her
              clear her HR; go_wp2; go_ret3; exact ⟨HE.out, HB1.out⟩
end Go.Proofs.YtdmeocoehahopaaDoor.Draw
namespace Go.Proofs.YtdmeocoehahopaaDoor.Fixed
open Go.RowKit Go.Proofs.YtdmeocoehahopaaDoorW.PrintWords Go.Proofs.YtdmeocoehahopaaDoorW.PrintLast Go.Proofs.YtdmeocoehahopaaDoorW.PrintMore Go.Proofs.YtdmeocoehahopaaDoor.K
theorem fdiv_tR (n b : Int) (hb : b ≠ 0) : Int.fdiv n b = if Int.tmod n b ≠ 0 ∧ decide (n < 0) ≠ decide (b < 0) then Int.tdiv n b - 1 else Int.tdiv n b := by
  rw [Int.fdiv_eq_tdiv]
  by_cases h : b ∣ n
  · have h0 : Int.tmod n b = 0 := Int.tmod_eq_zero_of_dvd h; rw [if_pos h, if_neg (by simp [h0])]
    omega
  · have h0 : Int.tmod n b ≠ 0 := fun e => h (Int.dvd_of_tmod_eq_zero e); rw [if_neg h]
    rcases Int.lt_or_le n 0 with hn | hn <;> rcases Int.lt_or_le b 0 with h2 | h2
    · rw [Int.sign_eq_neg_one_of_neg h2, if_neg (by omega), if_neg (by omega), if_neg (by simp; omega)]
      omega
    · rw [Int.sign_eq_one_of_pos (by omega), if_neg (by omega), if_pos h2, if_pos ⟨h0, by simp; omega⟩]
    · rw [if_pos hn, if_neg (by omega), if_pos ⟨h0, by simp; omega⟩]
    · rw [if_pos hn, if_pos h2, if_neg (by simp; omega)]
      omega
theorem tdiv_boundR (n b : Int) : (Int.tdiv n b).natAbs ≤ n.natAbs := by
  rw [Int.natAbs_tdiv]; exact Nat.div_le_self _ _
theorem Is_calls (n : Int) (w : World) (b : Bool) (hb : inR n = b) :
    Calls Tryd.prog 50 #[.int .i64 n] w fun e w' => e = .returned (.bool b) ∧ w = w' := by
  subst hb
  rcases Int.lt_or_le n (-2147483648) with h1 | h1
  · have HV := Aside0.mk (show inR n = false by unfold inR; simp; omega); rw [HV.out]
    have h1D : decide (-2147483648 ≤ n) = false := by simp; omega
    go_enter Tryd.func50, Tryd.ntmps50
    go_wp2; go_ret; exact ⟨rfl, rfl⟩
  · have HV := Aside0.mk (show inR n = decide (n ≤ 2147483647) by unfold inR; simp [h1]); rw [HV.out]
    have h1D : decide (-2147483648 ≤ n) = true := by simp; omega
    go_enter Tryd.func50, Tryd.ntmps50
    go_wp2; go_ret; exact ⟨rfl, rfl⟩
theorem floor_t (n d : Int) (hd : 0 < d) : n / d = if Int.tmod n d < 0 then Int.tdiv n d - 1 else Int.tdiv n d := by
  rw [← Int.fdiv_eq_ediv_of_nonneg n (Int.le_of_lt hd), fdiv_tR n d (by omega)]
  rcases Int.lt_or_le n 0 with hn | hn
  · have h2 : Int.tmod n d ≤ 0 := by
      have h3 := Int.tmod_nonneg d (show 0 ≤ -n by omega); rw [Int.neg_tmod] at h3
      omega
    by_cases h : Int.tmod n d = 0
    · rw [if_neg (by simp [h]), if_neg (by omega)]
    · rw [if_pos ⟨h, by simp; omega⟩, if_pos (by omega)]
  · have h2 : 0 ≤ Int.tmod n d := Int.tmod_nonneg _ hn; rw [if_neg (by simp; omega), if_neg (by omega)]
set_option maxHeartbeats 1000000 in
theorem Floor_calls (n d : Int) (w : World) (hd : 0 < d) (hd2 : d ≤ 9223372036854775807) (h1 : -9223372036854775000 ≤ n) (h2 : n ≤ 9223372036854775000) (r : Int) (hr : n / d = r) :
    Calls Tryd.prog 70 #[.int .i64 n, .int .i64 d] w fun e w' => e = .returned (.int .i64 r) ∧ w = w' := by
  subst hr; rw [floor_t n d hd]
  have hz : ¬ (d = 0) := by omega
  have hqb := tdiv_boundR n d; generalize hq : Int.tdiv n d = q at *; generalize hmm : Int.tmod n d = m at *
  have hq1 : -9223372036854775000 ≤ q := by omega
  have hq2 : q ≤ 9223372036854775000 := by omega
  clear hqb
  by_cases hneg : m < 0
  · rw [if_pos hneg]
    have hnD : decide (m < 0) = true := by simpa using hneg
    go_enter Tryd.func70, Tryd.ntmps70
    go_wp2; go_ret; exact ⟨rfl, rfl⟩
  · rw [if_neg hneg]
    have hnD : decide (m < 0) = false := by simpa using hneg
    go_enter Tryd.func70, Tryd.ntmps70
    go_wp2; go_ret; exact ⟨rfl, rfl⟩
def roundV (n : Int) : Int := (n + 32768) / 65536
theorem prodV_round (a b : Int) : prodV a b = roundV (a * b) := rfl
theorem Round_calls (n : Int) (w : World) (h1 : -9223372036854700000 ≤ n) (h2 : n ≤ 9223372036854700000) (r : Int) (hr : roundV n = r) :
    Calls Tryd.prog 62 #[.int .i64 n] w fun e w' => e = .returned (.int .i64 r) ∧ w = w' := by
  have HR := Aside0.mk hr; clear hr
  go_enter Tryd.func62, Tryd.ntmps62
  go_wp2_with (go_at_call 70; refine (Floor_calls (n + 32768) 65536 _ (by decide) (by decide) (by omega) (by omega) r HR.out).mono ?_; rintro e w' ⟨rfl, rfl⟩); go_ret; exact ⟨rfl, rfl⟩
theorem bit_step (m j : Nat) : m % 2 ^ (j + 1) = m % 2 ^ j + 2 ^ j * (m / 2 ^ j % 2) := by rw [Nat.pow_succ, Nat.mod_mul]
set_option maxHeartbeats 2000000 in
set_option maxRecDepth 100000 in
theorem rExp_calls (n : Int) (w : World) (hn : n ≤ 0) (h9 : -9223372036854775808 ≤ n) :
    Calls Tryd.prog 51 #[.int .i64 n] w fun e w' => e = .returned (.int .i64 (expV n)) ∧ Below w.heap.size w w' := by
  by_cases hs : n ≤ -1048576
  · have HV := Aside0.mk (show expV n = 0 from if_pos hs); rw [HV.out]
    have hnD2 : decide (n ≤ -1048576) = true := by simp; omega
    go_enter Tryd.func51, Tryd.ntmps51
    go_wp2; go_ret; exact ⟨rfl, Below.refl _ _⟩
  · have HV := Aside0.mk (show expV n = expF (-n) 20 from if_neg hs); rw [HV.out]; clear HV; obtain ⟨m, hm⟩ : ∃ m : Nat, -n = (m : Int) := ⟨(-n).toNat, by omega⟩; rw [hm]
    have hnD2 : decide (n ≤ -1048576) = false := by simp; omega
    have hm1 : m < 1048576 := by omega
    go_enter Tryd.func51, Tryd.ntmps51
    go_wp2
    go_loopw [4, 5, 6, 7] (fun v4 v5 v6 v7 wr => ∃ k : Nat, k ≤ 20 ∧ v7 = .int .i64 k ∧ v4 = .int .i64 (expF m k) ∧ v5 = .int .i64 (m % 2 ^ (20 - k) : Nat) ∧ v6 = .int .i64 (2 ^ (20 - k) / 2 : Nat) ∧ wr = w.alloc (.cells (nums .i64 stepsL).toArray 3)) (fun _ _ _ v7 _ => 20 - (intOf v7).toNat)
    case atStart => exact ⟨0, Nat.zero_le _, rfl, rfl, by rw [Nat.mod_eq_of_lt (by omega)], rfl, rfl⟩
    case round =>
      obtain ⟨k, hk, rfl, rfl, rfl, rfl, rfl⟩ := hrel
      by_cases hlt : k < 20
      · obtain ⟨j, hj⟩ : ∃ j, 19 - k = j := ⟨_, rfl⟩; have HJ := Aside0.mk (show 20 - k = j + 1 by omega); have HJ2 := Aside0.mk (show 20 - (k + 1) = j by omega); have HJ3 := Aside0.mk hj; rw [HJ.out]; clear hj; obtain ⟨P, hP⟩ : ∃ P, 2 ^ j = P := ⟨_, rfl⟩
        have hP0 : 0 < P := by rw [← hP]; exact Nat.pow_pos (by decide)
        have hP1 : P ≤ 524288 := by rw [← hP]; exact Nat.le_trans (Nat.pow_le_pow_right (n := 2) (by decide) (show j ≤ 19 by have := HJ3.out; omega)) (by decide)
        have hbs := bit_step m j
        have hhalf : 2 ^ (j + 1) / 2 = P := by rw [Nat.pow_succ, hP]; omega
        rw [hhalf]; rw [hP] at hbs; have HSt := Aside0.mk (show expF m (k + 1) = expStep m k (expF m k) from rfl); have HBt := Aside0.mk (show (m : Int) / 2 ^ (19 - k) % 2 = ((m / P % 2 : Nat) : Int) by rw [HJ3.out, ← hP]; simp); have HPo := Aside0.mk hP; have HE := Aside0.mk (expF_bound m k); have HSb := Aside0.mk (steps_bound k); have hr0 : m % P < P := Nat.mod_lt _ hP0; obtain ⟨r1, hr1⟩ : ∃ r1, m % 2 ^ (j + 1) = r1 := ⟨_, rfl⟩; rw [hr1] at hbs ⊢; clear hr1 hP hhalf
        rcases Nat.mod_two_eq_zero_or_one (m / P) with hb | hb
        · have HN2 := Aside0.mk (show expF m (k + 1) = expF m k by rw [HSt.out, expStep, if_pos (by rw [HBt.out, hb]; rfl)]); rw [hb, Nat.mul_zero, Nat.add_zero] at hbs; have HR1 := Aside0.mk hbs
          have hgD : decide (P ≤ r1) = false := by simp; omega
          clear hbs hb HSt HBt; generalize expF m k = out at *; go_wp2; go_roundw
          case measure => simp [intOf]; omega
          case rel => exact ⟨k + 1, by omega, by go_num, by rw [HN2.out], by rw [HJ2.out, HPo.out, HR1.out], by rw [HJ2.out, HPo.out]; go_num, trivial⟩
        · have HN2 := Aside0.mk (show expF m (k + 1) = prodV (expF m k) (stepsL.getD k 0) by rw [HSt.out, expStep, if_neg (by rw [HBt.out, hb]; decide)]); rw [hb, Nat.mul_one] at hbs; have HR1 := Aside0.mk hbs
          have hgD : decide (P ≤ r1) = true := by simp; omega
          have hPr1 : P ≤ r1 := by omega
          have hr12 : r1 < 2097152 := by omega
          have hrs : (r1 : Int) - (P : Int) = ((m % P : Nat) : Int) := by omega
          have hx : (w.alloc (.cells (nums .i64 stepsL).toArray 3)).cell? ⟨w.heap.size, k, none⟩ = some (.int .i64 (stepsL.getD k 0)) := by
            have h := (reads_lit w .i64 3 stepsL (by decide)).2.2 (by decide); obtain ⟨ad, e, h2⟩ := h
            cases e
            have h3 := h2 k hlt
            rwa [add_plain] at h3
          clear hbs hb HSt HBt; have HP := Aside0.mk (prod_small HE.out HSb.out); generalize expF m k = out at *; generalize stepsL.getD k 0 = sk at *; obtain ⟨r0, hr0e⟩ : ∃ r0, m % P = r0 := ⟨_, rfl⟩; have HR0 := Aside0.mk hr0e; rw [hr0e] at HR1 hrs hr0; clear hr0e; obtain ⟨pr, hpr⟩ : ∃ pr, out * sk = pr := ⟨_, rfl⟩; have HPr := Aside0.mk hpr
          have hp0 : 0 ≤ pr := by rw [← hpr]; exact HP.out.1
          have hp1 : pr ≤ 65536 * 65535 := by rw [← hpr]; exact HP.out.2
          go_wp2_with (go_at_call 62; refine (Round_calls pr _ (by omega) (by omega) (roundV pr) rfl).mono ?_; rintro e w' ⟨rfl, rfl⟩); go_roundw
          case measure => simp [intOf]; omega
          case rel => exact ⟨k + 1, by omega, by go_num, by rw [HN2.out, prodV_round, HPr.out], by rw [HJ2.out, HPo.out, HR0.out], by rw [HJ2.out, HPo.out]; go_num, trivial⟩
      · obtain rfl : k = 20 := by omega
        go_wp2; go_ret; exact ⟨rfl, bel_alloc (Below.refl _ _) _⟩
end Go.Proofs.YtdmeocoehahopaaDoor.Fixed
namespace Go.Proofs.YtdmeocoehahopaaDoor.Ten
open Go.RowKit Go.Proofs.YtdmeocoehahopaaDoorW.PrintWords Go.Proofs.YtdmeocoehahopaaDoorW.PrintLast Go.Proofs.YtdmeocoehahopaaDoorW.PrintMore Go.Proofs.YtdmeocoehahopaaDoor.K Go.Proofs.YtdmeocoehahopaaDoor.RI Go.Proofs.YtdmeocoehahopaaDoor.Fixed
set_option maxHeartbeats 4000000 in
set_option maxRecDepth 100000 in
theorem rsoft_calls (A : Option Addr) (c : Nat) (l : List Int) (w : World) (hC : Kd.C (Kd.int .i64) w A l.length l) (h : checkV l = 0) :
    Calls Tryd.prog 37 #[.slice A l.length c] w fun e w' => ∃ A' c', e = .returned (.slice A' l.length c') ∧ Kd.R (Kd.int .i64) 3 w' w.heap.size (fun _ => True) (.slice A' l.length c') (softV l) ∧ Below w.heap.size w w' := by
  have HC := Aside0.mk hC; have HIn := Aside0.mk (check_ok_in h)
  have HX : Aside0 (∀ k, k < l.length → ∀ W, Below w.heap.size w W → IntKind.i64.wrap (l.getD k 0 - maxV l) = l.getD k 0 - maxV l ∧ Calls Tryd.prog 51 #[.int .i64 (l.getD k 0 - maxV l)] W fun e w' => e = .returned (.int .i64 (expV (l.getD k 0 - maxV l))) ∧ Below W.heap.size W w') := ⟨fun k hk W hb => by
    have h1 := maxF_ge l (l.length - 1) k (by omega); have h2 := getD_r HIn.out.1 k; obtain ⟨j, hj, e⟩ := maxF_at l (l.length - 1); have h3 := getD_r HIn.out.1 j; have h4 : maxV l = l.getD j 0 := e; have h5 : l.getD k 0 ≤ maxV l := h1
    exact ⟨by rw [IntKind.wrap_i64]; omega, rExp_calls _ W (by omega) (by omega)⟩⟩
  have hm := HC.out.2.1
  have HSB : Aside0 (∀ k : Nat, k ≤ l.length → 0 ≤ sumV ((expsV l).take k) ∧ sumV ((expsV l).take k) ≤ 65536 * (k : Int)) := ⟨fun k hk => by
    have h1 := sumV_bd (l := (expsV l).take k) fun x hx => expsV_bd l x (List.mem_of_mem_take hx); rw [List.length_take, Nat.min_eq_left (by simpa [expsV] using hk)] at h1
    exact h1⟩
  obtain ⟨ad, rfl, hc0⟩ := int_at HC.out 0 HIn.out.2.1
  have hc00 : w.cell? ad = some (.int .i64 (maxF l 0)) := by have h := hc0; cases ad; exact h
  have hd0 : decide ((0 : Int) < (l.length : Int)) = true := by have := HIn.out.2.1; simp; omega
  clear hc0; obtain ⟨x0, hx0⟩ : ∃ x, x = maxF l 0 := ⟨_, rfl⟩; have HX0 := Aside0.mk hx0; rw [← hx0] at hc00; clear hx0 hC h
  go_enter Tryd.func37, Tryd.ntmps37
  go_wp2_with (fail)
  rotate_left
  · exfalso
    have := HIn.out.2.1
    omega
  go_loop [3, 4] (fun s i => ∃ p : Nat, p ≤ l.length ∧ i = .int .i64 (p : Int) ∧ s = .int .i64 (maxF l (p - 1))) (fun _ i => l.length - (intOf i).toNat)
  case atStart => exact ⟨0, Nat.zero_le _, rfl, by rw [HX0.out]⟩
  case round =>
   obtain ⟨p, hk, rfl, rfl⟩ := hrel
   by_cases hlt : p < l.length
   · have hcr := int_cell HC.out (Below.refl _ _) p hlt; clear hc00
     have HY : Aside0 (maxF l (p + 1 - 1) = if maxF l (p - 1) < l.getD p 0 then l.getD p 0 else maxF l (p - 1)) := ⟨by
       rcases Nat.eq_zero_or_pos p with h0 | h0
       · subst h0
         show maxF l 0 = if maxF l 0 < maxF l 0 then maxF l 0 else maxF l 0
         simp
       · obtain ⟨q, rfl⟩ : ∃ q, p = q + 1 := ⟨p - 1, by omega⟩
         rfl⟩
     generalize l.getD p 0 = x at *; generalize maxF l (p - 1) = m at *; go_wp2; refine ⟨⟨p + 1, by omega, by go_num, by rw [HY.out]⟩, by simp [intOf]; omega⟩
   · obtain rfl : p = l.length := by omega
     have HMx : Aside0 (maxF l (l.length - 1) = maxV l) := ⟨rfl⟩; clear hc00; rw [HMx.out]; have HB : Aside0 (Below w.heap.size w w) := ⟨Below.refl _ _⟩; go_wp2_with (fail); clear hd0
     go_loopw [5, 6, 7] (fun o s i wr => ∃ k : Nat, k ≤ l.length ∧ i = .int .i64 (k : Int) ∧ s = .int .i64 (sumV ((expsV l).take k)) ∧ Aside0 (wr.ownsRow w.heap.size 3 1 o ((expsV l).take k).length (nums .i64 ((expsV l).take k)) ∧ Below w.heap.size w wr)) (fun _ _ i _ => l.length - (intOf i).toNat)
     case atStart => exact ⟨0, Nat.zero_le _, rfl, rfl, ⟨own_nil _ _ _ _, HB.out⟩⟩
     case round =>
       obtain ⟨k, hk, rfl, rfl, HO⟩ := hrel; have hl512 := HIn.out.2.2
       by_cases hlt : k < l.length
       · have hc := int_cell HC.out HO.out.2 k hlt; obtain ⟨hw1, hcall⟩ := HX.out k hlt wr HO.out.2; obtain ⟨df, hdf⟩ : ∃ df, df = l.getD k 0 - maxV l := ⟨_, rfl⟩; rw [← hdf] at hcall; have HE := Aside0.mk hcall; have HS := Aside0.mk (exps_snoc l k hlt); have HSn : Aside0 (sumV ((expsV l).take (k + 1)) = sumV ((expsV l).take k) + expV (l.getD k 0 - maxV l)) := ⟨by rw [HS.out, sumV_append]; simp [sumV]⟩
         have hw2 : IntKind.i64.wrap (sumV ((expsV l).take k) + expV (l.getD k 0 - maxV l)) = sumV ((expsV l).take (k + 1)) := by
           have := HSB.out (k + 1) (by omega); rw [HSn.out] at this ⊢; rw [IntKind.wrap_i64]
           omega
         rw [← hdf] at hw1 hw2 HSn; have HLen : Aside0 (((expsV l).take k).length = k) := ⟨by rw [List.length_take, Nat.min_eq_left (by simpa [expsV] using hk)]⟩; clear hcall; rw [← hdf] at HS
         have hw1 : IntKind.i64.wrap (l.getD k 0 - maxV l) = df := by rw [← hdf]; exact hw1
         clear hdf; generalize expV df = ex at *; obtain ⟨s1, hs1⟩ : ∃ s1, s1 = sumV ((expsV l).take (k + 1)) := ⟨_, rfl⟩; rw [← hs1] at hw2 HSn; have HS1 := Aside0.mk hs1; clear hs1; generalize sumV ((expsV l).take k) = s0 at *; generalize l.getD k 0 = x at *; generalize (expsV l).take k = es at *; obtain ⟨A3, c3, rfl⟩ := own_slice HO.out.1; generalize maxV l = mx at *; go_wp2_with (fail); refine HE.out.mono ?_; rintro e w4 ⟨rfl, hb4⟩; have HO4 : Aside0 (w4.ownsRow w.heap.size 3 1 (.slice A3 es.length c3) es.length (nums .i64 es) ∧ Below w.heap.size w w4) := ⟨own_int (Kd.R_below (R_int HO.out.1) hb4), below_step HO.out.2 hb4⟩; clear hb4; go_wp2_with (at_builtin; refine print_append_num (w0 := w) w.heap.size rfl (.tmp 38) (.tmp 40) 41 3 .i64 8 rfl Tryd.underlying41 info_int (by decide) _ es _ rfl rfl HO4.out.1 HO4.out.2 HO4.out.2.size ?_ ?_; rotate_left; intro v1 w1 hown hbw hgr hat; have HA := Aside0.mk (And.intro hown hbw); clear hown hbw hgr hat)
         · skip
           go_roundw
           case rel => exact ⟨k + 1, by omega, by go_num, by rw [HS1.out], ⟨by rw [HS.out]; exact HA.out.1, HA.out.2⟩⟩
           case measure => simp [intOf]; omega
         · have := HLen.out
           omega
       · obtain rfl : k = l.length := by omega
         have HEl : Aside0 ((expsV l).length = l.length) := ⟨by simp [expsV]⟩; have h1 := HO.out.1; rw [← HEl.out, List.take_length] at h1; obtain ⟨g, c9, rfl, hg, hglt, hle, hmx9, hdat⟩ := Top.R_dat (R_int h1) (by rw [HEl.out]; exact HIn.out.2.1); have HG := Aside0.mk (And.intro hg (And.intro hle hmx9)); have HD := Aside0.mk hdat; have HSu : Aside0 (sumV ((expsV l).take l.length) = sumV (expsV l)) := ⟨by rw [← HEl.out, List.take_length]⟩; have HS0 := Aside0.mk (sumV_pos HIn.out.2.1); have HS9 := HSB.out l.length (Nat.le_refl _); have HEb := Aside0.mk (expsV_bd l); have HV9 : Aside0 (softV l = (expsV l).map fun x => x * 65536 / sumV (expsV l)) := ⟨rfl⟩; have HVl : Aside0 ((softV l).length = (expsV l).length) := ⟨by simp [softV]⟩; clear h1 hg hle hmx9 hdat; rw [HSu.out] at HS9 ⊢; rw [HEl.out]; have HB9 := Aside0.mk HO.out.2; obtain ⟨so, hso⟩ : ∃ so, so = softV l := ⟨_, rfl⟩; rw [← hso] at HV9 HVl; have HSo := Aside0.mk hso; clear hso; clear HSu HSB HX HO; generalize sumV (expsV l) = sm at *; generalize expsV l = es at *
         have hs0 : 0 < sm := by have := HS0.out; omega
         go_wp2_with (fail)
         go_loopw [9] (fun i wq => ∃ k : Nat, k ≤ l.length ∧ i = .int .i64 (k : Int) ∧ Aside0 (Sort.Dat wq g c9 (mixed so es k) ∧ Below w.heap.size w wq)) (fun i _ => l.length - (intOf i).toNat)
         case atStart => exact ⟨0, Nat.zero_le _, rfl, ⟨HD.out, HB9.out⟩⟩
         case round =>
           obtain ⟨k, hk, rfl, HR⟩ := hrel
           by_cases hlt : k < l.length
           · have HL1 : Aside0 ((mixed so es k).length = l.length) := ⟨by rw [mixed_length HVl.out (by rw [HEl.out]; omega), HEl.out]⟩; obtain ⟨hc, hf⟩ := HR.out.1.at_ k (by rw [HL1.out]; exact hlt); rw [mixed_get HVl.out (by rw [HEl.out]; exact hlt)] at hc
             have HMem : es.getD k 0 ∈ es := by
               rw [List.getD_eq_getElem?_getD, List.getElem?_eq_getElem (by rw [HEl.out]; exact hlt)]; exact List.getElem_mem _
             have hxb := HEb.out _ HMem
             have HY : Aside0 (so.getD k 0 = es.getD k 0 * 65536 / sm) := ⟨by
               rw [HV9.out, List.getD_eq_getElem?_getD, List.getD_eq_getElem?_getD, List.getElem?_map, List.getElem?_eq_getElem (by rw [HEl.out]; exact hlt)]
               rfl⟩
             have HSet := Aside0.mk (mixed_set (a := so) (b := es) (k := k) HVl.out (by rw [HEl.out]; exact hlt)); clear HMem; generalize es.getD k 0 = x at *; go_wp2; refine ⟨⟨k + 1, by omega, by go_num, ⟨?_, HR.out.2.setCell HG.out.1 _⟩⟩, by simp [intOf]; omega⟩; rw [← HSet.out, HY.out]; exact HR.out.1.set k _ (by rw [HL1.out]; exact hlt)
           · obtain rfl : k = l.length := by omega
             go_wp2; go_ret
             have HF : mixed so es l.length = so := by rw [← HEl.out, mixed, List.drop_length, List.append_nil, ← HVl.out, List.take_length]
             have h1 := HR.out.1; rw [HF] at h1; have h2 := R_int (own_low (h1.own (by rw [HVl.out]; exact HG.out.2.1) HG.out.2.2) HG.out.1); rw [show so.length = l.length by rw [HVl.out, HEl.out]] at h2; rw [← HSo.out]; exact ⟨some ⟨g, 0, none⟩, c9, rfl, h2, HR.out.2⟩
end Go.Proofs.YtdmeocoehahopaaDoor.Ten
namespace Go.Proofs.YtdmeocoehahopaaDoor.Top
open Go.RowKit Go.Proofs.YtdmeocoehahopaaDoorW.PrintWords Go.Proofs.YtdmeocoehahopaaDoorW.PrintLast Go.Proofs.YtdmeocoehahopaaDoorW.PrintMore Go.Proofs.YtdmeocoehahopaaDoor.K Go.Proofs.YtdmeocoehahopaaDoor.RI Go.Proofs.YtdmeocoehahopaaDoor.Sort Go.Proofs.YtdmeocoehahopaaDoor.Ten Go.Proofs.YtdmeocoehahopaaDoor.Fixed
def usedB (l : List Int) (j i : Nat) : Bool := decide ((i : Int) ∈ (ordL l).take j)
def usedL (l : List Int) (j : Nat) : List Bool := (List.range l.length).map (usedB l j)
theorem usedL_length (l : List Int) (j : Nat) : (usedL l j).length = l.length := by simp [usedL]
theorem take_mem {l : List Int} {j : Nat} {x : Int} : x ∈ (ordL l).take j ↔ ∃ t, t < j ∧ t < l.length ∧ (ordL l).getD t 0 = x := by
  constructor
  · intro h; obtain ⟨t, ht, rfl⟩ := List.mem_iff_getElem.1 h; rw [List.length_take, ordL_length] at ht; refine ⟨t, by omega, by omega, ?_⟩; rw [List.getElem_take, List.getD_eq_getElem?_getD, List.getElem?_eq_getElem (by rw [ordL_length]; omega)]
    rfl
  · rintro ⟨t, h1, h2, rfl⟩; rw [List.getD_eq_getElem?_getD, List.getElem?_eq_getElem (by rw [ordL_length]; exact h2), Option.getD_some]
    have h3 : t < ((ordL l).take j).length := by rw [List.length_take, ordL_length]; omega
    have h4 : ((ordL l).take j)[t] = (ordL l)[t]'(by rw [ordL_length]; exact h2) := List.getElem_take; rw [← h4]; exact List.getElem_mem h3
theorem usedB_zero (l : List Int) (i : Nat) : usedB l 0 i = false := by simp [usedB]
theorem used_set {l : List Int} {j q : Nat} (hj : j < l.length) (hq : (ordL l).getD j 0 = (q : Int)) (hql : q < l.length) : (usedL l j).set q true = usedL l (j + 1) := by
  apply List.ext_getElem (by simp [usedL])
  intro i h1 h2
  have hi : i < l.length := by rw [usedL_length] at h2; exact h2
  rw [List.getElem_set]
  by_cases e : q = i
  · subst e; rw [if_pos rfl]; simp only [usedL, List.getElem_map, List.getElem_range, usedB]
    symm
    rw [decide_eq_true_eq]; exact take_mem.2 ⟨j, by omega, hj, hq⟩
  · rw [if_neg e]; simp only [usedL, List.getElem_map, List.getElem_range, usedB]; rw [decide_eq_decide]; rw [take_mem, take_mem]
    constructor
    · rintro ⟨t, t1, t2, t3⟩; exact ⟨t, by omega, t2, t3⟩
    · rintro ⟨t, t1, t2, t3⟩; refine ⟨t, ?_, t2, t3⟩
      rcases Nat.lt_or_ge t j with c | c
      · exact c
      · obtain rfl : t = j := by omega
        rw [hq] at t3
        omega
/-- What has been found among those ahead. -/
def AtI (l : List Int) (j i : Nat) (a : Int) : Prop := (a = -1 ∧ ∀ t, t < i → usedB l j t = true) ∨ (∃ m : Nat, m < i ∧ a = (m : Int) ∧ usedB l j m = false ∧ ∀ t, t < i → usedB l j t = false → t = m ∨ prV l (m : Int) (t : Int))
theorem AtI.start (l : List Int) (j : Nat) : AtI l j 0 (-1) := .inl ⟨rfl, fun t h => by omega⟩
theorem AtI.skip {l : List Int} {j i : Nat} {a : Int} (h : AtI l j i a) (hu : usedB l j i = true) : AtI l j (i + 1) a := by
  rcases h with ⟨h1, h2⟩ | ⟨m, m1, m2, m3, m4⟩
  · refine .inl ⟨h1, fun t ht => ?_⟩
    rcases Nat.lt_or_ge t i with c | c
    · exact h2 t c
    · obtain rfl : t = i := by omega
      exact hu
  · refine .inr ⟨m, by omega, m2, m3, fun t ht hf => ?_⟩
    rcases Nat.lt_or_ge t i with c | c
    · exact m4 t c hf
    · obtain rfl : t = i := by omega
      rw [hu] at hf
      cases hf
theorem AtI.first {l : List Int} {j i : Nat} {a : Int} (h : AtI l j i a) (hu : usedB l j i = false) (ha : a < 0) : AtI l j (i + 1) (i : Int) := by
  rcases h with ⟨h1, h2⟩ | ⟨m, m1, m2, m3, m4⟩
  · refine .inr ⟨i, by omega, rfl, hu, fun t ht hf => ?_⟩
    rcases Nat.lt_or_ge t i with c | c
    · rw [h2 t c] at hf; cases hf
    · exact .inl (by omega)
  · omega
theorem AtI.more {l : List Int} {j i m : Nat} (h : AtI l j i (m : Int)) (hu : usedB l j i = false) (hgt : l.getD m 0 < l.getD i 0) : AtI l j (i + 1) (i : Int) := by
  rcases h with ⟨h1, h2⟩ | ⟨m', m1, m2, m3, m4⟩
  · omega
  · obtain rfl : m = m' := by omega
    refine .inr ⟨i, by omega, rfl, hu, fun t ht hf => ?_⟩
    rcases Nat.lt_or_ge t i with c | c
    · refine .inr ?_; unfold prV cfV; rw [Int.toNat_natCast, Int.toNat_natCast]
      rcases m4 t c hf with rfl | h9
      · omega
      · unfold prV cfV at h9; rw [Int.toNat_natCast, Int.toNat_natCast] at h9
        omega
    · exact .inl (by omega)
theorem AtI.keep {l : List Int} {j i m : Nat} (h : AtI l j i (m : Int)) (hle : l.getD i 0 ≤ l.getD m 0) : AtI l j (i + 1) (m : Int) := by
  rcases h with ⟨h1, h2⟩ | ⟨m', m1, m2, m3, m4⟩
  · omega
  · obtain rfl : m = m' := by omega
    refine .inr ⟨m, by omega, rfl, m3, fun t ht hf => ?_⟩
    rcases Nat.lt_or_ge t i with c | c
    · exact m4 t c hf
    · obtain rfl : t = i := by omega
      refine .inr ?_; unfold prV cfV; rw [Int.toNat_natCast, Int.toNat_natCast]
      omega
theorem AtI.nat {l : List Int} {j i : Nat} {a : Int} (h : AtI l j i a) (ha : ¬ a < 0) : ∃ m : Nat, a = (m : Int) ∧ m < i := by
  rcases h with ⟨h1, h2⟩ | ⟨m, m1, m2, m3, m4⟩
  · omega
  · exact ⟨m, m2, m1⟩
theorem AtI.done {l : List Int} {j : Nat} {a : Int} (h : AtI l j l.length a) (hj : j < l.length) : ∃ q : Nat, q < l.length ∧ a = (q : Int) ∧ (ordL l).getD j 0 = (q : Int) := by
  obtain ⟨q, q1, q2⟩ := ordL_at l j hj; have ir := (prV_strict l).irrefl; have tr := (prV_strict l).trans; have srt : ∀ s t, s < t → t < l.length → prV l ((ordL l).getD s 0) ((ordL l).getD t 0) := fun s t h1 h2 => (ordL_good l).1 s t (Nat.zero_le _) h1 h2
  have hq : usedB l j q = false := by
    unfold usedB; rw [decide_eq_false_iff_not, take_mem]; rintro ⟨t, t1, t2, t3⟩; have := srt t j t1 hj; rw [t3, q2] at this; exact ir _ this
  rcases h with ⟨h1, h2⟩ | ⟨m, m1, m2, m3, m4⟩
  · rw [h2 q q1] at hq
    cases hq
  · refine ⟨q, q1, ?_, q2⟩; obtain ⟨s, s1, s2⟩ := good_onto (ordL_good l) m m1; replace s2 : (ordL l).getD s 0 = (m : Int) := s2
    have hsj : j ≤ s := by
      rcases Nat.lt_or_ge s j with c | c
      · have : usedB l j m = true := by
          unfold usedB; rw [decide_eq_true_eq, take_mem]; exact ⟨s, c, s1, s2⟩
        rw [this] at m3
        cases m3
      · exact c
    rcases m4 q q1 hq with e | e
    · omega
    · rcases Nat.lt_or_ge j s with c | c
      · have h9 := srt j s c s1; rw [q2, s2] at h9; exact absurd (tr _ _ _ e h9) (ir _)
      · obtain rfl : s = j := by omega
        omega
theorem info_bool_ : (Tryd.prog.info? 4).map (fun i => (i.zero, i.size, i.bytes)) = some (some (.bool false), 1, 1) := by kernel_rfl
theorem bools_made (n : Nat) : madeCells #[Value.bool false] n = ((List.replicate n false).map Value.bool).toArray := by
  apply Array.ext
  · simp [madeCells]
  · intro i h1 h2
    simp [madeCells, Nat.mod_one]
theorem used_zero (l : List Int) : usedL l 0 = List.replicate l.length false := by
  apply List.ext_getElem (by simp [usedL])
  intro i h1 h2
  simp [usedL, usedB_zero]
theorem take_ord_succ {l : List Int} {j : Nat} (h : j < l.length) : (ordL l).take (j + 1) = (ordL l).take j ++ [(ordL l).getD j 0] := by
  rw [List.take_succ_eq_append_getElem (by rw [ordL_length]; exact h), List.getD_eq_getElem?_getD, List.getElem?_eq_getElem (by rw [ordL_length]; exact h), Option.getD_some]
set_option maxHeartbeats 8000000 in
set_option maxRecDepth 100000 in
theorem rtop_calls (A : Option Addr) (c k : Nat) (l : List Int) (w : World) (hC : Kd.C (Kd.int .i64) w A l.length l) (hl : l.length ≤ 1000000) (hp : 0 < l.length) (hk : k ≤ l.length) :
    Calls Tryd.prog 36 #[.slice A l.length c, .int .i64 (k : Int)] w fun e w' => ∃ A' c', e = .returned (.slice A' k c') ∧ Kd.C (Kd.int .i64) w' A' k ((ordL l).take k) ∧ Below w.heap.size w w' := by
  have HC := Aside0.mk hC; have HK := Aside0.mk (And.intro hl (And.intro hp hk))
  have hmk : ∀ W : World, (Instr.makeSlice 83 (.int .i64 (l.length : Int)) (.int .i64 (l.length : Int))).run Tryd.prog W = .ok (.slice (some ⟨W.heap.size, 0, none⟩) l.length l.length) (W.alloc (.cells (madeCells #[.bool false] l.length) 4)) := fun W =>
    run_make_row' 83 4 (.bool false) 1 Tryd.underlying83 info_bool_ rfl .i64 .i64 l.length (by omega) (by omega) W
  have HB0 : Aside0 (Below w.heap.size w (w.alloc (.cells (madeCells #[.bool false] l.length) 4))) := ⟨bel_alloc (Below.refl _ _) _⟩; have HU0 : Aside0 ((w.alloc (.cells (madeCells #[.bool false] l.length) 4)).heap[w.heap.size]? = some (.cells ((usedL l 0).map Value.bool).toArray 4 (0, 0))) := ⟨by rw [heap_alloc_new, bools_made, used_zero]⟩; have HS0 : Aside0 ((w.alloc (.cells (madeCells #[.bool false] l.length) 4)).heap.size = w.heap.size + 1) := ⟨World.size_alloc ..⟩; clear hC hl hp hk
  go_enter Tryd.func36, Tryd.ntmps36
  go_wp2_with (fail); generalize w.alloc (.cells (madeCells #[.bool false] l.length) 4) = w0 at *; clear hmk
  go_loopw [5] (fun o wr => ∃ j : Nat, j ≤ k ∧ Aside0 (wr.ownsRow (w.heap.size + 1) 3 1 o ((ordL l).take j).length (nums .i64 ((ordL l).take j)) ∧ wr.heap[w.heap.size]? = some (.cells ((usedL l j).map Value.bool).toArray 4 (0, 0)) ∧ Below w.heap.size w wr ∧ w.heap.size + 1 ≤ wr.heap.size) ∧ ∃ A5 c5, o = .slice A5 j c5) (fun o _ => k - (match o with | .slice _ n _ => n | _ => 0))
  case atStart => exact ⟨0, Nat.zero_le _, ⟨own_nil _ _ _ _, HU0.out, HB0.out, by rw [HS0.out]; exact Nat.le_refl _⟩, none, 0, rfl⟩
  case round =>
    obtain ⟨j, hj, HO, A5, c5, rfl⟩ := hrel; have hlk := HK.out
    by_cases hlt : j < k
    · have d1 : decide ((j : Int) < (k : Int)) = true := by simp; omega
      have d2 : decide (j < k) = true := by simpa using hlt
      obtain ⟨wo, rfl⟩ : ∃ wo : World, wo = wr := ⟨_, rfl⟩; have HJ := Aside0.mk hlt; clear hlk hlt hj; go_wp2_with (fail)
      go_loopw [7, 8] (fun a i wr => ∃ (i' : Nat) (a' : Int), i' ≤ l.length ∧ i = .int .i64 (i' : Int) ∧ a = .int .i64 a' ∧ Aside0 (AtI l j i' a' ∧ Drawn0 wo wr)) (fun _ i _ => l.length - (intOf i).toNat)
      case atStart => exact ⟨0, -1, Nat.zero_le _, rfl, rfl, ⟨AtI.start l j, ⟨⟨0, rfl⟩⟩⟩⟩
      case round =>
        obtain ⟨i, a, hi, rfl, rfl, HI⟩ := hrel; obtain ⟨hat, ⟨⟨nd, rfl⟩⟩⟩ := HI.out; have hlen := HK.out.1
        by_cases hil : i < l.length
        · have hwi : IntKind.i64.wrap ((i : Int) + 1) = (i : Int) + 1 := by rw [IntKind.wrap_i64]; omega
          have hcu : wo.cell? ⟨w.heap.size, i, none⟩ = some (.bool (usedB l j i)) := by
            refine (blk_cell HO.out.2.1 i).trans ?_
            simp [usedL, hil]
          obtain ⟨u, hu⟩ : ∃ u, u = usedB l j i := ⟨_, rfl⟩; rw [← hu] at hcu
          cases u with
          | true =>
            have HN := Aside0.mk (hat.skip hu.symm); clear hat hu hlen HI; go_wp2_with (fail)
            go_quiet (fail)
            go_wp2; go_roundw
            case rel => exact ⟨i + 1, a, by omega, by go_num, rfl, ⟨HN.out, by first | exact ⟨⟨_, rfl⟩⟩ | exact ⟨⟨_, World.drewN_drewN _ _ _⟩⟩⟩⟩
            case measure => simp [intOf]; omega
          | false =>
            by_cases ha : a < 0
            · have da : decide (a < 0) = true := by simpa using ha
              have HN := Aside0.mk (hat.first hu.symm ha); clear hat hu hlen ha HI; go_wp2_with (fail)
              go_quiet (fail)
              go_wp2; go_roundw
              case rel => exact ⟨i + 1, i, by omega, by go_num, rfl, ⟨HN.out, by first | exact ⟨⟨_, rfl⟩⟩ | exact ⟨⟨_, World.drewN_drewN _ _ _⟩⟩⟩⟩
              case measure => simp [intOf]; omega
            · obtain ⟨m, rfl, hmi⟩ := hat.nat ha
              have da : decide ((m : Int) < 0) = false := by simp
              have hml : m < l.length := by omega
              obtain ⟨ad, rfl, hx⟩ := int_at (Kd.C_below HC.out HO.out.2.2.1) i hil; obtain ⟨_, he, hy⟩ := int_at (Kd.C_below HC.out HO.out.2.2.1) m hml
              cases he
              by_cases hgt : l.getD m 0 < l.getD i 0
              · have HN := Aside0.mk (hat.more hu.symm hgt); obtain ⟨x, hxe⟩ : ∃ x, x = l.getD i 0 := ⟨_, rfl⟩; obtain ⟨y, hye⟩ : ∃ x, x = l.getD m 0 := ⟨_, rfl⟩; rw [← hxe] at hx hgt; rw [← hye] at hy hgt
                have dg : decide (y < x) = true := by simpa using hgt
                clear hat hu hlen ha HI hgt hxe hye; go_wp2_with (fail)
                go_quiet (fail)
                go_wp2; go_roundw
                case rel => exact ⟨i + 1, i, by omega, by go_num, rfl, ⟨HN.out, by first | exact ⟨⟨_, rfl⟩⟩ | exact ⟨⟨_, World.drewN_drewN _ _ _⟩⟩⟩⟩
                case measure => simp [intOf]; omega
              · have HN := Aside0.mk (hat.keep (by omega)); obtain ⟨x, hxe⟩ : ∃ x, x = l.getD i 0 := ⟨_, rfl⟩; obtain ⟨y, hye⟩ : ∃ x, x = l.getD m 0 := ⟨_, rfl⟩; rw [← hxe] at hx hgt; rw [← hye] at hy hgt
                have dg : decide (y < x) = false := by simpa using hgt
                clear hat hu hlen ha HI hgt hxe hye; go_wp2_with (fail)
                go_quiet (fail)
                go_wp2; go_roundw
                case rel => exact ⟨i + 1, m, by omega, by go_num, rfl, ⟨HN.out, by first | exact ⟨⟨_, rfl⟩⟩ | exact ⟨⟨_, World.drewN_drewN _ _ _⟩⟩⟩⟩
                case measure => simp [intOf]; omega
        · obtain rfl : i = l.length := by omega
          obtain ⟨q, q1, rfl, q3⟩ := hat.done (by have := HJ.out; have := HK.out; omega); have HX := Aside0.mk (take_ord_succ (l := l) (j := j) (by have := HJ.out; have := HK.out; omega)); rw [q3] at HX; have HUs := Aside0.mk (used_set (by have := HJ.out; have := HK.out; omega) q3 q1)
          have hlj : ((ordL l).take j).length = j := by rw [List.length_take, ordL_length]; have := HJ.out; have := HK.out; omega
          have hcu : ∃ u, (wo.drewN nd).cell? ⟨w.heap.size, q, none⟩ = some (.bool u) := ⟨usedB l j q, by
            refine (blk_cell HO.out.2.1 q).trans ?_
            simp [usedL, q1]⟩
          obtain ⟨u, hcu⟩ := hcu; have hfu : (wo.drewN nd).frozen? ⟨w.heap.size, q, none⟩ = false := blk_frozen HO.out.2.1 q; have HOn : Aside0 ((wo.drewN nd).ownsRow (w.heap.size + 1) 3 1 (.slice A5 j c5) ((ordL l).take j).length (nums .i64 ((ordL l).take j))) := ⟨own_int (Kd.R_below (R_int HO.out.1) (pw_below_drewN (Below.refl _ _) nd))⟩; have HW1 : Aside0 (((wo.drewN nd).setCell ⟨w.heap.size, q, none⟩ (.bool true)).ownsRow (w.heap.size + 1) 3 1 (.slice A5 j c5) ((ordL l).take j).length (nums .i64 ((ordL l).take j))) := ⟨ownsRow_setCell_below HOn.out (Nat.lt_succ_self _) _⟩; have HW2 : Aside0 (((wo.drewN nd).setCell ⟨w.heap.size, q, none⟩ (.bool true)).heap[w.heap.size]? = some (.cells ((usedL l (j + 1)).map Value.bool).toArray 4 (0, 0))) := ⟨blk_put (blk_drewN HO.out.2.1 nd) q _ (by rw [← HUs.out]; simp [List.map_set])⟩; have HW3 : Aside0 (Below w.heap.size w ((wo.drewN nd).setCell ⟨w.heap.size, q, none⟩ (.bool true))) := ⟨(pw_below_drewN HO.out.2.2.1 nd).setCell (Nat.le_refl _) _⟩; have HW4 : Aside0 (w.heap.size + 1 ≤ ((wo.drewN nd).setCell ⟨w.heap.size, q, none⟩ (.bool true)).heap.size) := ⟨by have h := HO.out.2.2.2; simpa [World.setCell, World.drewN] using h⟩; clear hat q3 HI HO HOn hil hlen
          go_upto_region 11 with (fail)
          generalize ((wo.drewN nd).setCell ⟨w.heap.size, q, none⟩ (.bool true)) = w2 at *; clear hcu hfu; obtain ⟨es, hes⟩ : ∃ es, es = (ordL l).take j := ⟨_, rfl⟩; rw [← hes] at HW1 HX hlj; subst hlj; have HE := Aside0.mk hes; clear hes; go_wp2_with (at_builtin; refine print_append_num (w0 := w2) (w.heap.size + 1) rfl (.tmp 46) (.tmp 48) 41 3 .i64 8 rfl Tryd.underlying41 Top.info_int (by decide) _ es _ rfl rfl HW1.out (Below.refl _ _) HW4.out ?_ ?_; rotate_left; intro v1 w4 hown hbw hgr hat; have HA := Aside0.mk (And.intro hown hbw); obtain ⟨A6, c6, rfl⟩ := own_slice hown; clear hown hbw hgr hat)
          · have hl1 : (es ++ [(q : Int)]).length = es.length + 1 := by simp
            refine ⟨⟨es.length + 1, HJ.out, ⟨by rw [HX.out]; have h := HA.out.1; rw [hl1] at h ⊢; exact h, (HA.out.2.block _ (Nat.lt_succ_self _)).trans HW2.out, HW3.out.trans (HA.out.2.mono (Nat.le_succ _)), Nat.le_trans HW4.out HA.out.2.size⟩, A6, c6, rfl⟩, ?_⟩; have := HJ.out
            simp
            omega
          · have := HK.out; have := HJ.out
            omega
    · obtain rfl : j = k := by omega
      have d1 : decide ((j : Int) < (j : Int)) = false := by simp
      have hlj : ((ordL l).take j).length = j := by rw [List.length_take, ordL_length]; omega
      have HF : Aside0 (Kd.C (Kd.int .i64) wr A5 j ((ordL l).take j)) := ⟨by
        have h := (Kd.R_reads' (R_int HO.out.1)).2.2
        rwa [hlj] at h⟩
      have HBr := Aside0.mk HO.out.2.2.1; clear hlk hlj HO; go_wp2; go_ret; exact ⟨A5, c5, rfl, HF.out, HBr.out⟩
end Go.Proofs.YtdmeocoehahopaaDoor.Top
namespace Go.Proofs.YtdmeocoehahopaaDoor.Ten
open Go.RowKit Go.Proofs.YtdmeocoehahopaaDoorW.PrintWords Go.Proofs.YtdmeocoehahopaaDoorW.PrintLast Go.Proofs.YtdmeocoehahopaaDoorW.PrintMore Go.Proofs.YtdmeocoehahopaaDoor.K Go.Proofs.YtdmeocoehahopaaDoor.Fixed
set_option maxHeartbeats 4000000 in
set_option maxRecDepth 100000 in
theorem rcheck_calls (A : Option Addr) (c : Nat) (l : List Int) (w : World) (hC : Kd.C (Kd.int .i64) w A l.length l) :
    Calls Tryd.prog 35 #[.slice A l.length c] w fun e w' => e = .returned (.int .i64 (checkV l)) ∧ Below w.heap.size w w' := by
  have HC := Aside0.mk hC; have hm := hC.2.1; clear hC
  by_cases h0 : l.length = 0
  · have HV := Aside0.mk (checkV_size (l := l) (.inl h0))
    have hD : decide ((l.length : Int) < 1) = true := by simp; omega
    clear h0
    go_enter Tryd.func35, Tryd.ntmps35
    go_wp2; go_ret; exact ⟨congrArg (fun x => Ending.returned (Value.int .i64 x)) HV.out.symm, Below.refl _ _⟩
  · have hD : decide ((l.length : Int) < 1) = false := by simp; omega
    by_cases h1 : 512 < l.length
    · have HV := Aside0.mk (checkV_size (l := l) (.inr h1))
      have hD1 : decide (512 < (l.length : Int)) = true := by simp; omega
      clear h0 h1
      go_enter Tryd.func35, Tryd.ntmps35
      go_wp2; go_ret; exact ⟨congrArg (fun x => Ending.returned (Value.int .i64 x)) HV.out.symm, Below.refl _ _⟩
    · have hD1 : decide (512 < (l.length : Int)) = false := by simp; omega
      have HN : Aside0 (¬ (l.length = 0 ∨ 512 < l.length)) := ⟨by omega⟩; clear h0 h1
      go_enter Tryd.func35, Tryd.ntmps35
      go_wp2_with (fail)
      go_loopw [3] (fun i wr => ∃ k : Nat, k ≤ l.length ∧ i = .int .i64 (k : Int) ∧ Aside0 ((l.take k).all inR = true ∧ Below w.heap.size w wr)) (fun i _ => l.length - (intOf i).toNat)
      case atStart => exact ⟨0, Nat.zero_le _, rfl, ⟨by simp, Below.refl _ _⟩⟩
      case round =>
        obtain ⟨k, hk, rfl, HR⟩ := hrel
        by_cases hlt : k < l.length
        · obtain ⟨ad, rfl, hc⟩ := int_at' HC.out HR.out.2 k hlt; have HS : Aside0 ((l.take (k + 1)).all inR = inR (l.getD k 0)) := ⟨by rw [List.take_succ_eq_append_getElem hlt, List.all_append, HR.out.1, List.getD_eq_getElem?_getD, List.getElem?_eq_getElem hlt]; simp⟩
          have HX : Aside0 (inR (l.getD k 0) = false → l.all inR = false) := ⟨fun h => by
            rw [← List.take_append_drop (k + 1) l, List.all_append, HS.out, h, Bool.false_and]⟩
          generalize l.getD k 0 = x at *; go_wp2_with (fail); refine (Is_calls x wr _ rfl).mono ?_; rintro e w1 ⟨rfl, rfl⟩; have HB := Aside0.mk HR.out.2; clear hc
          cases hp : inR x with
          | true =>
            have HF : Aside0 ((l.take (k + 1)).all inR = true) := ⟨by rw [HS.out, hp]⟩; clear hp; go_wp2; go_roundw
            case rel => exact ⟨k + 1, by omega, by go_num, ⟨HF.out, HB.out⟩⟩
            case measure => simp [intOf]; omega
          | false =>
            have HF : Aside0 (checkV l = 10) := ⟨checkV_bad HN.out (HX.out hp)⟩; clear hp; go_wp2; go_ret; exact ⟨by rw [HF.out]; rfl, HB.out⟩
        · obtain rfl : k = l.length := by omega
          have HF : Aside0 (checkV l = 0) := ⟨checkV_ok HN.out (by have := HR.out.1; rwa [List.take_of_length_le (Nat.le_refl _)] at this)⟩; go_wp2; go_ret; exact ⟨by rw [HF.out]; rfl, HR.out.2⟩
end Go.Proofs.YtdmeocoehahopaaDoor.Ten
namespace Go.Proofs.YtdmeocoehahopaaDoor.Draw
open Go.RowKit Go.Proofs.YtdmeocoehahopaaDoorW.PrintWords Go.Proofs.YtdmeocoehahopaaDoorW.PrintLast Go.Proofs.YtdmeocoehahopaaDoorW.PrintMore Go.Proofs.YtdmeocoehahopaaDoor.K Go.Proofs.YtdmeocoehahopaaDoor.Sha Go.Proofs.YtdmeocoehahopaaDoor.Codec Go.Proofs.YtdmeocoehahopaaDoor.RI Go.Proofs.YtdmeocoehahopaaDoor.Ten Go.Proofs.YtdmeocoehahopaaDoor.Top
def RPickEnd (d l : List Int) (k c : Int) (e : Ending) : Prop := ∀ x er c', pickV d l k c = (x, er, c') → e = .returned (.tuple #[.int .i64 (if er = 0 then x else 0), .int .i64 (if er = 0 then c' - c else 0), .int .i64 er])
theorem rpick_of {d l : List Int} {k c x er c' y f : Int} (h : pickV d l k c = (x, er, c')) (hx : (if er = 0 then x else 0) = y) (hf : (if er = 0 then c' - c else 0) = f) : RPickEnd d l k c (.returned (.tuple #[.int .i64 y, .int .i64 f, .int .i64 er])) := fun x1 er1 c1 h1 => by
  rw [h] at h1
  cases h1
  rw [hx, hf]
def RPickF (d : List Int) (c : Int) (A5 : Option Addr) (n5 c5 : Nat) (ss : List Int) (xr fr er : Int) (iv : Nat) (xv : Value) (W : World) : Prop := match iv with
  | 0 => xv = .agg (dA d)
  | 1 => xv = .int .i64 c
  | 2 => xv = .slice A5 n5 c5
  | 3 => ∃ A' c', xv = .slice A' ss.length c' ∧ Kd.C (Kd.int .i64) W A' ss.length ss
  | 4 => xv = .tuple #[.int .i64 xr, .int .i64 fr, .int .i64 er]
  | 5 => xv = .tuple #[.int .i64 xr, .int .i64 fr, .int .i64 er]
  | 6 => xv = .int .i64 xr
  | 7 => xv = .int .i64 fr
  | 8 => xv = .int .i64 er
  | 9 => xv = .int .i64 xr
  | 10 => xv = .int .i64 fr
  | 11 => xv = .int .i64 er
  | _ => True
theorem RPickF.step (d : List Int) (c : Int) (A5 : Option Addr) (n5 c5 : Nat) (ss : List Int) (xr fr er : Int) (i : Nat) (x : Value) (W W' : World) (hb : Below W.heap.size W W') (h : RPickF d c A5 n5 c5 ss xr fr er i x W) : RPickF d c A5 n5 c5 ss xr fr er i x W' := by
  unfold RPickF at *
  split <;> simp only at h ⊢
  · exact h
  · exact h
  · exact h
  · obtain ⟨A', c', e, h⟩ := h; exact ⟨A', c', e, Kd.C_below h hb⟩
  · exact h
  · exact h
  · exact h
  · exact h
  · exact h
  · exact h
  · exact h
  · exact h
set_option maxHeartbeats 8000000 in
set_option maxRecDepth 100000 in
theorem rpick_calls (d : List Int) (A : Option Addr) (cc : Nat) (l : List Int) (k c : Int) (w : World) (hd : d.length = 32) (hby : ∀ x ∈ d, 0 ≤ x ∧ x < 256) (h0 : 0 ≤ c) (h1 : c ≤ 9223372036854775807) (hC : Kd.C (Kd.int .i64) w A l.length l) :
    Calls Tryd.prog 22 #[.agg (dA d), .int .i64 c, .slice A l.length cc, .int .i64 k] w fun e w' => RPickEnd d l k c e ∧ Below w.heap.size w w' := by
  have HBy := Aside0.mk hby; have HD := Aside0.mk hd; have HI := Aside0.mk (dig_info hd); have H0 := Aside0.mk h0; have H1 := Aside0.mk h1; have hm := hC.2.1; have HB0 : Aside0 (Below w.heap.size w (w.alloc (.cells (dA d) 23))) := ⟨bel_alloc (Below.refl _ _) _⟩; have HR0 : Aside0 ((w.alloc (.cells (dA d) 23)).heap[w.heap.size]? = some (.cells (dA d) 23 (0, 0))) := ⟨heap_alloc_new _ _⟩; have HC := Aside0.mk (Kd.C_below hC HB0.out); clear hd hby h0 h1 hC
  by_cases hz : checkV l = 0
  · have HZ := Aside0.mk hz; have hlen := check_len hz
    by_cases hr : k < 1 ∨ (l.length : Int) < k
    · have HE : Aside0 (RPickEnd d l k c (.returned (.tuple #[.int .i64 0, .int .i64 0, .int .i64 10]))) := ⟨rpick_of (pickV_range hz hr) rfl rfl⟩
      by_cases hk1 : k < 1
      · have d1 : decide (k < 1) = true := by simpa using hk1
        clear hz hr hk1
        go_enter Tryd.func22, Tryd.ntmps22
        go_wp2_with (fail); generalize w.alloc (.cells (dA d) 23) = w0 at *; refine (rcheck_calls A cc l w0 HC.out).mono ?_; rintro e w2 ⟨rfl, hb⟩; have HB2 := Aside0.mk (below_step HB0.out hb); clear hb; rw [HZ.out]; go_wp2_with (fail); go_ret3; exact ⟨HE.out, HB2.out⟩
      · have d1 : decide (k < 1) = false := by simpa using hk1
        have d2 : decide ((l.length : Int) < k) = true := by simp; omega
        clear hz hr hk1
        go_enter Tryd.func22, Tryd.ntmps22
        go_wp2_with (fail); generalize w.alloc (.cells (dA d) 23) = w0 at *; refine (rcheck_calls A cc l w0 HC.out).mono ?_; rintro e w2 ⟨rfl, hb⟩; have HB2 := Aside0.mk (below_step HB0.out hb); clear hb; rw [HZ.out]; go_wp2_with (fail); go_ret3; exact ⟨HE.out, HB2.out⟩
    · obtain ⟨n, rfl⟩ : ∃ n : Nat, k = (n : Int) := ⟨k.toNat, by omega⟩; have HN : Aside0 (1 ≤ n ∧ n ≤ l.length ∧ l.length ≤ 512) := ⟨by omega, by omega, by omega⟩
      have d1 : decide ((n : Int) < 1) = false := by simp; omega
      have d1' : decide (n < 1) = false := by simp; omega
      have d2 : decide ((l.length : Int) < (n : Int)) = false := by simp; omega
      have d2' : decide (l.length < n) = false := by simp; omega
      have HT : Aside0 (∀ W, Below w.heap.size w W → Kd.C (Kd.int .i64) W A l.length l → Calls Tryd.prog 36 #[.slice A l.length cc, .int .i64 (n : Int)] W fun e w' => ∃ A' c', e = .returned (.slice A' n c') ∧ Kd.C (Kd.int .i64) w' A' n (topL l n) ∧ Below W.heap.size W w') := ⟨fun W _ h => rtop_calls A cc n l W h (by omega) (by omega) (by omega)⟩
      by_cases hk1 : n = 1
      · subst hk1; have HR : Aside0 (RPickEnd d l 1 c (.returned (.tuple #[.int .i64 (mostV l), .int .i64 0, .int .i64 0]))) := ⟨rpick_of (pickV_one hz) (if_pos rfl) (by rw [if_pos rfl]; omega)⟩
        have HY : Aside0 (topL l 1 = [mostV l]) := ⟨by
          have h2 := ordL_length l; unfold mostV topL
          apply List.ext_getElem (by rw [List.length_take]; simp; omega)
          intro i h3 h4
          have hi : i = 0 := by simp at h4; exact h4
          subst hi; rw [List.getElem_take, List.getElem_singleton, List.getD_eq_getElem?_getD, List.getElem?_eq_getElem (by omega)]
          rfl⟩
        have d3 : decide ((l.length : Int) < 1) = false := by simp; omega
        clear hz hr hlen d1 d1'; obtain ⟨z, hze⟩ : ∃ z, z = mostV l := ⟨_, rfl⟩; rw [← hze] at HR HY; rw [HY.out] at HT; clear hze
        go_enter Tryd.func22, Tryd.ntmps22
        go_wp2_with (fail); generalize w.alloc (.cells (dA d) 23) = w0 at *; refine (rcheck_calls A cc l w0 HC.out).mono ?_; rintro e w2 ⟨rfl, hb⟩; have HB2 := Aside0.mk (below_step HB0.out hb); have HC2 := Aside0.mk (Kd.C_below HC.out hb); clear hb; rw [HZ.out]; go_wp2_with (fail); refine (HT.out w2 HB2.out HC2.out).mono ?_; rintro e w3 ⟨A', c', rfl, hT, hb⟩; obtain ⟨ad, rfl, hzc⟩ := int_at hT 0 (by decide); rw [show ad.add 0 = ad by cases ad; simp [Addr.add]] at hzc; replace hzc : w3.cell? ad = some (.int .i64 z) := hzc; have HB3 := Aside0.mk (below_step HB2.out hb); clear hb hT; go_wp2_with (fail); go_ret3; exact ⟨HR.out, HB3.out⟩
      · have dk1 : ((n : Int) == 1) = false := by rw [beq_eq_false_iff_ne]; omega
        have dk2 : (n == 1) = false := by rw [beq_eq_false_iff_ne]; omega
        have hn2 : 2 ≤ n ∧ n ≤ l.length := by omega
        have HNl : Aside0 (n ≤ 512) := ⟨by omega⟩; have HTl : Aside0 ((topL l n).length = n) := ⟨topL_length hn2.2⟩; have HOl : Aside0 ((ownL l n).length = n) := ⟨ownL_length hn2.2⟩; have HOc : Aside0 (checkV (ownL l n) = 0) := ⟨ownL_check hz hn2.2 (by omega)⟩; have HSl : Aside0 ((softV (ownL l n)).length = n) := ⟨by rw [soft_len]; exact HOl.out⟩; have HOs : Aside0 (∀ i, i < n → (ownL l n).take (i + 1) = (ownL l n).take i ++ [l.getD ((topL l n).getD i 0).toNat 0]) := ⟨fun i hi => ownL_succ hn2.2 hi⟩; have HTa : Aside0 (∀ i, i < n → ∃ j : Nat, j < l.length ∧ (topL l n).getD i 0 = (j : Int)) := ⟨fun i hi => topL_at hn2.2 hi⟩; obtain ⟨⟨xr, er, c9⟩, hp3⟩ : ∃ p, chooseV d (softV (ownL l n)) c = p := ⟨_, rfl⟩; have HRp : Aside0 (pickV d l (n : Int) c = ((topL l n).getD xr.toNat 0, er, c9)) := ⟨pickV_more HZ.out hn2.1 hn2.2 hp3⟩; have HXb := Aside0.mk (chooseV_at hp3 (by rw [HSl.out]; omega)); have HCh0 : Aside0 (∀ A' c' W, Kd.C (Kd.int .i64) W A' (softV (ownL l n)).length (softV (ownL l n)) → Calls Tryd.prog 20 #[.agg (dA d), .int .i64 c, .slice A' (softV (ownL l n)).length c'] W fun e w' => e = .returned (.tuple #[.int .i64 xr, .int .i64 (if er = 0 then c9 - c else 0), .int .i64 er]) ∧ Below W.heap.size W w') := ⟨fun A' c' W h => (rchoose_calls d A' c' _ c W HD.out HBy.out H0.out H1.out h).mono fun e w' ⟨he, hb⟩ => ⟨he _ _ _ hp3, hb⟩⟩; clear hz hr hlen hk1 hn2 hp3
        go_enter Tryd.func22, Tryd.ntmps22
        go_wp2_with (fail); generalize w.alloc (.cells (dA d) 23) = w0 at *; refine (rcheck_calls A cc l w0 HC.out).mono ?_; rintro e w1 ⟨rfl, hb⟩; have HB1 := Aside0.mk (below_step HB0.out hb); have HC1 := Aside0.mk (Kd.C_below HC.out hb); have HR1 : Aside0 (w1.heap[w.heap.size]? = some (.cells (dA d) 23 (0, 0))) := ⟨(hb.block _ (blk_lt HR0.out)).trans HR0.out⟩; clear hb; rw [HZ.out]; go_wp2_with (fail); refine (HT.out w1 HB1.out HC1.out).mono ?_; rintro e w2 ⟨A1, c1, rfl, hT, hb⟩; have HT2 := Aside0.mk hT; have HB2 := Aside0.mk (below_step HB1.out hb); have HC2 := Aside0.mk (Kd.C_below HC1.out hb); have HR2 : Aside0 (w2.heap[w.heap.size]? = some (.cells (dA d) 23 (0, 0))) := ⟨(hb.block _ (blk_lt HR1.out)).trans HR1.out⟩; clear hb hT; go_wp2_with (fail); clear dk1 dk2 d1 d1' d2 d2'
        go_loopw [13, 14] (fun o i wr => ∃ i' : Nat, i' ≤ n ∧ i = .int .i64 (i' : Int) ∧ Aside0 (wr.ownsRow w2.heap.size 3 1 o ((ownL l n).take i').length (nums .i64 ((ownL l n).take i')) ∧ Below w2.heap.size w2 wr)) (fun _ i _ => n - (intOf i).toNat)
        case atStart => exact ⟨0, Nat.zero_le _, rfl, ⟨own_nil _ _ _ _, Below.refl _ _⟩⟩
        case round =>
          obtain ⟨i, hi, rfl, HO⟩ := hrel; obtain ⟨A5, c5, rfl⟩ := own_slice HO.out.1; have hn5 := HNl.out
          by_cases hlt : i < n
          · obtain ⟨adt, rfl, hxt⟩ := int_at (Kd.C_below HT2.out HO.out.2) i hlt; obtain ⟨j, hj, hje⟩ := HTa.out i hlt; rw [hje] at hxt; have HX := Aside0.mk (HOs.out i hlt); rw [hje, Int.toNat_natCast] at HX; obtain ⟨adv, rfl, hxv⟩ := int_at (Kd.C_below HC2.out HO.out.2) j hj
            have hwi : IntKind.i64.wrap ((i : Int) + 1) = (i : Int) + 1 := by rw [IntKind.wrap_i64]; omega
            have HXl : Aside0 (((ownL l n).take i).length ≤ 512) := ⟨by rw [List.length_take]; omega⟩; obtain ⟨x, hxe⟩ : ∃ x, x = l.getD j 0 := ⟨_, rfl⟩; rw [← hxe] at hxv HX; obtain ⟨es, hes⟩ : ∃ es, es = (ownL l n).take i := ⟨_, rfl⟩; have HO4 : Aside0 (wr.ownsRow w2.heap.size 3 1 (.slice A5 es.length c5) es.length (nums .i64 es) ∧ Below w2.heap.size w2 wr) := ⟨by rw [hes]; exact HO.out⟩; rw [← hes] at HX HXl ⊢; clear hxe hes HO hje hn5; go_wp2_with (at_builtin; refine print_append_num (w0 := w2) w2.heap.size rfl (.tmp 44) (.tmp 52) 41 3 .i64 8 rfl Tryd.underlying41 Top.info_int (by decide) _ es _ rfl rfl HO4.out.1 HO4.out.2 HO4.out.2.size ?_ ?_; rotate_left; intro v1 w4 hown hbw hgr hat; have HA := Aside0.mk (And.intro hown hbw); clear hown hbw hgr hat)
            · refine ⟨⟨i + 1, by omega, by go_num, ⟨by rw [HX.out]; exact HA.out.1, HA.out.2⟩⟩, by simp [intOf]; omega⟩
            · have := HXl.out
              omega
          · obtain rfl : i = n := by omega
            have eT : (ownL l i).take i = ownL l i := by
              have h := HOl.out; exact List.take_of_length_le (by omega)
            have HW5 : Aside0 (Kd.C (Kd.int .i64) wr A5 (ownL l i).length (ownL l i)) := ⟨by have h := own_C HO.out.1; rwa [eT] at h⟩; have HB3 := Aside0.mk (below_step HB2.out HO.out.2); have HT3 := Aside0.mk (Kd.C_below HT2.out HO.out.2); have HRr : Aside0 (wr.heap[w.heap.size]? = some (.cells (dA d) 23 (0, 0))) := ⟨(HO.out.2.block _ (blk_lt HR2.out)).trans HR2.out⟩; rw [eT]; clear HO hlt eT hn5; obtain ⟨own, how⟩ : ∃ o, o = ownL l i := ⟨_, rfl⟩; obtain ⟨top, hto⟩ : ∃ o, o = topL l i := ⟨_, rfl⟩; obtain ⟨ss, hss⟩ : ∃ o, o = softV own := ⟨_, rfl⟩; rw [← how] at HW5 HOl HOc HSl HXb HCh0 ⊢; rw [← hss] at HSl HXb HCh0; rw [← hto] at HT3 HTl HRp; have HSo : Aside0 (∀ W, Below wr.heap.size wr W → Calls Tryd.prog 37 #[.slice A5 own.length c5] W fun e w' => ∃ A' c', e = .returned (.slice A' ss.length c') ∧ Kd.C (Kd.int .i64) w' A' ss.length ss ∧ Below W.heap.size W w') := ⟨fun W hb => (rsoft_calls A5 c5 own W (Kd.C_below HW5.out hb) HOc.out).mono fun e w' ⟨A', c', he, hr, hb2⟩ => ⟨A', c', by rw [he, hss, soft_len], by have h := (Kd.R_reads' hr).2.2; rw [← hss] at h; exact h, hb2⟩⟩; clear HOs HTa; obtain ⟨fr, hfr⟩ : ∃ f, (if er = 0 then c9 - c else 0) = f := ⟨_, rfl⟩; rw [hfr] at HCh0; have HCh := HCh0; clear HCh0; have HFr := Aside0.mk hfr; clear how hto hss hfr; obtain ⟨n5, hn5⟩ : ∃ n, own.length = n := ⟨_, rfl⟩; rw [hn5] at HSo ⊢; clear hn5
            go_upto_region 14 with (fail)
            refine wp_region_fin [false, false, false, false, false, false, false, false, false, false, false, false, false, false, false, true, true, true, false, false, false, false, false, false, false, false, false, false, false, false, false, false, false, false, false, false, false, false, false, false, false, false, false, false, false, false, false, false, false, false, false, false, false, false, true, true, true, true, true, true, true, true, true] (by kernel_rfl) (by kernel_rfl) (fun W => Below wr.heap.size wr W) (fun W W' => Below W.heap.size W W') (RPickF d c A5 n5 c5 ss xr fr er) (fun iv xv W W' _ hb h => RPickF.step d c A5 n5 c5 ss xr fr er iv xv W W' hb h) (below_drew (Below.refl _ _)) ?_ ?_
            · refine ⟨?_, ?_, ?_, ?_, ?_, ?_, ?_, ?_, ?_, ?_, ?_, ?_, trivial⟩
              · intro v W hb hd; have HRW : Aside0 (W.heap[w.heap.size]? = some (.cells (dA d) 23 (0, 0))) := ⟨(hb.block _ (blk_lt HRr.out)).trans HRr.out⟩; refine step_list fun K hK => ?_; simp only [fill_lit, fillL, Act.put, List.setIfInBounds_toArray, List.set_cons_zero, List.set_cons_succ, Nat.reduceAdd] at hK ⊢; clear hd; go_wp2_with (with_reducible refine wpList_load_row rfl 23 (.tmp 4) rfl w.heap.size rfl 23 (dA d) (0, 0) _ HRW.out Tryd.underlying23 rfl HI.out ?_); exact ⟨hb, Below.refl _ _, rfl⟩
              · intro v W hb hd; refine step_list fun K hK => ?_; simp only [fill_lit, fillL, Act.put, List.setIfInBounds_toArray, List.set_cons_zero, List.set_cons_succ, Nat.reduceAdd] at hK ⊢; clear hd; go_wp2; exact ⟨hb, Below.refl _ _, rfl⟩
              · intro v W hb hd; refine step_list fun K hK => ?_; simp only [fill_lit, fillL, Act.put, List.setIfInBounds_toArray, List.set_cons_zero, List.set_cons_succ, Nat.reduceAdd] at hK ⊢; clear hd; go_wp2; exact ⟨hb, Below.refl _ _, rfl⟩
              · intro v W hb hd; have h2 : v 57 = .slice A5 n5 c5 := hd 2 (by kernel_rfl); refine step_list fun K hK => ?_; simp only [fill_lit, fillL, Act.put, List.setIfInBounds_toArray, List.set_cons_zero, List.set_cons_succ, Nat.reduceAdd] at hK ⊢; rw [h2] at hK ⊢; clear hd h2; go_wp2_with (fail); refine (HSo.out W hb).mono ?_; rintro e W' ⟨A', c', rfl, hC', hb'⟩; have HB' := Aside0.mk hb'; have HC' := Aside0.mk hC'; clear hb' hC'; go_wp2_with (fail); exact ⟨below_step hb HB'.out, HB'.out, A', c', rfl, HC'.out⟩
              · intro v W hb hd; have h0 : v 55 = .agg (dA d) := hd 0 (by kernel_rfl); have h1 : v 56 = .int .i64 c := hd 1 (by kernel_rfl); obtain ⟨A', c', h3, hC'⟩ := hd 3 (by kernel_rfl); replace h3 : v 58 = .slice A' ss.length c' := h3; have HC' := Aside0.mk hC'; refine step_list fun K hK => ?_; simp only [fill_lit, fillL, Act.put, List.setIfInBounds_toArray, List.set_cons_zero, List.set_cons_succ, Nat.reduceAdd] at hK ⊢; rw [h0, h1, h3] at hK ⊢; clear hd h0 h1 h3 hC'; go_wp2_with (fail); refine (HCh.out A' c' W HC'.out).mono ?_; rintro e W' ⟨rfl, hb'⟩; have HB' := Aside0.mk hb'; clear hb'; go_wp2_with (fail); exact ⟨below_step hb HB'.out, HB'.out, rfl⟩
              · intro v W hb hd; have h4 : v 59 = .tuple #[.int .i64 xr, .int .i64 fr, .int .i64 er] := hd 4 (by kernel_rfl); refine step_list fun K hK => ?_; simp only [fill_lit, fillL, Act.put, List.setIfInBounds_toArray, List.set_cons_zero, List.set_cons_succ, Nat.reduceAdd] at hK ⊢; rw [h4] at hK ⊢; clear hd h4; go_wp2; exact ⟨hb, Below.refl _ _, rfl⟩
              · intro v W hb hd; have h5 : v 54 = .tuple #[.int .i64 xr, .int .i64 fr, .int .i64 er] := hd 5 (by kernel_rfl); refine step_list fun K hK => ?_; simp only [fill_lit, fillL, Act.put, List.setIfInBounds_toArray, List.set_cons_zero, List.set_cons_succ, Nat.reduceAdd] at hK ⊢; rw [h5] at hK ⊢; clear hd h5; go_wp2; exact ⟨hb, Below.refl _ _, rfl⟩
              · intro v W hb hd; have h5 : v 54 = .tuple #[.int .i64 xr, .int .i64 fr, .int .i64 er] := hd 5 (by kernel_rfl); refine step_list fun K hK => ?_; simp only [fill_lit, fillL, Act.put, List.setIfInBounds_toArray, List.set_cons_zero, List.set_cons_succ, Nat.reduceAdd] at hK ⊢; rw [h5] at hK ⊢; clear hd h5; go_wp2; exact ⟨hb, Below.refl _ _, rfl⟩
              · intro v W hb hd; have h5 : v 54 = .tuple #[.int .i64 xr, .int .i64 fr, .int .i64 er] := hd 5 (by kernel_rfl); refine step_list fun K hK => ?_; simp only [fill_lit, fillL, Act.put, List.setIfInBounds_toArray, List.set_cons_zero, List.set_cons_succ, Nat.reduceAdd] at hK ⊢; rw [h5] at hK ⊢; clear hd h5; go_wp2; exact ⟨hb, Below.refl _ _, rfl⟩
              · intro v W hb hd; have h6 : v 60 = .int .i64 xr := hd 6 (by kernel_rfl); refine step_list fun K hK => ?_; simp only [fill_lit, fillL, Act.put, List.setIfInBounds_toArray, List.set_cons_zero, List.set_cons_succ, Nat.reduceAdd] at hK ⊢; rw [h6] at hK ⊢; clear hd h6; go_wp2; exact ⟨hb, Below.refl _ _, rfl⟩
              · intro v W hb hd; have h7 : v 61 = .int .i64 fr := hd 7 (by kernel_rfl); refine step_list fun K hK => ?_; simp only [fill_lit, fillL, Act.put, List.setIfInBounds_toArray, List.set_cons_zero, List.set_cons_succ, Nat.reduceAdd] at hK ⊢; rw [h7] at hK ⊢; clear hd h7; go_wp2; exact ⟨hb, Below.refl _ _, rfl⟩
              · intro v W hb hd; have h8 : v 62 = .int .i64 er := hd 8 (by kernel_rfl); refine step_list fun K hK => ?_; simp only [fill_lit, fillL, Act.put, List.setIfInBounds_toArray, List.set_cons_zero, List.set_cons_succ, Nat.reduceAdd] at hK ⊢; rw [h8] at hK ⊢; clear hd h8; go_wp2; exact ⟨hb, Below.refl _ _, rfl⟩
            · intro v W hb hF; have h9 : v 15 = .int .i64 xr := hF 9 (of_decide_eq_true (by kernel_rfl)); have h10 : v 16 = .int .i64 fr := hF 10 (of_decide_eq_true (by kernel_rfl)); have h11 : v 17 = .int .i64 er := hF 11 (of_decide_eq_true (by kernel_rfl)); simp only [fill_lit, fillL, Nat.reduceAdd]; rw [h9, h10, h11]; clear hF h9 h10 h11; have HBW := Aside0.mk (below_step HB3.out hb)
              by_cases her : er = 0
              · subst her; have hat := HXb.out; obtain ⟨xn, rfl⟩ : ∃ xn : Nat, xr = (xn : Int) := ⟨xr.toNat, by omega⟩
                have hxn : xn < i := by have := HSl.out; omega
                obtain ⟨adt, rfl, hxt⟩ := int_at (Kd.C_below HT3.out hb) xn hxn; have HE : Aside0 (RPickEnd d l (i : Int) c (.returned (.tuple #[.int .i64 (top.getD xn 0), .int .i64 fr, .int .i64 0]))) := ⟨rpick_of HRp.out (if_pos rfl) HFr.out⟩; generalize top.getD xn 0 = y at *; clear hat hb; go_wp2; go_ret3; exact ⟨HE.out, HBW.out⟩
              · have dne : (er != 0) = true := by simpa using her
                have HE : Aside0 (RPickEnd d l (i : Int) c (.returned (.tuple #[.int .i64 0, .int .i64 0, .int .i64 er]))) := ⟨rpick_of HRp.out (if_neg her) (if_neg her)⟩; clear her hb; go_wp2; go_ret3; exact ⟨HE.out, HBW.out⟩
  · have HE : Aside0 (RPickEnd d l k c (.returned (.tuple #[.int .i64 0, .int .i64 0, .int .i64 (checkV l)]))) := ⟨rpick_of (pickV_bad hz) (if_neg hz) (if_neg hz)⟩
    have dz : (checkV l != 0) = true := by simpa using hz
    clear hz
    go_enter Tryd.func22, Tryd.ntmps22
    go_wp2_with (fail); generalize w.alloc (.cells (dA d) 23) = w0 at *; refine (rcheck_calls A cc l w0 HC.out).mono ?_; rintro e w2 ⟨rfl, hb⟩; have HB2 := Aside0.mk (below_step HB0.out hb); clear hb; generalize checkV l = z at *; go_wp2_with (fail); go_ret3; exact ⟨HE.out, HB2.out⟩
end Go.Proofs.YtdmeocoehahopaaDoor.Draw
namespace Go.Proofs.YtdmeocoehahopaaDoor.Draw
open Go.RowKit Go.Proofs.YtdmeocoehahopaaDoorW.PrintWords Go.Proofs.YtdmeocoehahopaaDoorW.PrintLast Go.Proofs.YtdmeocoehahopaaDoorW.PrintMore Go.Proofs.YtdmeocoehahopaaDoor.K Go.Proofs.YtdmeocoehahopaaDoor.Sha Go.Proofs.YtdmeocoehahopaaDoor.Codec Go.Proofs.YtdmeocoehahopaaDoor.RI Go.Proofs.YtdmeocoehahopaaDoor.Ten Go.Proofs.YtdmeocoehahopaaDoor.Top Go.Proofs.YtdmeocoehahopaaDoor.Fixed
theorem pickV_c {d l : List Int} {k c x er c' : Int} (h : pickV d l k c = (x, er, c')) (hc : c ≤ 9223372036854775807) : c ≤ c' ∧ c' ≤ 9223372036854775807 := by
  unfold pickV at h
  split at h
  · split at h
    · cases h; exact ⟨Int.le_refl _, hc⟩
    · split at h
      · cases h; exact ⟨Int.le_refl _, hc⟩
      · obtain ⟨⟨x1, e1, c1⟩, hp⟩ : ∃ p, pickC d l k.toNat c = p := ⟨_, rfl⟩; rw [hp] at h
        cases h
        have h2 := chooseV_c (show chooseV d (softV (ownL l k.toNat)) c = (x1, e1, c1) from hp) hc; exact ⟨h2.1, h2.2.1⟩
  · cases h; exact ⟨Int.le_refl _, hc⟩
set_option maxHeartbeats 8000000 in
set_option maxRecDepth 100000 in
theorem picks_calls (d : List Int) (A : Option Addr) (cc : Nat) (l : List Int) (k : Int) (w : World) (hd : d.length = 32) (hby : ∀ x ∈ d, 0 ≤ x ∧ x < 256) (hCw : Kd.C (Kd.int .i64) w A l.length l)
    (hLs : LaidAt w 0 stepsA) (hLf : LaidAt w 1 firstA) (hL : LaidAt w 2 constA) :
    Calls Tryd.prog 7 #[.agg (dA d), .slice A l.length cc, .int .i64 k] w fun e w' => e = .returned (.bool true) ∧ Below w.heap.size w w' := by
  have HLo := Aside0.mk (lo_of hLf hL); have HLs := Aside0.mk hLs; have HBy := Aside0.mk hby; have HDl := Aside0.mk hd; have HI := Aside0.mk (dig_info hd); have HCw := Aside0.mk hCw; have hmw := hCw.2.1; have HB0 : Aside0 (Below w.heap.size w (w.alloc (.cells (dA d) 23))) := ⟨bel_alloc (Below.refl _ _) _⟩; have HR0 : Aside0 ((w.alloc (.cells (dA d) 23)).heap[w.heap.size]? = some (.cells (dA d) 23 (0, 0))) := ⟨heap_alloc_new _ _⟩; clear hLf hL hLs hby hd hCw
  by_cases hl : 600 < l.length
  · have dl : decide (600 < (l.length : Int)) = true := by simp; omega
    clear hl
    go_enter Tryd.func7, Tryd.ntmps7
    go_wp2_with (with_reducible refine wpList_load_row rfl 23 (.tmp 3) rfl w.heap.size rfl 23 (dA d) (0, 0) _ HR0.out Tryd.underlying23 rfl HI.out ?_); generalize w.alloc (.cells (dA d) 23) = w0 at *; refine (new_calls d (l.length : Int) w0 HDl.out (by omega)).mono ?_; rintro e w2 ⟨g, rfl, hg, hs, hb⟩; have HB2 := Aside0.mk (below_step HB0.out hb); clear hb hg hs; go_wp2_with (fail); refine (awake_calls w.heap.size w2 (HLo.out.below HB2.out)).mono ?_; rintro e w3 ⟨rfl, hb⟩; have HB3 := Aside0.mk (below_step HB2.out hb); clear hb; go_wp2_with (fail); go_ret; exact ⟨rfl, HB3.out⟩
  · have dl : decide (600 < (l.length : Int)) = false := by simp; omega
    have HLn : Aside0 (l.length ≤ 600) := ⟨by omega⟩; clear hl
    go_enter Tryd.func7, Tryd.ntmps7
    go_wp2_with (with_reducible refine wpList_load_row rfl 23 (.tmp 3) rfl w.heap.size rfl 23 (dA d) (0, 0) _ HR0.out Tryd.underlying23 rfl HI.out ?_); generalize w.alloc (.cells (dA d) 23) = w0 at *; refine (new_calls d (l.length : Int) w0 HDl.out (by omega)).mono ?_; rintro e w2 ⟨g, rfl, hg, hs, hb⟩; have HB2 := Aside0.mk (below_step HB0.out hb); have HR2 : Aside0 (w2.heap[w.heap.size]? = some (.cells (dA d) 23 (0, 0))) := ⟨(hb.block _ (blk_lt HR0.out)).trans HR0.out⟩; have HS2 := Aside0.mk hs; have HG := Aside0.mk hg; have HGw : Aside0 (w.heap.size < w0.heap.size) := ⟨blk_lt HR0.out⟩; have HBw2 : Aside0 (w0.heap.size ≤ w2.heap.size) := ⟨hb.size⟩
    have HLo2 : Aside0 (Lo w0.heap.size w2) := ⟨by
      have h1 := HLo.out.below HB2.out
      exact ⟨h1.f, h1.c, Nat.lt_trans h1.gf HGw.out, Nat.lt_trans h1.gc HGw.out, hb.size⟩⟩
    clear hg hs hb; go_wp2_with (fail); clear dl; refine (Pick_calls d A cc l k (l.length : Int) g w0.heap.size w2 HDl.out HBy.out HS2.out (by omega) (by have := HLn.out; omega) HG.out HBw2.out HLo2.out (HLs.out.below HB2.out) (Kd.C_below HCw.out HB2.out)).mono ?_; rintro e w4 ⟨x, er, c', hR, hh⟩; have hcc := pickV_c (show pickV d l k (l.length : Int) = (x, er, c') from hR) (by have := HLn.out; omega); have HR : Aside0 (pickV d l k (l.length : Int) = (x, er, c')) := ⟨hR⟩; clear hR
    rcases hh with ⟨rfl, rfl, hm⟩ | ⟨her, rfl, hm⟩
    · have HM := Aside0.mk hm; have HR4 : Aside0 (w4.heap[w.heap.size]? = some (.cells (dA d) 23 (0, 0))) := ⟨(hm.bel.block _ HGw.out).trans HR2.out⟩; have HB4 : Aside0 (Below w.heap.size w w4) := ⟨HB2.out.trans (hm.bel.mono (Nat.le_of_lt HGw.out))⟩
      have hw : IntKind.i64.wrap ((l.length : Int) + (c' - (l.length : Int))) = c' := by rw [IntKind.wrap_i64]; omega
      clear hm hcc; go_wp2_with (with_reducible refine wpList_load_row rfl 23 (.tmp 3) rfl w.heap.size rfl 23 (dA d) (0, 0) _ HR4.out Tryd.underlying23 rfl HI.out ?_); refine (rpick_calls d A cc l k (l.length : Int) w4 HDl.out HBy.out (by omega) (by have := HLn.out; omega) (Kd.C_below HCw.out HB4.out)).mono ?_; rintro e w5 ⟨he, hb⟩; have he2 := he _ _ _ HR.out; rw [if_pos rfl, if_pos rfl] at he2; subst he2; have HB5 := Aside0.mk (below_step HB4.out hb); have HS5 := Aside0.mk (HM.out.at_.below hb); clear he hb; obtain ⟨df, hdf⟩ : ∃ df, df = c' - (l.length : Int) := ⟨_, rfl⟩; rw [← hdf] at hw ⊢; clear hdf
      go_wp2_with (first
        | (refine (count_calls d c' g w5 HDl.out HS5.out).mono ?_; rintro e w6 ⟨rfl, rfl⟩)
        | (fail))
      refine (awake_calls w.heap.size w5 (HLo.out.below HB5.out)).mono ?_; rintro e w7 ⟨rfl, hb⟩; have HB7 := Aside0.mk (below_step HB5.out hb); clear hb; go_wp2_with (fail); go_ret; exact ⟨rfl, HB7.out⟩
    · have HM := Aside0.mk hm; have HR4 : Aside0 (w4.heap[w.heap.size]? = some (.cells (dA d) 23 (0, 0))) := ⟨(hm.bel.block _ HGw.out).trans HR2.out⟩; have HB4 : Aside0 (Below w.heap.size w w4) := ⟨HB2.out.trans (hm.bel.mono (Nat.le_of_lt HGw.out))⟩
      have hw : IntKind.i64.wrap (l.length : Int) = (l.length : Int) := by rw [IntKind.wrap_i64]; omega
      have HE := Aside0.mk her; clear hm hcc her; go_wp2_with (with_reducible refine wpList_load_row rfl 23 (.tmp 3) rfl w.heap.size rfl 23 (dA d) (0, 0) _ HR4.out Tryd.underlying23 rfl HI.out ?_); refine (rpick_calls d A cc l k (l.length : Int) w4 HDl.out HBy.out (by omega) (by have := HLn.out; omega) (Kd.C_below HCw.out HB4.out)).mono ?_; rintro e w5 ⟨he, hb⟩; have he2 := he _ _ _ HR.out; rw [if_neg HE.out, if_neg HE.out] at he2; subst he2; have HB5 := Aside0.mk (below_step HB4.out hb); have HS5 := Aside0.mk (HM.out.at_.below hb); clear he hb
      go_wp2_with (first
        | (refine (count_calls d (l.length : Int) g w5 HDl.out HS5.out).mono ?_; rintro e w6 ⟨rfl, rfl⟩)
        | (fail))
      refine (awake_calls w.heap.size w5 (HLo.out.below HB5.out)).mono ?_; rintro e w7 ⟨rfl, hb⟩; have HB7 := Aside0.mk (below_step HB5.out hb); clear hb; go_wp2_with (fail); go_ret; exact ⟨rfl, HB7.out⟩
theorem picks_n (d : List Int) (A : Option Addr) (n cc : Nat) (l : List Int) (k : Int) (w : World) (hd : d.length = 32) (hby : ∀ x ∈ d, 0 ≤ x ∧ x < 256) (hCw : Kd.C (Kd.int .i64) w A n l)
    (hLs : LaidAt w 0 stepsA) (hLf : LaidAt w 1 firstA) (hL : LaidAt w 2 constA) :
    Calls Tryd.prog 7 #[.agg (dA d), .slice A n cc, .int .i64 k] w fun e w' => e = .returned (.bool true) ∧ Below w.heap.size w w' := by
  obtain rfl := hCw.1; exact picks_calls d A cc l k w hd hby hCw hLs hLf hL
end Go.Proofs.YtdmeocoehahopaaDoor.Draw
