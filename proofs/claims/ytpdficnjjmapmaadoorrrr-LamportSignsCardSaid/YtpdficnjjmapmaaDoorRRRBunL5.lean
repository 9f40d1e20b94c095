/- Texts put together: RefBlock, RefFilled, RefSum. -/
import Derived.Test.YtpdficnjjmapmaaDoorRRRBunL4
set_option linter.unusedVariables false
set_option linter.unusedSimpArgs false
namespace Go.Proofs.YtpdficnjjmapmaaDoorRRR.Sha
open Go.RowKit Go.Proofs.YtpdficnjjmapmaaDoorRRRW.PrintWords Go.Proofs.YtpdficnjjmapmaaDoorRRRW.PrintLast Go.Proofs.YtpdficnjjmapmaaDoorRRRW.PrintMore Go.Proofs.YtpdficnjjmapmaaDoorRRR.K Go.Proofs.YtpdficnjjmapmaaDoorRRR.PLamportSecrets
set_option linter.unusedVariables false
set_option linter.unusedSimpArgs false
theorem i64_small (x : Int) (h0 : 0 ≤ x) (h1 : x < 9223372036854775808) : IntKind.i64.wrap x = x := by rw [IntKind.wrap_i64]; omega
theorem nArr_get (l : List W32) (i : Nat) (h : i < l.length) : (nArr l)[i]? = some (.int .i64 (wi (l.getD i 0))) := by
  simp [nArr, nums, List.getElem?_eq_getElem h, List.getD_eq_getElem?_getD]
theorem nArr_set (l : List W32) (i : Nat) (x : W32) : (nArr l).setIfInBounds i (.int .i64 (wi x)) = nArr (l.set i x) := by
  apply Array.ext'
  simp [nArr, nums, List.map_set]
def BlkW (w : World) (a : Array Value) (l : List W32) (wr : World) : Prop :=
  wr.heap[w.heap.size]? = some (.cells a 53 (0, 0)) ∧ wr.heap[w.heap.size + 1]? = some (.cells (nArr (List.replicate 8 0)) 53 (0, 0)) ∧ wr.heap[w.heap.size + 1 + 1]? = some (.cells (nArr l) 68 (0, 0)) ∧ Below w.heap.size w wr
theorem BlkW.start (w : World) (a b l : Array Value) (t1 t2 t3 : Nat) (L : List W32) (hb : b = nArr (List.replicate 8 0)) (hl : l = nArr L) (h1 : t1 = 53) (h2 : t2 = 53) (h3 : t3 = 68) : BlkW w a L (((w.alloc (.cells a t1)).alloc (.cells b t2)).alloc (.cells l t3)) := by
  unfold BlkW
  rw [← hb, ← hl, ← h2, ← h3]
  obtain ⟨e1, e2, e3⟩ := alloc3 w (.cells a t1) (.cells b t2) (.cells l t3)
  rw [h1] at e1 e2 e3 ⊢
  exact ⟨by rw [e1, h2], e2, e3, bel_alloc (bel_alloc (bel_alloc (Below.refl _ _) _) _) _⟩
theorem BlkW.below {w w1 w2 : World} {a : Array Value} {l : List W32} (h : BlkW w a l w1) (hb : Below w1.heap.size w1 w2) : BlkW w a l w2 :=
  ⟨(hb.block _ (blk_lt h.1)).trans h.1, (hb.block _ (blk_lt h.2.1)).trans h.2.1, (hb.block _ (blk_lt h.2.2.1)).trans h.2.2.1, below_step h.2.2.2 hb⟩
theorem BlkW.set {w w1 : World} {a : Array Value} {l : List W32} (h : BlkW w a l w1) (i : Nat) (x : W32) : BlkW w a (l.set i x) (w1.setCell ⟨w.heap.size + 1 + 1, i, none⟩ (.int .i64 (wi x))) :=
  ⟨blk_far h.1 (by show w.heap.size ≠ w.heap.size + 1 + 1; omega) _, blk_far h.2.1 (by show w.heap.size + 1 ≠ w.heap.size + 1 + 1; omega) _, by rw [← nArr_set]; exact blk_set h.2.2.1 i _, h.2.2.2.setCell (by simp; omega) _⟩
theorem BlkW.cell {w w1 : World} {a : Array Value} {l : List W32} (h : BlkW w a l w1) (i : Nat) (hi : i < l.length) : w1.cell? ⟨w.heap.size + 1 + 1, i, none⟩ = some (.int .i64 (wi (l.getD i 0))) :=
  (blk_cell h.2.2.1 i).trans (nArr_get l i hi)
theorem BlkW.froz {w w1 : World} {a : Array Value} {l : List W32} (h : BlkW w a l w1) (i : Nat) : w1.frozen? ⟨w.heap.size + 1 + 1, i, none⟩ = false := blk_frozen h.2.2.1 i
theorem blkN_set {w : World} {g t : Nat} {m : List W32} (h : w.heap[g]? = some (.cells (nArr m) t (0, 0))) (i : Nat) (x : W32) : (w.setCell ⟨g, i, none⟩ (.int .i64 (wi x))).heap[g]? = some (.cells (nArr (m.set i x)) t (0, 0)) := by
  rw [← nArr_set]
  exact blk_set h i _
theorem blkN_set8 {w : World} {g t : Nat} {m : List W32} (h : w.heap[g]? = some (.cells (nArr m) t (0, 0))) (hm : m.length = 8) (s : St) :
    ((((((((w.setCell ⟨g, 0, none⟩ (.int .i64 (wi s.a))).setCell ⟨g, 1, none⟩ (.int .i64 (wi s.b))).setCell ⟨g, 2, none⟩ (.int .i64 (wi s.c))).setCell ⟨g, 3, none⟩ (.int .i64 (wi s.d))).setCell ⟨g, 4, none⟩ (.int .i64 (wi s.e))).setCell ⟨g, 5, none⟩ (.int .i64 (wi s.f))).setCell ⟨g, 6, none⟩ (.int .i64 (wi s.g))).setCell ⟨g, 7, none⟩ (.int .i64 (wi s.h))).heap[g]? = some (.cells (nArr s.l) t (0, 0)) := by
  have h8 := blkN_set (blkN_set (blkN_set (blkN_set (blkN_set (blkN_set (blkN_set (blkN_set h 0 s.a) 1 s.b) 2 s.c) 3 s.d) 4 s.e) 5 s.f) 6 s.g) 7 s.h
  rw [set8_list m hm s] at h8
  exact h8
theorem BlkW.other {w w1 : World} {a : Array Value} {l : List W32} (h : BlkW w a l w1) (n i : Nat) (hn : w.heap.size + 1 + 1 < n) (v : Value) : BlkW w a l (w1.setCell ⟨n, i, none⟩ v) :=
  ⟨blk_far h.1 (by show w.heap.size ≠ n; omega) _, blk_far h.2.1 (by show w.heap.size + 1 ≠ n; omega) _, blk_far h.2.2.1 (by show w.heap.size + 1 + 1 ≠ n; omega) _, h.2.2.2.setCell (by show w.heap.size ≤ n; omega) _⟩
/-- The second part: the state that is turned, in a block of its own; the constants in another one. -/
def BlkL (w : World) (a : Array Value) (wl : List W32) (nk n : Nat) (l : List W32) (wr : World) : Prop :=
  BlkW w a wl wr ∧ wr.heap[nk]? = some (.cells (nArr kL) 68 (0, 0)) ∧ wr.heap[n]? = some (.cells (nArr l) 53 (0, 0)) ∧ w.heap.size + 1 + 1 < nk ∧ nk < n
theorem BlkL.below {w w1 w2 : World} {a : Array Value} {l m : List W32} {nk n : Nat} (h : BlkL w a l nk n m w1) (hb : Below w1.heap.size w1 w2) : BlkL w a l nk n m w2 :=
  ⟨h.1.below hb, (hb.block _ (blk_lt h.2.1)).trans h.2.1, (hb.block _ (blk_lt h.2.2.1)).trans h.2.2.1, h.2.2.2⟩
theorem BlkL.set {w w1 : World} {a : Array Value} {l m : List W32} {nk n : Nat} (h : BlkL w a l nk n m w1) (i : Nat) (x : W32) : BlkL w a l nk n (m.set i x) (w1.setCell ⟨n, i, none⟩ (.int .i64 (wi x))) :=
  ⟨h.1.other n i (Nat.lt_trans h.2.2.2.1 h.2.2.2.2) _, blk_far h.2.1 (by show nk ≠ n; have := h.2.2.2.2; omega) _, by rw [← nArr_set]; exact blk_set h.2.2.1 i _, h.2.2.2⟩
theorem BlkL.set8 {w w1 : World} {a : Array Value} {l m : List W32} {nk n : Nat} (h : BlkL w a l nk n m w1) (hm : m.length = 8) (t : St) :
    BlkL w a l nk n t.l ((((((((w1.setCell ⟨n, 0, none⟩ (.int .i64 (wi t.a))).setCell ⟨n, 1, none⟩ (.int .i64 (wi t.b))).setCell ⟨n, 2, none⟩ (.int .i64 (wi t.c))).setCell ⟨n, 3, none⟩ (.int .i64 (wi t.d))).setCell ⟨n, 4, none⟩ (.int .i64 (wi t.e))).setCell ⟨n, 5, none⟩ (.int .i64 (wi t.f))).setCell ⟨n, 6, none⟩ (.int .i64 (wi t.g))).setCell ⟨n, 7, none⟩ (.int .i64 (wi t.h))) := by
  have h8 := (((((((h.set 0 t.a).set 1 t.b).set 2 t.c).set 3 t.d).set 4 t.e).set 5 t.f).set 6 t.g).set 7 t.h
  rw [set8_list m hm t] at h8
  exact h8
theorem BlkL.out8 {w w1 : World} {a : Array Value} {l m : List W32} {nk n : Nat} (h : BlkL w a l nk n m w1) (t : St) :
    ((((((((w1.setCell ⟨w.heap.size + 1, 0, none⟩ (.int .i64 (wi t.a))).setCell ⟨w.heap.size + 1, 1, none⟩ (.int .i64 (wi t.b))).setCell ⟨w.heap.size + 1, 2, none⟩ (.int .i64 (wi t.c))).setCell ⟨w.heap.size + 1, 3, none⟩ (.int .i64 (wi t.d))).setCell ⟨w.heap.size + 1, 4, none⟩ (.int .i64 (wi t.e))).setCell ⟨w.heap.size + 1, 5, none⟩ (.int .i64 (wi t.f))).setCell ⟨w.heap.size + 1, 6, none⟩ (.int .i64 (wi t.g))).setCell ⟨w.heap.size + 1, 7, none⟩ (.int .i64 (wi t.h))).heap[w.heap.size + 1]? = some (.cells (nArr t.l) 53 (0, 0)) ∧
    Below w.heap.size w ((((((((w1.setCell ⟨w.heap.size + 1, 0, none⟩ (.int .i64 (wi t.a))).setCell ⟨w.heap.size + 1, 1, none⟩ (.int .i64 (wi t.b))).setCell ⟨w.heap.size + 1, 2, none⟩ (.int .i64 (wi t.c))).setCell ⟨w.heap.size + 1, 3, none⟩ (.int .i64 (wi t.d))).setCell ⟨w.heap.size + 1, 4, none⟩ (.int .i64 (wi t.e))).setCell ⟨w.heap.size + 1, 5, none⟩ (.int .i64 (wi t.f))).setCell ⟨w.heap.size + 1, 6, none⟩ (.int .i64 (wi t.g))).setCell ⟨w.heap.size + 1, 7, none⟩ (.int .i64 (wi t.h))) :=
  ⟨blkN_set8 h.1.2.1 (List.length_replicate ..) t,
    (((((((h.1.2.2.2.setCell (Nat.le_succ _) _).setCell (Nat.le_succ _) _).setCell (Nat.le_succ _) _).setCell (Nat.le_succ _) _).setCell (Nat.le_succ _) _).setCell (Nat.le_succ _) _).setCell (Nat.le_succ _) _).setCell (Nat.le_succ _) _⟩
/-- What a round lays. -/
theorem roundN (p0 p1 p2 p3 p4 p5 p6 p7 kt wt : W32) : ∃ e0 e1 e2 e3 e4 e5 e6 e7 kk ww c1 n4 c2 ch m1 m2 m3 m4 mj t4 t0 u1 u2 u3 P Q R0 R4 r0 r4 : Int,
    (wi p0 = e0 ∧ wi p1 = e1 ∧ wi p2 = e2 ∧ wi p3 = e3 ∧ wi p4 = e4 ∧ wi p5 = e5 ∧ wi p6 = e6 ∧ wi p7 = e7 ∧ wi kt = kk ∧ wi wt = ww ∧ wi (threeV p4 6 11 25 false) = t4 ∧ wi (threeV p0 2 13 22 false) = t0) ∧
    (Go.bits .and .i64 e4 e5 = c1 ∧ IntKind.i64.wrap (4294967295 - e4) = n4 ∧ Go.bits .and .i64 n4 e6 = c2 ∧ Go.bits .xor .i64 c1 c2 = ch ∧ Go.bits .and .i64 e0 e1 = m1 ∧ Go.bits .and .i64 e0 e2 = m2 ∧ Go.bits .xor .i64 m1 m2 = m3 ∧ Go.bits .and .i64 e1 e2 = m4 ∧ Go.bits .xor .i64 m3 m4 = mj) ∧
    (IntKind.i64.wrap (e7 + t4) = u1 ∧ IntKind.i64.wrap (u1 + ch) = u2 ∧ IntKind.i64.wrap (u2 + kk) = u3 ∧ IntKind.i64.wrap (u3 + ww) = P ∧ IntKind.i64.wrap (t0 + mj) = Q) ∧
    (IntKind.i64.wrap (P + Q) = R0 ∧ Int.tmod R0 4294967296 = r0 ∧ R0 % 4294967296 = r0 ∧ 0 ≤ R0 ∧ IntKind.i64.wrap (e3 + P) = R4 ∧ Int.tmod R4 4294967296 = r4 ∧ R4 % 4294967296 = r4 ∧ 0 ≤ R4) ∧
    r0 = wi (rnd ⟨p0, p1, p2, p3, p4, p5, p6, p7⟩ kt wt).a ∧ r4 = wi (rnd ⟨p0, p1, p2, p3, p4, p5, p6, p7⟩ kt wt).e := by
  obtain ⟨CH, hCH⟩ : ∃ CH, CH = p6 ^^^ p4 &&& (p5 ^^^ p6) := ⟨_, rfl⟩
  obtain ⟨MJ, hMJ⟩ : ∃ MJ, MJ = p0 &&& p1 ||| p2 &&& (p0 ||| p1) := ⟨_, rfl⟩
  have q3 := wi_range p3
  have q4 := wi_range p4
  have q7 := wi_range p7
  have qk := wi_range kt
  have qw := wi_range wt
  have qc := wi_range CH
  have qm := wi_range MJ
  have q1 := wi_range (threeV p4 6 11 25 false)
  have q0 := wi_range (threeV p0 2 13 22 false)
  have hn : IntKind.i64.wrap (4294967295 - wi p4) = wi (~~~p4) := by rw [i64_small _ (by omega) (by omega), wi_not]
  have hP : pOf ⟨p0, p1, p2, p3, p4, p5, p6, p7⟩ kt wt = p7 + threeV p4 6 11 25 false + CH + kt + wt := by rw [hCH]; rfl
  have hQ : qOf ⟨p0, p1, p2, p3, p4, p5, p6, p7⟩ = threeV p0 2 13 22 false + MJ := by rw [hMJ]; rfl
  rw [← ch_eq] at hCH
  rw [← maj_eq] at hMJ
  refine ⟨_, _, _, _, _, _, _, _, _, _, _, _, _, wi CH, _, _, _, _, wi MJ, _, _, wi p7 + wi (threeV p4 6 11 25 false), wi p7 + wi (threeV p4 6 11 25 false) + wi CH, wi p7 + wi (threeV p4 6 11 25 false) + wi CH + wi kt, wi p7 + wi (threeV p4 6 11 25 false) + wi CH + wi kt + wi wt, wi (threeV p0 2 13 22 false) + wi MJ,
    wi p7 + wi (threeV p4 6 11 25 false) + wi CH + wi kt + wi wt + (wi (threeV p0 2 13 22 false) + wi MJ), wi p3 + (wi p7 + wi (threeV p4 6 11 25 false) + wi CH + wi kt + wi wt), _, _, ⟨rfl, rfl, rfl, rfl, rfl, rfl, rfl, rfl, rfl, rfl, rfl, rfl⟩, ⟨i64_and _ _, hn, i64_and _ _, by rw [i64_xor, hCH], i64_and _ _, i64_and _ _, i64_xor _ _, i64_and _ _, by rw [i64_xor, hMJ]⟩,
    ⟨i64_small _ (by omega) (by omega), i64_small _ (by omega) (by omega), i64_small _ (by omega) (by omega), i64_small _ (by omega) (by omega), i64_small _ (by omega) (by omega)⟩,
    ⟨i64_small _ (by omega) (by omega), Int.tmod_eq_emod_of_nonneg (by omega), rfl, by omega, i64_small _ (by omega) (by omega), Int.tmod_eq_emod_of_nonneg (by omega), rfl, by omega⟩, ?_, ?_⟩
  · show _ = wi (pOf _ kt wt + qOf _)
    rw [hP, hQ, wi_add, wi_add (p7 + threeV p4 6 11 25 false + CH + kt), wi_add (p7 + threeV p4 6 11 25 false + CH), wi_add (p7 + threeV p4 6 11 25 false), wi_add p7, wi_add (threeV p0 2 13 22 false)]
    omega
  · show _ = wi (p3 + pOf _ kt wt)
    rw [hP, wi_add, wi_add (p7 + threeV p4 6 11 25 false + CH + kt), wi_add (p7 + threeV p4 6 11 25 false + CH), wi_add (p7 + threeV p4 6 11 25 false), wi_add p7]
    omega
theorem three_v (x : W32) (k0 k1 k2 : Nat) (i0 i1 i2 q v : Int) (down : Bool) (w : World) (e0 : (k0 : Int) = i0) (e1 : (k1 : Int) = i1) (e2 : (k2 : Int) = i2) (hq : wi x = q) (hv : wi (threeV x k0 k1 k2 down) = v) (h0 : 2 ≤ k0 ∧ k0 < 32) (h1 : 2 ≤ k1 ∧ k1 < 32) (h2 : 2 ≤ k2 ∧ k2 < 32) :
    Calls Tryd.prog 35 #[.int .i64 q, .agg #[.int .i64 i0, .int .i64 i1, .int .i64 i2], .bool down] w fun e w' => e = .returned (.int .i64 v) ∧ Below w.heap.size w w' := by
  subst e0 e1 e2 hq hv
  exact three_calls x k0 k1 k2 down w h0 h1 h2
/-- What the second loop lays. -/
theorem sched (y0 y1 y9 y14 : W32) : ∃ q0 q1 q9 q14 a1 a14 z1 z2 z3 r : Int, wi y0 = q0 ∧ wi y1 = q1 ∧ wi y9 = q9 ∧ wi y14 = q14 ∧ wi (threeV y1 7 18 3 true) = a1 ∧ wi (threeV y14 17 19 10 true) = a14 ∧ IntKind.i64.wrap (a14 + q9) = z1 ∧ IntKind.i64.wrap (z1 + a1) = z2 ∧ IntKind.i64.wrap (z2 + q0) = z3 ∧
    Int.tmod z3 4294967296 = r ∧ z3 % 4294967296 = r ∧ 0 ≤ z3 ∧ r = wi (y0 + y9 + sig0 y1 + sig1 y14) := by
  have r0 := wi_range y0
  have r9 := wi_range y9
  have s1 := wi_range (threeV y1 7 18 3 true)
  have s14 := wi_range (threeV y14 17 19 10 true)
  refine ⟨_, _, _, _, _, _, _, _, _, _, rfl, rfl, rfl, rfl, rfl, rfl, i64_small _ (by omega) (by omega), i64_small _ (by omega) (by omega), i64_small _ (by omega) (by omega), Int.tmod_eq_emod_of_nonneg (by omega), rfl, by omega, ?_⟩
  have e1 : sig0 y1 = threeV y1 7 18 3 true := rfl
  have e14 : sig1 y14 = threeV y14 17 19 10 true := rfl
  rw [e1, e14, wi_add, wi_add, wi_add]
  omega
set_option maxHeartbeats 8000000 in
set_option maxRecDepth 100000 in
theorem block_calls (s : St) (A : Option Addr) (c : Nat) (b : List Int) (w : World) (hb : Kd.C (Kd.int .u8) w A b.length b) (hbl : b.length = 64) (hc : 64 ≤ c) (hby : ∀ x ∈ b, 0 ≤ x ∧ x < 256) :
    Calls Tryd.prog 30 #[.agg (nArr s.l), .slice A 64 c] w fun e w' => e = .returned (.agg (nArr (turnV s b).l)) ∧ Below w.heap.size w w' := by
  have HC := Aside0.mk hb
  have HBl := Aside0.mk hbl
  have HBy := Aside0.mk hby
  clear hb hby hbl
  obtain ⟨a, ha⟩ : ∃ a, a = nArr s.l := ⟨_, rfl⟩
  rw [← ha]
  have HA := Aside0.mk ha
  clear ha
  go_enter Tryd.func30, Tryd.ntmps30
  go_wp2
  go_loopw [6] (fun v6 wr => ∃ t : Nat, t ≤ 16 ∧ v6 = .int .i64 t ∧ Aside0 (BlkW w a (wcells b t) wr)) (fun v6 _ => 16 - (intOf v6).toNat)
  case atStart => exact ⟨0, Nat.zero_le _, rfl, ⟨BlkW.start w a _ _ _ _ _ (wcells b 0) rfl rfl rfl rfl rfl⟩⟩
  case round =>
    obtain ⟨t, ht, rfl, HW⟩ := hrel
    by_cases hlt : t < 16
    · obtain ⟨k0, hk0⟩ : ∃ k0, k0 = 4 * t := ⟨_, rfl⟩
      have hbl := HBl.out
      obtain ⟨ad, rfl, hx0⟩ := int_at' HC.out HW.out.2.2.2 k0 (by omega)
      have hx1 := int_cell HC.out HW.out.2.2.2 (k0 + 1) (by omega)
      have hx2 := int_cell HC.out HW.out.2.2.2 (k0 + 2) (by omega)
      have hx3 := int_cell HC.out HW.out.2.2.2 (k0 + 3) (by omega)
      have HWd := Aside0.mk (wcells_set b t (by omega))
      have HWa : Aside0 (wAt b (ws b t) t = BitVec.ofInt 32 (((b.getD k0 0 * 256 + b.getD (k0 + 1) 0) * 256 + b.getD (k0 + 2) 0) * 256 + b.getD (k0 + 3) 0)) := ⟨by rw [hk0]; exact if_pos hlt⟩
      obtain ⟨a0, a0'⟩ := byte_at HBy.out k0
      obtain ⟨a1, a1'⟩ := byte_at HBy.out (k0 + 1)
      obtain ⟨a2, a2'⟩ := byte_at HBy.out (k0 + 2)
      obtain ⟨a3, a3'⟩ := byte_at HBy.out (k0 + 3)
      generalize b.getD k0 0 = x0 at *
      generalize b.getD (k0 + 1) 0 = x1 at *
      generalize b.getD (k0 + 2) 0 = x2 at *
      generalize b.getD (k0 + 3) 0 = x3 at *
      have HV := Aside0.mk (word_val x0 x1 x2 x3 a0 a1 a2 a3 a0' a1' a2' a3')
      obtain ⟨k1, hk1⟩ : ∃ k1, k1 = k0 + 1 := ⟨_, rfl⟩
      obtain ⟨k2, hk2⟩ : ∃ k2, k2 = k0 + 2 := ⟨_, rfl⟩
      obtain ⟨k3, hk3⟩ : ∃ k3, k3 = k0 + 3 := ⟨_, rfl⟩
      rw [← hk1] at hx1
      rw [← hk2] at hx2
      rw [← hk3] at hx3
      have fi0 : IntKind.i64.wrap (4 * (t : Int)) = (k0 : Int) := by rw [IntWalk.i64_in _ (by omega)]; omega
      have fi1 : IntKind.i64.wrap ((k0 : Int) + 1) = (k1 : Int) := by rw [IntWalk.i64_in _ (by omega)]; omega
      have fi2 : IntKind.i64.wrap ((k0 : Int) + 2) = (k2 : Int) := by rw [IntWalk.i64_in _ (by omega)]; omega
      have fi3 : IntKind.i64.wrap ((k0 : Int) + 3) = (k3 : Int) := by rw [IntWalk.i64_in _ (by omega)]; omega
      have hti : (t : Int) < 64 := by omega
      have htj : t < 64 := by omega
      have hi0 : (k0 : Int) < 64 := by omega
      have hi1 : (k1 : Int) < 64 := by omega
      have hi2 : (k2 : Int) < 64 := by omega
      have hi3 : (k3 : Int) < 64 := by omega
      have hj0 : k0 < 64 := by omega
      have hj1 : k1 < 64 := by omega
      have hj2 : k2 < 64 := by omega
      have hj3 : k3 < 64 := by omega
      have fw0 : IntKind.i64.wrap x0 = x0 := IntWalk.i64_in _ (by omega)
      have fw1 : IntKind.i64.wrap x1 = x1 := IntWalk.i64_in _ (by omega)
      have fw2 : IntKind.i64.wrap x2 = x2 := IntWalk.i64_in _ (by omega)
      have fw3 : IntKind.i64.wrap x3 = x3 := IntWalk.i64_in _ (by omega)
      obtain ⟨y0, hy0⟩ : ∃ y, y = x0 * 16777216 := ⟨_, rfl⟩
      obtain ⟨y1, hy1⟩ : ∃ y, y = x1 * 65536 := ⟨_, rfl⟩
      obtain ⟨y2, hy2⟩ : ∃ y, y = x2 * 256 := ⟨_, rfl⟩
      have fm0 : IntKind.i64.wrap (x0 * 16777216) = y0 := by rw [IntWalk.i64_in _ (by omega), hy0]
      have fm1 : IntKind.i64.wrap (x1 * 65536) = y1 := by rw [IntWalk.i64_in _ (by omega), hy1]
      have fm2 : IntKind.i64.wrap (x2 * 256) = y2 := by rw [IntWalk.i64_in _ (by omega), hy2]
      obtain ⟨z1, hz1⟩ : ∃ y, y = y0 + y1 := ⟨_, rfl⟩
      obtain ⟨z2, hz2⟩ : ∃ y, y = z1 + y2 := ⟨_, rfl⟩
      obtain ⟨z3, hz3⟩ : ∃ y, y = z2 + x3 := ⟨_, rfl⟩
      have fs1 : IntKind.i64.wrap (y0 + y1) = z1 := by rw [IntWalk.i64_in _ (by omega), hz1]
      have fs2 : IntKind.i64.wrap (z1 + y2) = z2 := by rw [IntWalk.i64_in _ (by omega), hz2]
      have fs3 : IntKind.i64.wrap (z2 + x3) = z3 := by rw [IntWalk.i64_in _ (by omega), hz3]
      have HV3 : Aside0 (wi (BitVec.ofInt 32 (((x0 * 256 + x1) * 256 + x2) * 256 + x3)) = z3) := ⟨by rw [HV.out, hz3, hz2, hz1, hy0, hy1, hy2]⟩
      clear hz3 hz2 hz1 hy0 hy1 hy2 hk1 hk2 hk3 hk0 HV hbl
      have hst : ∃ v, wr.cell? ⟨w.heap.size + 1 + 1, t, none⟩ = some v := ⟨_, HW.out.cell t (by rw [wcells_length _ _ (by omega)]; omega)⟩
      obtain ⟨v0, hst⟩ := hst
      go_wp2
      go_still_tail 35, (by kernel_rfl)
      have HW2 : Aside0 (BlkW w a (wcells b t) wr.drew) := ⟨HW.out.below (below_drew (Below.refl _ _))⟩
      have hfz2 := HW2.out.froz t
      have hst2 : wr.drew.cell? ⟨w.heap.size + 1 + 1, t, none⟩ = some v0 := hst
      change wpList _ _ _ _ _ wr.drew
      generalize wr.drew = w2 at *
      go_wp2
      go_roundw
      case measure => simp [intOf]; omega
      case rel => exact ⟨t + 1, by omega, by go_num, ⟨by rw [← HWd.out, HWa.out]; have := HW2.out.set t (BitVec.ofInt 32 (((x0 * 256 + x1) * 256 + x2) * 256 + x3)); rw [HV3.out] at this; exact this⟩⟩
    · obtain rfl : t = 16 := by omega
      clear hlt ht
      go_wp2
      go_loopw [7] (fun v7 wr => ∃ t : Nat, 16 ≤ t ∧ t ≤ 64 ∧ v7 = .int .i64 t ∧ Aside0 (BlkW w a (wcells b t) wr)) (fun v7 _ => 64 - (intOf v7).toNat)
      case atStart => exact ⟨16, Nat.le_refl _, by decide, rfl, HW⟩
      case round =>
        clear HW
        obtain ⟨t, h16, ht, rfl, HW⟩ := hrel
        by_cases hlt2 : t < 64
        · obtain ⟨m, rfl⟩ : ∃ m, t = m + 16 := ⟨t - 16, by omega⟩
          have HWd := Aside0.mk (wcells_set b (m + 16) hlt2)
          have HLn : Aside0 ((wcells b (m + 16)).length = 64) := ⟨wcells_length _ _ (by omega)⟩
          have HWa : Aside0 (wAt b (ws b (m + 16)) (m + 16) = (ws b (m + 16)).getD m 0 + (ws b (m + 16)).getD (m + 9) 0 + sig0 ((ws b (m + 16)).getD (m + 1) 0) + sig1 ((ws b (m + 16)).getD (m + 14) 0)) := ⟨by rw [wAt, if_neg (by omega)]; rfl⟩
          have hl := HLn.out
          have hd : ∀ i, i < m + 16 → ∀ W : World, W.heap[w.heap.size + 1 + 1]? = some (.cells (nArr (wcells b (m + 16))) 68 (0, 0)) → W.cell? ⟨w.heap.size + 1 + 1, i, none⟩ = some (.int .i64 (wi ((ws b (m + 16)).getD i 0))) := fun i hi W hW => by
            rw [← wcells_get b (m + 16) i hi]
            exact (blk_cell hW i).trans (nArr_get _ i (by omega))
          have d0 := hd m (by omega)
          have d1 := hd (m + 1) (by omega)
          have d9 := hd (m + 9) (by omega)
          have d14 := hd (m + 14) (by omega)
          clear hd hl
          obtain ⟨q0, q1, q9, q14, a1, a14, z1, z2, z3, r, eq0, eq1, eq9, eq14, ea1, ea14, s1, s2, s3, s4, s5, s6, er⟩ := sched ((ws b (m + 16)).getD m 0) ((ws b (m + 16)).getD (m + 1) 0) ((ws b (m + 16)).getD (m + 9) 0) ((ws b (m + 16)).getD (m + 14) 0)
          rw [← HWa.out] at er
          generalize (ws b (m + 16)).getD m 0 = y0 at *
          generalize (ws b (m + 16)).getD (m + 1) 0 = y1 at *
          generalize (ws b (m + 16)).getD (m + 9) 0 = y9 at *
          generalize (ws b (m + 16)).getD (m + 14) 0 = y14 at *
          rw [eq0] at d0
          rw [eq1] at d1
          rw [eq9] at d9
          rw [eq14] at d14
          have Eq1 := Aside0.mk eq1
          have Eq14 := Aside0.mk eq14
          have Ea1 := Aside0.mk ea1
          have Ea14 := Aside0.mk ea14
          have Er := Aside0.mk er
          clear eq0 eq1 eq9 eq14 ea1 ea14 er HWa
          have i0 : IntKind.i64.wrap (((m + 16 : Nat) : Int) - 16) = (m : Int) := by rw [show ((m + 16 : Nat) : Int) - 16 = (m : Int) by omega]; exact IntWalk.i64_in _ (by omega)
          have i1 : IntKind.i64.wrap (((m + 16 : Nat) : Int) - 15) = ((m + 1 : Nat) : Int) := by rw [show ((m + 16 : Nat) : Int) - 15 = ((m + 1 : Nat) : Int) by omega]; exact IntWalk.i64_in _ (by omega)
          have i9 : IntKind.i64.wrap (((m + 16 : Nat) : Int) - 7) = ((m + 9 : Nat) : Int) := by rw [show ((m + 16 : Nat) : Int) - 7 = ((m + 9 : Nat) : Int) by omega]; exact IntWalk.i64_in _ (by omega)
          have i14 : IntKind.i64.wrap (((m + 16 : Nat) : Int) - 2) = ((m + 14 : Nat) : Int) := by rw [show ((m + 16 : Nat) : Int) - 2 = ((m + 14 : Nat) : Int) by omega]; exact IntWalk.i64_in _ (by omega)
          have b0 : (m : Int) < 64 := by omega
          have b1 : ((m + 1 : Nat) : Int) < 64 := by omega
          have b9 : ((m + 9 : Nat) : Int) < 64 := by omega
          have b14 : ((m + 14 : Nat) : Int) < 64 := by omega
          have b16 : ((m + 16 : Nat) : Int) < 64 := by omega
          generalize m + 16 = t at *
          generalize m + 1 = n1 at *
          generalize m + 9 = n9 at *
          generalize m + 14 = n14 at *
          have D0 := Aside0.mk d0
          have D1 := Aside0.mk d1
          have D9 := Aside0.mk d9
          have D14 := Aside0.mk d14
          clear d0 d1 d9 d14
          have hc0 : wr.cell? ⟨w.heap.size + 1 + 1, m, none⟩ = some (.int .i64 q0) := D0.out _ HW.out.2.2.1
          have hc1 : wr.cell? ⟨w.heap.size + 1 + 1, n1, none⟩ = some (.int .i64 q1) := D1.out _ HW.out.2.2.1
          have hc9 : wr.cell? ⟨w.heap.size + 1 + 1, n9, none⟩ = some (.int .i64 q9) := D9.out _ HW.out.2.2.1
          have hc14 : wr.cell? ⟨w.heap.size + 1 + 1, n14, none⟩ = some (.int .i64 q14) := D14.out _ HW.out.2.2.1
          go_wp2
          refine start_ (n := 27) (S := fun w' => w'.cell? ⟨w.heap.size + 1 + 1, m, none⟩ = some (.int .i64 q0) ∧ w'.cell? ⟨w.heap.size + 1 + 1, n1, none⟩ = some (.int .i64 q1) ∧ w'.cell? ⟨w.heap.size + 1 + 1, n9, none⟩ = some (.int .i64 q9) ∧ w'.cell? ⟨w.heap.size + 1 + 1, n14, none⟩ = some (.int .i64 q14)) (ds := [26]) #[false, false, false, false, false, false, false, false, false, false, false, false, false, false, false, false, false, false, false, false, false, false, false, false, false, false, false] (by kernel_rfl) rfl rfl ⟨hc0, hc1, hc9, hc14⟩ (fun hHeld => ?_)
          refine pure_ (i := 0) (N := some 59) (v := ?_) (a' := ?_) #[true, false, false, false, false, false, false, false, false, false, false, false, false, false, false, false, false, false, false, false, false, false, false, false, false, false, false] rfl rfl (by kernel_rfl) (fun _ _ _ h => h) (Or.inl ⟨by rfl, ?_⟩) ?_ ?_
          rotate_left
          · intro w'
            go_simp
            with_reducible rfl
          rotate_left
          · simp only [Act.put, List.setIfInBounds_toArray, List.set_cons_zero, List.set_cons_succ]
            rfl
          refine pure_ (i := 1) (N := some 60) (v := ?_) (a' := ?_) #[true, true, false, false, false, false, false, false, false, false, false, false, false, false, false, false, false, false, false, false, false, false, false, false, false, false, false] rfl rfl (by kernel_rfl) (fun _ _ _ h => h) (Or.inl ⟨by rfl, ?_⟩) ?_ ?_
          rotate_left
          · intro w'
            go_simp
            with_reducible rfl
          rotate_left
          · simp only [Act.put, List.setIfInBounds_toArray, List.set_cons_zero, List.set_cons_succ]
            rfl
          refine pure_ (i := 2) (N := some 61) (v := ?_) (a' := ?_) #[true, true, true, false, false, false, false, false, false, false, false, false, false, false, false, false, false, false, false, false, false, false, false, false, false, false, false] rfl rfl (by kernel_rfl) (fun _ _ _ h => h) (Or.inl ⟨by rfl, ?_⟩) ?_ ?_
          rotate_left
          · intro w'
            go_simp
            with_reducible rfl
          rotate_left
          · simp only [Act.put, List.setIfInBounds_toArray, List.set_cons_zero, List.set_cons_succ]
            rfl
          refine pure_ (i := 3) (N := some 62) (v := ?_) (a' := ?_) #[true, true, true, true, false, false, false, false, false, false, false, false, false, false, false, false, false, false, false, false, false, false, false, false, false, false, false] rfl rfl (by kernel_rfl) (fun _ _ _ h => h) (Or.inl ⟨by rfl, ?_⟩) ?_ ?_
          rotate_left
          · intro w'
            go_simp
            with_reducible rfl
          rotate_left
          · simp only [Act.put, List.setIfInBounds_toArray, List.set_cons_zero, List.set_cons_succ]
            rfl
          refine pure_ (i := 5) (N := some 64) (v := ?_) (a' := ?_) #[true, true, true, true, false, true, false, false, false, false, false, false, false, false, false, false, false, false, false, false, false, false, false, false, false, false, false] rfl rfl (by kernel_rfl) (fun _ _ _ h => h) (Or.inl ⟨by rfl, ?_⟩) ?_ ?_
          rotate_left
          · intro w'
            go_simp
            with_reducible rfl
          rotate_left
          · simp only [Act.put, List.setIfInBounds_toArray, List.set_cons_zero, List.set_cons_succ]
            rfl
          refine pure_ (i := 7) (N := some 66) (v := ?_) (a' := ?_) #[true, true, true, true, false, true, false, true, false, false, false, false, false, false, false, false, false, false, false, false, false, false, false, false, false, false, false] rfl rfl (by kernel_rfl) (fun _ _ _ h => h) (Or.inl ⟨by rfl, ?_⟩) ?_ ?_
          rotate_left
          · intro w'
            go_simp
            with_reducible rfl
          rotate_left
          · simp only [Act.put, List.setIfInBounds_toArray, List.set_cons_zero, List.set_cons_succ]
            rfl
          refine pure_ (i := 8) (N := some 67) (v := ?_) (a' := ?_) #[true, true, true, true, false, true, false, true, true, false, false, false, false, false, false, false, false, false, false, false, false, false, false, false, false, false, false] rfl rfl (by kernel_rfl) (fun _ _ _ h => h) (Or.inl ⟨by rfl, ?_⟩) ?_ ?_
          rotate_left
          · intro w'
            go_simp
            with_reducible rfl
          rotate_left
          · simp only [Act.put, List.setIfInBounds_toArray, List.set_cons_zero, List.set_cons_succ]
            rfl
          refine pure_ (i := 9) (N := some 68) (v := ?_) (a' := ?_) #[true, true, true, true, false, true, false, true, true, true, false, false, false, false, false, false, false, false, false, false, false, false, false, false, false, false, false] rfl rfl (by kernel_rfl) (fun _ _ _ h => h) (Or.inl ⟨by rfl, ?_⟩) ?_ ?_
          rotate_left
          · intro w'
            go_simp
            with_reducible rfl
          rotate_left
          · simp only [Act.put, List.setIfInBounds_toArray, List.set_cons_zero, List.set_cons_succ]
            rfl
          refine pure_ (i := 12) (N := some 71) (v := ?_) (a' := ?_) #[true, true, true, true, false, true, false, true, true, true, false, false, true, false, false, false, false, false, false, false, false, false, false, false, false, false, false] rfl rfl (by kernel_rfl) (fun _ _ _ h => h) (Or.inl ⟨by rfl, ?_⟩) ?_ ?_
          rotate_left
          · intro w'
            go_simp
            with_reducible rfl
          rotate_left
          · simp only [Act.put, List.setIfInBounds_toArray, List.set_cons_zero, List.set_cons_succ]
            rfl
          refine pure_ (i := 13) (N := some 72) (v := ?_) (a' := ?_) #[true, true, true, true, false, true, false, true, true, true, false, false, true, true, false, false, false, false, false, false, false, false, false, false, false, false, false] rfl rfl (by kernel_rfl) (fun _ _ _ h => h) (Or.inl ⟨by rfl, ?_⟩) ?_ ?_
          rotate_left
          · intro w'
            go_simp
            with_reducible rfl
          rotate_left
          · simp only [Act.put, List.setIfInBounds_toArray, List.set_cons_zero, List.set_cons_succ]
            rfl
          refine pure_ (i := 14) (N := some 73) (v := ?_) (a' := ?_) #[true, true, true, true, false, true, false, true, true, true, false, false, true, true, true, false, false, false, false, false, false, false, false, false, false, false, false] rfl rfl (by kernel_rfl) (fun _ _ _ h => h) (Or.inl ⟨by rfl, ?_⟩) ?_ ?_
          rotate_left
          · intro w'
            go_simp
            with_reducible rfl
          rotate_left
          · simp only [Act.put, List.setIfInBounds_toArray, List.set_cons_zero, List.set_cons_succ]
            rfl
          refine pure_ (i := 16) (N := some 75) (v := ?_) (a' := ?_) #[true, true, true, true, false, true, false, true, true, true, false, false, true, true, true, false, true, false, false, false, false, false, false, false, false, false, false] rfl rfl (by kernel_rfl) (fun _ _ _ h => h) (Or.inl ⟨by rfl, ?_⟩) ?_ ?_
          rotate_left
          · intro w'
            go_simp
            with_reducible rfl
          rotate_left
          · simp only [Act.put, List.setIfInBounds_toArray, List.set_cons_zero, List.set_cons_succ]
            rfl
          refine pure_ (i := 19) (N := some 78) (v := ?_) (a' := ?_) #[true, true, true, true, false, true, false, true, true, true, false, false, true, true, true, false, true, false, false, true, false, false, false, false, false, false, false] rfl rfl (by kernel_rfl) (fun _ _ _ h => h) (Or.inl ⟨by rfl, ?_⟩) ?_ ?_
          rotate_left
          · intro w'
            go_simp
            with_reducible rfl
          rotate_left
          · simp only [Act.put, List.setIfInBounds_toArray, List.set_cons_zero, List.set_cons_succ]
            rfl
          refine pure_ (i := 20) (N := some 79) (v := ?_) (a' := ?_) #[true, true, true, true, false, true, false, true, true, true, false, false, true, true, true, false, true, false, false, true, true, false, false, false, false, false, false] rfl rfl (by kernel_rfl) (fun _ _ _ h => h) (Or.inl ⟨by rfl, ?_⟩) ?_ ?_
          rotate_left
          · intro w'
            go_simp
            with_reducible rfl
          rotate_left
          · simp only [Act.put, List.setIfInBounds_toArray, List.set_cons_zero, List.set_cons_succ]
            rfl
          refine pure_ (i := 21) (N := some 80) (v := ?_) (a' := ?_) #[true, true, true, true, false, true, false, true, true, true, false, false, true, true, true, false, true, false, false, true, true, true, false, false, false, false, false] rfl rfl (by kernel_rfl) (fun _ _ _ h => h) (Or.inl ⟨by rfl, ?_⟩) ?_ ?_
          rotate_left
          · intro w'
            go_simp
            with_reducible rfl
          rotate_left
          · simp only [Act.put, List.setIfInBounds_toArray, List.set_cons_zero, List.set_cons_succ]
            rfl
          refine take_ (i := 4) (N := some 63) (v := ?_) (a' := ?_) #[true, true, true, true, true, true, false, true, true, true, false, false, true, true, true, false, true, false, false, true, true, true, false, false, false, false, false] rfl rfl (by kernel_rfl) (fun _ _ _ h => h) (Or.inl ⟨by rfl, ?_⟩) hHeld ?_ ?_
          rotate_left
          · rintro w' ⟨s0, s1, s2, s3⟩
            go_simp
            with_reducible rfl
          rotate_left
          · simp only [Act.put, List.setIfInBounds_toArray, List.set_cons_zero, List.set_cons_succ]
            rfl
          refine take_ (i := 10) (N := some 69) (v := ?_) (a' := ?_) #[true, true, true, true, true, true, false, true, true, true, true, false, true, true, true, false, true, false, false, true, true, true, false, false, false, false, false] rfl rfl (by kernel_rfl) (fun _ _ _ h => h) (Or.inl ⟨by rfl, ?_⟩) hHeld ?_ ?_
          rotate_left
          · rintro w' ⟨s0, s1, s2, s3⟩
            go_simp
            with_reducible rfl
          rotate_left
          · simp only [Act.put, List.setIfInBounds_toArray, List.set_cons_zero, List.set_cons_succ]
            rfl
          refine take_ (i := 15) (N := some 74) (v := ?_) (a' := ?_) #[true, true, true, true, true, true, false, true, true, true, true, false, true, true, true, true, true, false, false, true, true, true, false, false, false, false, false] rfl rfl (by kernel_rfl) (fun _ _ _ h => h) (Or.inl ⟨by rfl, ?_⟩) hHeld ?_ ?_
          rotate_left
          · rintro w' ⟨s0, s1, s2, s3⟩
            go_simp
            with_reducible rfl
          rotate_left
          · simp only [Act.put, List.setIfInBounds_toArray, List.set_cons_zero, List.set_cons_succ]
            rfl
          refine take_ (i := 22) (N := some 81) (v := ?_) (a' := ?_) #[true, true, true, true, true, true, false, true, true, true, true, false, true, true, true, true, true, false, false, true, true, true, true, false, false, false, false] rfl rfl (by kernel_rfl) (fun _ _ _ h => h) (Or.inl ⟨by rfl, ?_⟩) hHeld ?_ ?_
          rotate_left
          · rintro w' ⟨s0, s1, s2, s3⟩
            go_simp
            with_reducible rfl
          rotate_left
          · simp only [Act.put, List.setIfInBounds_toArray, List.set_cons_zero, List.set_cons_succ]
            rfl
          refine one_ (i := 6) (N := some 65) #[true, true, true, true, true, true, true, true, true, true, true, false, true, true, true, true, true, false, false, true, true, true, true, false, false, false, false] rfl rfl (by kernel_rfl) (by decide) (fun K hK => ?_)
          refine goes_ Tryd.func35 (by kernel_rfl) rfl #[.int .i64 q14, .agg #[.int .i64 17, .int .i64 19, .int .i64 10], .bool true] (by rfl) rfl rfl (by simp only [List.map_toArray, List.map_cons, List.map_nil]; rfl) ?_
          with_reducible refine (three_v y14 17 19 10 17 19 10 q14 a14 true _ rfl rfl rfl Eq14.out Ea14.out (by decide) (by decide) (by decide)).mono ?_
          rintro e w3 ⟨rfl, hb⟩
          refine ⟨_, rfl, ?_⟩
          have HW3 : Aside0 (BlkW w a (wcells b t) w3) := ⟨(HW.out.below (below_drew (Below.refl _ _))).below hb⟩
          clear hb
          have g0 : w3.cell? ⟨w.heap.size + 1 + 1, m, none⟩ = some (.int .i64 q0) := D0.out _ HW3.out.2.2.1
          have g1 : w3.cell? ⟨w.heap.size + 1 + 1, n1, none⟩ = some (.int .i64 q1) := D1.out _ HW3.out.2.2.1
          have g2 : w3.cell? ⟨w.heap.size + 1 + 1, n9, none⟩ = some (.int .i64 q9) := D9.out _ HW3.out.2.2.1
          have g3 : w3.cell? ⟨w.heap.size + 1 + 1, n14, none⟩ = some (.int .i64 q14) := D14.out _ HW3.out.2.2.1
          refine hK.out _ _ ⟨g0, g1, g2, g3⟩ (fun hHeld => ?_)
          clear hK K
          refine norm_ (a' := ?_) ?_ ?_
          rotate_left
          · show Act.put _ (some 65) _ = _
            simp only [Act.put, List.setIfInBounds_toArray, List.set_cons_zero, List.set_cons_succ]
            rfl
          refine pure_ (i := 11) (N := some 70) (v := ?_) (a' := ?_) #[true, true, true, true, true, true, true, true, true, true, true, true, true, true, true, true, true, false, false, true, true, true, true, false, false, false, false] rfl rfl (by kernel_rfl) (fun _ _ _ h => h) (Or.inl ⟨by rfl, ?_⟩) ?_ ?_
          rotate_left
          · intro w'
            go_simp
            with_reducible rfl
          rotate_left
          · simp only [Act.put, List.setIfInBounds_toArray, List.set_cons_zero, List.set_cons_succ]
            rfl
          refine one_ (i := 17) (N := some 76) #[true, true, true, true, true, true, true, true, true, true, true, true, true, true, true, true, true, true, false, true, true, true, true, false, false, false, false] rfl rfl (by kernel_rfl) (by decide) (fun K hK => ?_)
          refine goes_ Tryd.func35 (by kernel_rfl) rfl #[.int .i64 q1, .agg #[.int .i64 7, .int .i64 18, .int .i64 3], .bool true] (by rfl) rfl rfl (by simp only [List.map_toArray, List.map_cons, List.map_nil]; rfl) ?_
          with_reducible refine (three_v y1 7 18 3 7 18 3 q1 a1 true _ rfl rfl rfl Eq1.out Ea1.out (by decide) (by decide) (by decide)).mono ?_
          rintro e w4 ⟨rfl, hb⟩
          refine ⟨_, rfl, ?_⟩
          have HW4 : Aside0 (BlkW w a (wcells b t) w4) := ⟨HW3.out.below hb⟩
          clear hb
          have k0 : w4.cell? ⟨w.heap.size + 1 + 1, m, none⟩ = some (.int .i64 q0) := D0.out _ HW4.out.2.2.1
          have k1 : w4.cell? ⟨w.heap.size + 1 + 1, n1, none⟩ = some (.int .i64 q1) := D1.out _ HW4.out.2.2.1
          have k2 : w4.cell? ⟨w.heap.size + 1 + 1, n9, none⟩ = some (.int .i64 q9) := D9.out _ HW4.out.2.2.1
          have k3 : w4.cell? ⟨w.heap.size + 1 + 1, n14, none⟩ = some (.int .i64 q14) := D14.out _ HW4.out.2.2.1
          have f4 : w4.frozen? ⟨w.heap.size + 1 + 1, t, none⟩ = false := HW4.out.froz t
          obtain ⟨v4, hst4⟩ : ∃ v, w4.cell? ⟨w.heap.size + 1 + 1, t, none⟩ = some v := ⟨_, HW4.out.cell t (by rw [HLn.out]; omega)⟩
          refine hK.out _ _ ⟨k0, k1, k2, k3⟩ (fun hHeld => ?_)
          clear hK K
          refine norm_ (a' := ?_) ?_ ?_
          rotate_left
          · show Act.put _ (some 76) _ = _
            simp only [Act.put, List.setIfInBounds_toArray, List.set_cons_zero, List.set_cons_succ]
            rfl
          refine pure_ (i := 18) (N := some 77) (v := ?_) (a' := ?_) #[true, true, true, true, true, true, true, true, true, true, true, true, true, true, true, true, true, true, true, true, true, true, true, false, false, false, false] rfl rfl (by kernel_rfl) (fun _ _ _ h => h) (Or.inl ⟨by rfl, ?_⟩) ?_ ?_
          rotate_left
          · intro w'
            go_simp
            with_reducible rfl
          rotate_left
          · simp only [Act.put, List.setIfInBounds_toArray, List.set_cons_zero, List.set_cons_succ]
            rfl
          refine pure_ (i := 23) (N := some 82) (v := ?_) (a' := ?_) #[true, true, true, true, true, true, true, true, true, true, true, true, true, true, true, true, true, true, true, true, true, true, true, true, false, false, false] rfl rfl (by kernel_rfl) (fun _ _ _ h => h) (Or.inl ⟨by rfl, ?_⟩) ?_ ?_
          rotate_left
          · intro w'
            go_simp
            with_reducible rfl
          rotate_left
          · simp only [Act.put, List.setIfInBounds_toArray, List.set_cons_zero, List.set_cons_succ]
            rfl
          refine pure_ (i := 24) (N := some 83) (v := ?_) (a' := ?_) #[true, true, true, true, true, true, true, true, true, true, true, true, true, true, true, true, true, true, true, true, true, true, true, true, true, false, false] rfl rfl (by kernel_rfl) (fun _ _ _ h => h) (Or.inl ⟨by rfl, ?_⟩) ?_ ?_
          rotate_left
          · intro w'
            go_simp
            with_reducible rfl
          rotate_left
          · simp only [Act.put, List.setIfInBounds_toArray, List.set_cons_zero, List.set_cons_succ]
            rfl
          refine pure_ (i := 25) (N := some 84) (v := ?_) (a' := ?_) #[true, true, true, true, true, true, true, true, true, true, true, true, true, true, true, true, true, true, true, true, true, true, true, true, true, true, false] rfl rfl (by kernel_rfl) (fun _ _ _ h => h) (Or.inl ⟨by rfl, ?_⟩) ?_ ?_
          rotate_left
          · intro w'
            go_simp
            with_reducible rfl
          rotate_left
          · simp only [Act.put, List.setIfInBounds_toArray, List.set_cons_zero, List.set_cons_succ]
            rfl
          refine last_ (i := 26) (N := none) #[true, true, true, true, true, true, true, true, true, true, true, true, true, true, true, true, true, true, true, true, true, true, true, true, true, true, true] rfl rfl (by kernel_rfl) (by decide) (fun K hK => ?_)
          refine skip_ (w1 := ?_) (by rfl) rfl ?_ ?_
          rotate_left
          · go_simp
            rfl
          refine hK.out _ _ ?_
          clear hK K
          refine done_ (by kernel_rfl) ?_
          clear hHeld hc0 hc1 hc9 hc14 g0 g1 g2 g3 k0 k1 k2 k3 s1 s2 s3 s4 s5 s6 f4 hst4
          go_wp2
          go_roundw
          case measure => simp [intOf]; omega
          case rel => exact ⟨t + 1, by omega, by omega, by go_num, ⟨by rw [← HWd.out]; have := HW4.out.set t (wAt b (ws b t) t); rw [← Er.out] at this; exact this⟩⟩
        · obtain rfl : t = 64 := by omega
          have hw64 : wcells b 64 = ws b 64 := by simp [wcells]
          rw [hw64] at HW
          clear hw64 hlt2 ht h16
          have hln : (ws b 64).length = 64 := ws_length b 64
          obtain ⟨wl, hwl⟩ : ∃ wl, wl = ws b 64 := ⟨_, rfl⟩
          rw [← hwl] at HW hln
          have HWl := Aside0.mk hwl
          have HLn := Aside0.mk hln
          clear hwl hln
          obtain ⟨sa, sb, sc, sd, se, sf, sg, sh⟩ := s
          obtain rfl : a = #[.int .i64 (wi sa), .int .i64 (wi sb), .int .i64 (wi sc), .int .i64 (wi sd), .int .i64 (wi se), .int .i64 (wi sf), .int .i64 (wi sg), .int .i64 (wi sh)] := HA.out
          go_wp2_with (fail)
          refine (constants_calls _).mono ?_
          rintro e w3 ⟨rfl, hb⟩
          have HW3 : Aside0 (BlkW w #[.int .i64 (wi sa), .int .i64 (wi sb), .int .i64 (wi sc), .int .i64 (wi sd), .int .i64 (wi se), .int .i64 (wi sf), .int .i64 (wi sg), .int .i64 (wi sh)] wl w3) := ⟨HW.out.below hb⟩
          clear hb HW HA
          have HK1 := Aside0.mk kA_info
          have HK2 := Aside0.mk (nArr_one kL)
          have HK3 : Aside0 ((nArr (List.replicate 64 0)).size = (nArr kL).size) := ⟨by rw [nArr_size, nArr_size]; rfl⟩
          have HS0 : Aside0 (∀ o : Obj, (w3.alloc o).cell? ⟨w.heap.size, 0, none⟩ = some (.int .i64 (wi sa))) := ⟨fun o => blk_cell (HW3.out.below (bel_alloc (Below.refl _ _) o)).1 0⟩
          have HS1 : Aside0 (∀ o : Obj, (w3.alloc o).cell? ⟨w.heap.size, 1, none⟩ = some (.int .i64 (wi sb))) := ⟨fun o => blk_cell (HW3.out.below (bel_alloc (Below.refl _ _) o)).1 1⟩
          have HS2 : Aside0 (∀ o : Obj, (w3.alloc o).cell? ⟨w.heap.size, 2, none⟩ = some (.int .i64 (wi sc))) := ⟨fun o => blk_cell (HW3.out.below (bel_alloc (Below.refl _ _) o)).1 2⟩
          have HS3 : Aside0 (∀ o : Obj, (w3.alloc o).cell? ⟨w.heap.size, 3, none⟩ = some (.int .i64 (wi sd))) := ⟨fun o => blk_cell (HW3.out.below (bel_alloc (Below.refl _ _) o)).1 3⟩
          have HS4 : Aside0 (∀ o : Obj, (w3.alloc o).cell? ⟨w.heap.size, 4, none⟩ = some (.int .i64 (wi se))) := ⟨fun o => blk_cell (HW3.out.below (bel_alloc (Below.refl _ _) o)).1 4⟩
          have HS5 : Aside0 (∀ o : Obj, (w3.alloc o).cell? ⟨w.heap.size, 5, none⟩ = some (.int .i64 (wi sf))) := ⟨fun o => blk_cell (HW3.out.below (bel_alloc (Below.refl _ _) o)).1 5⟩
          have HS6 : Aside0 (∀ o : Obj, (w3.alloc o).cell? ⟨w.heap.size, 6, none⟩ = some (.int .i64 (wi sg))) := ⟨fun o => blk_cell (HW3.out.below (bel_alloc (Below.refl _ _) o)).1 6⟩
          have HS7 : Aside0 (∀ o : Obj, (w3.alloc o).cell? ⟨w.heap.size, 7, none⟩ = some (.int .i64 (wi sh))) := ⟨fun o => blk_cell (HW3.out.below (bel_alloc (Below.refl _ _) o)).1 7⟩
          go_wp2_with (rw [z64_lit]; (with_reducible refine wpList_store_row rfl 68 (.tmp 8) (.tmp 85) rfl w3.heap.size (nArr kL) rfl rfl 68 (nArr (List.replicate 64 0)) (heap_alloc_new _ _) HK1.out HK3.out HK2.out ?_); rw [World.setRow_alloc_new]; have HN4 : Aside0 ((w3.alloc (.cells (nArr kL) 68)).heap[w3.heap.size]? = some (.cells (nArr kL) 68 (0, 0))) := ⟨heap_alloc_new _ _⟩; have HW4 : Aside0 (BlkW w #[.int .i64 (wi sa), .int .i64 (wi sb), .int .i64 (wi sc), .int .i64 (wi sd), .int .i64 (wi se), .int .i64 (wi sf), .int .i64 (wi sg), .int .i64 (wi sh)] wl (w3.alloc (.cells (nArr kL) 68))) := ⟨HW3.out.below (bel_alloc (Below.refl _ _) _)⟩; have HZ4 : Aside0 (w.heap.size + 1 + 1 < w3.heap.size) := ⟨blk_lt HW3.out.2.2.1⟩; have hs0 := HS0.out (.cells (nArr kL) 68); have hs1 := HS1.out (.cells (nArr kL) 68); have hs2 := HS2.out (.cells (nArr kL) 68); have hs3 := HS3.out (.cells (nArr kL) 68); have hs4 := HS4.out (.cells (nArr kL) 68); have hs5 := HS5.out (.cells (nArr kL) 68); have hs6 := HS6.out (.cells (nArr kL) 68); have hs7 := HS7.out (.cells (nArr kL) 68); generalize w3.alloc (.cells (nArr kL) 68) = w4 at *; generalize w3.heap.size = nk at *)
          have HL5 : Aside0 (BlkL w #[.int .i64 (wi sa), .int .i64 (wi sb), .int .i64 (wi sc), .int .i64 (wi sd), .int .i64 (wi se), .int .i64 (wi sf), .int .i64 (wi sg), .int .i64 (wi sh)] wl nk w4.heap.size (rs ⟨sa, sb, sc, sd, se, sf, sg, sh⟩ wl 0).l (w4.alloc (.cells #[.int .i64 (wi sa), .int .i64 (wi sb), .int .i64 (wi sc), .int .i64 (wi sd), .int .i64 (wi se), .int .i64 (wi sf), .int .i64 (wi sg), .int .i64 (wi sh)] 53))) := ⟨HW4.out.below (bel_alloc (Below.refl _ _) _), ((bel_alloc (Below.refl _ _) _).block _ (blk_lt HN4.out)).trans HN4.out, heap_alloc_new _ _, HZ4.out, blk_lt HN4.out⟩
          generalize w4.heap.size = n3 at *
          generalize w4.alloc (.cells #[.int .i64 (wi sa), .int .i64 (wi sb), .int .i64 (wi sc), .int .i64 (wi sd), .int .i64 (wi se), .int .i64 (wi sf), .int .i64 (wi sg), .int .i64 (wi sh)] 53) = w5 at *
          clear HS0 HS1 HS2 HS3 HS4 HS5 HS6 HS7 hs0 hs1 hs2 hs3 hs4 hs5 hs6 hs7 HW4 HN4 HZ4 HW3
          go_loopw [10] (fun v10 wr' => ∃ t : Nat, t ≤ 64 ∧ v10 = .int .i64 t ∧ Aside0 (BlkL w #[.int .i64 (wi sa), .int .i64 (wi sb), .int .i64 (wi sc), .int .i64 (wi sd), .int .i64 (wi se), .int .i64 (wi sf), .int .i64 (wi sg), .int .i64 (wi sh)] wl nk n3 (rs ⟨sa, sb, sc, sd, se, sf, sg, sh⟩ wl t).l wr')) (fun v10 _ => 64 - (intOf v10).toNat)
          case atStart => exact ⟨0, Nat.zero_le _, rfl, HL5⟩
          case round =>
            clear HL5
            obtain ⟨t, ht, rfl, HT⟩ := hrel
            by_cases hlt : t < 64
            · have hltI : (t : Int) < 64 := by omega
              obtain ⟨kt, hkt⟩ : ∃ kt, kL.getD t 0 = kt := ⟨_, rfl⟩
              obtain ⟨wt, hwt⟩ : ∃ wt, wl.getD t 0 = wt := ⟨_, rfl⟩
              obtain ⟨st, hst⟩ : ∃ st, st = rs ⟨sa, sb, sc, sd, se, sf, sg, sh⟩ wl t := ⟨_, rfl⟩
              have HN : Aside0 (rs ⟨sa, sb, sc, sd, se, sf, sg, sh⟩ wl (t + 1) = rnd st kt wt) := ⟨by
                show rnd (rs ⟨sa, sb, sc, sd, se, sf, sg, sh⟩ wl t) (kL.getD t 0) (wl.getD t 0) = _
                rw [← hst, hkt, hwt]⟩
              rw [← hst] at HT
              obtain ⟨p0, p1, p2, p3, p4, p5, p6, p7⟩ := st
              obtain ⟨e0, e1, e2, e3, e4, e5, e6, e7, kk, ww, c1, n4, c2, ch, m1, m2, m3, m4, mj, t4, t0, u1, u2, u3, P, Q, R0, R4, r0, r4, ⟨E0, E1, E2, E3, E4, E5, E6, E7, EK, EW, ET4, ET0⟩, ⟨a1, a2, a3, a4, a5, a6, a7, a8, a9⟩, ⟨b1, b2, b3, b4, b5⟩, ⟨d1, d2, d3, d4, d5, d6, d7, d8⟩, ER0, ER4⟩ := roundN p0 p1 p2 p3 p4 p5 p6 p7 kt wt
              have HKc : Aside0 (∀ W : World, W.heap[nk]? = some (.cells (nArr kL) 68 (0, 0)) → W.cell? ⟨nk, t, none⟩ = some (.int .i64 kk)) := ⟨fun W hW => by rw [← EK, ← hkt]; exact (blk_cell hW t).trans (nArr_get _ t hlt)⟩
              have HWc : Aside0 (∀ W : World, W.heap[w.heap.size + 1 + 1]? = some (.cells (nArr wl) 68 (0, 0)) → W.cell? ⟨w.heap.size + 1 + 1, t, none⟩ = some (.int .i64 ww)) := ⟨fun W hW => by rw [← EW, ← hwt]; exact (blk_cell hW t).trans (nArr_get _ t (by rw [HLn.out]; exact hlt))⟩
              have HT : Aside0 (BlkL w #[.int .i64 (wi sa), .int .i64 (wi sb), .int .i64 (wi sc), .int .i64 (wi sd), .int .i64 (wi se), .int .i64 (wi sf), .int .i64 (wi sg), .int .i64 (wi sh)] wl nk n3 [p0, p1, p2, p3, p4, p5, p6, p7] wr) := HT
              clear hkt hwt hst EK EW
              replace E0 := Aside0.mk E0
              replace E1 := Aside0.mk E1
              replace E2 := Aside0.mk E2
              replace E3 := Aside0.mk E3
              replace E4 := Aside0.mk E4
              replace E5 := Aside0.mk E5
              replace E6 := Aside0.mk E6
              replace E7 := Aside0.mk E7
              replace ET4 := Aside0.mk ET4
              replace ET0 := Aside0.mk ET0
              replace ER0 := Aside0.mk ER0
              replace ER4 := Aside0.mk ER4
              have h0 : wr.cell? ⟨n3, 0, none⟩ = some (.int .i64 e0) := by rw [← E0.out]; exact blk_cell HT.out.2.2.1 0
              have h1 : wr.cell? ⟨n3, 1, none⟩ = some (.int .i64 e1) := by rw [← E1.out]; exact blk_cell HT.out.2.2.1 1
              have h2 : wr.cell? ⟨n3, 2, none⟩ = some (.int .i64 e2) := by rw [← E2.out]; exact blk_cell HT.out.2.2.1 2
              have h3 : wr.cell? ⟨n3, 3, none⟩ = some (.int .i64 e3) := by rw [← E3.out]; exact blk_cell HT.out.2.2.1 3
              have h4 : wr.cell? ⟨n3, 4, none⟩ = some (.int .i64 e4) := by rw [← E4.out]; exact blk_cell HT.out.2.2.1 4
              have h5 : wr.cell? ⟨n3, 5, none⟩ = some (.int .i64 e5) := by rw [← E5.out]; exact blk_cell HT.out.2.2.1 5
              have h6 : wr.cell? ⟨n3, 6, none⟩ = some (.int .i64 e6) := by rw [← E6.out]; exact blk_cell HT.out.2.2.1 6
              have h7 : wr.cell? ⟨n3, 7, none⟩ = some (.int .i64 e7) := by rw [← E7.out]; exact blk_cell HT.out.2.2.1 7
              have hk := HKc.out wr HT.out.2.1
              have hw := HWc.out wr HT.out.1.2.2.1
              go_wp2
              refine start_ (n := 18) (S := fun w' => w'.cell? ⟨n3, 7, none⟩ = some (.int .i64 e7) ∧ w'.cell? ⟨n3, 4, none⟩ = some (.int .i64 e4) ∧ w'.cell? ⟨nk, t, none⟩ = some (.int .i64 kk) ∧ w'.cell? ⟨w.heap.size + 1 + 1, t, none⟩ = some (.int .i64 ww)) (ds := []) #[false, false, false, false, false, false, false, false, false, false, false, false, false, false, false, false, false, false] (by kernel_rfl) rfl rfl ⟨h7, h4, hk, hw⟩ (fun hHeld => ?_)
              refine pure_ (i := 0) (N := some 120) (v := ?_) (a' := ?_) #[true, false, false, false, false, false, false, false, false, false, false, false, false, false, false, false, false, false] rfl rfl (by kernel_rfl) (fun _ _ _ h => h) (Or.inl ⟨by rfl, ?_⟩) ?_ ?_
              rotate_left
              · intro w'
                go_simp
                with_reducible rfl
              rotate_left
              · simp only [Act.put, List.setIfInBounds_toArray, List.set_cons_zero, List.set_cons_succ]
                rfl
              refine pure_ (i := 2) (N := some 122) (v := ?_) (a' := ?_) #[true, false, true, false, false, false, false, false, false, false, false, false, false, false, false, false, false, false] rfl rfl (by kernel_rfl) (fun _ _ _ h => h) (Or.inl ⟨by rfl, ?_⟩) ?_ ?_
              rotate_left
              · intro w'
                go_simp
                with_reducible rfl
              rotate_left
              · simp only [Act.put, List.setIfInBounds_toArray, List.set_cons_zero, List.set_cons_succ]
                rfl
              refine pure_ (i := 4) (N := some 124) (v := ?_) (a' := ?_) #[true, false, true, false, true, false, false, false, false, false, false, false, false, false, false, false, false, false] rfl rfl (by kernel_rfl) (fun _ _ _ h => h) (Or.inl ⟨by rfl, ?_⟩) ?_ ?_
              rotate_left
              · intro w'
                go_simp
                with_reducible rfl
              rotate_left
              · simp only [Act.put, List.setIfInBounds_toArray, List.set_cons_zero, List.set_cons_succ]
                rfl
              refine pure_ (i := 7) (N := some 127) (v := ?_) (a' := ?_) #[true, false, true, false, true, false, false, true, false, false, false, false, false, false, false, false, false, false] rfl rfl (by kernel_rfl) (fun _ _ _ h => h) (Or.inl ⟨by rfl, ?_⟩) ?_ ?_
              rotate_left
              · intro w'
                go_simp
                with_reducible rfl
              rotate_left
              · simp only [Act.put, List.setIfInBounds_toArray, List.set_cons_zero, List.set_cons_succ]
                rfl
              refine pure_ (i := 9) (N := some 129) (v := ?_) (a' := ?_) #[true, false, true, false, true, false, false, true, false, true, false, false, false, false, false, false, false, false] rfl rfl (by kernel_rfl) (fun _ _ _ h => h) (Or.inl ⟨by rfl, ?_⟩) ?_ ?_
              rotate_left
              · intro w'
                go_simp
                with_reducible rfl
              rotate_left
              · simp only [Act.put, List.setIfInBounds_toArray, List.set_cons_zero, List.set_cons_succ]
                rfl
              refine pure_ (i := 10) (N := some 130) (v := ?_) (a' := ?_) #[true, false, true, false, true, false, false, true, false, true, true, false, false, false, false, false, false, false] rfl rfl (by kernel_rfl) (fun _ _ _ h => h) (Or.inl ⟨by rfl, ?_⟩) ?_ ?_
              rotate_left
              · intro w'
                go_simp
                with_reducible rfl
              rotate_left
              · simp only [Act.put, List.setIfInBounds_toArray, List.set_cons_zero, List.set_cons_succ]
                rfl
              refine pure_ (i := 13) (N := some 133) (v := ?_) (a' := ?_) #[true, false, true, false, true, false, false, true, false, true, true, false, false, true, false, false, false, false] rfl rfl (by kernel_rfl) (fun _ _ _ h => h) (Or.inl ⟨by rfl, ?_⟩) ?_ ?_
              rotate_left
              · intro w'
                go_simp
                with_reducible rfl
              rotate_left
              · simp only [Act.put, List.setIfInBounds_toArray, List.set_cons_zero, List.set_cons_succ]
                rfl
              refine pure_ (i := 14) (N := some 134) (v := ?_) (a' := ?_) #[true, false, true, false, true, false, false, true, false, true, true, false, false, true, true, false, false, false] rfl rfl (by kernel_rfl) (fun _ _ _ h => h) (Or.inl ⟨by rfl, ?_⟩) ?_ ?_
              rotate_left
              · intro w'
                go_simp
                with_reducible rfl
              rotate_left
              · simp only [Act.put, List.setIfInBounds_toArray, List.set_cons_zero, List.set_cons_succ]
                rfl
              refine take_ (i := 1) (N := some 121) (v := ?_) (a' := ?_) #[true, true, true, false, true, false, false, true, false, true, true, false, false, true, true, false, false, false] rfl rfl (by kernel_rfl) (fun _ _ _ h => h) (Or.inl ⟨by rfl, ?_⟩) hHeld ?_ ?_
              rotate_left
              · rintro w' ⟨s0, s1, s2, s3⟩
                go_simp
                with_reducible rfl
              rotate_left
              · simp only [Act.put, List.setIfInBounds_toArray, List.set_cons_zero, List.set_cons_succ]
                rfl
              refine take_ (i := 3) (N := some 123) (v := ?_) (a' := ?_) #[true, true, true, true, true, false, false, true, false, true, true, false, false, true, true, false, false, false] rfl rfl (by kernel_rfl) (fun _ _ _ h => h) (Or.inl ⟨by rfl, ?_⟩) hHeld ?_ ?_
              rotate_left
              · rintro w' ⟨s0, s1, s2, s3⟩
                go_simp
                with_reducible rfl
              rotate_left
              · simp only [Act.put, List.setIfInBounds_toArray, List.set_cons_zero, List.set_cons_succ]
                rfl
              refine take_ (i := 11) (N := some 131) (v := ?_) (a' := ?_) #[true, true, true, true, true, false, false, true, false, true, true, true, false, true, true, false, false, false] rfl rfl (by kernel_rfl) (fun _ _ _ h => h) (Or.inl ⟨by rfl, ?_⟩) hHeld ?_ ?_
              rotate_left
              · rintro w' ⟨s0, s1, s2, s3⟩
                go_simp
                with_reducible rfl
              rotate_left
              · simp only [Act.put, List.setIfInBounds_toArray, List.set_cons_zero, List.set_cons_succ]
                rfl
              refine take_ (i := 15) (N := some 135) (v := ?_) (a' := ?_) #[true, true, true, true, true, false, false, true, false, true, true, true, false, true, true, true, false, false] rfl rfl (by kernel_rfl) (fun _ _ _ h => h) (Or.inl ⟨by rfl, ?_⟩) hHeld ?_ ?_
              rotate_left
              · rintro w' ⟨s0, s1, s2, s3⟩
                go_simp
                with_reducible rfl
              rotate_left
              · simp only [Act.put, List.setIfInBounds_toArray, List.set_cons_zero, List.set_cons_succ]
                rfl
              refine one_ (i := 5) (N := some 125) #[true, true, true, true, true, true, false, true, false, true, true, true, false, true, true, true, false, false] rfl rfl (by kernel_rfl) (by decide) (fun K hK => ?_)
              refine goes_ Tryd.func35 (by kernel_rfl) rfl #[.int .i64 e4, .agg #[.int .i64 6, .int .i64 11, .int .i64 25], .bool false] (by rfl) rfl rfl (by simp only [List.map_toArray, List.map_cons, List.map_nil]; rfl) ?_
              with_reducible refine (three_v p4 6 11 25 6 11 25 e4 t4 false _ rfl rfl rfl E4.out ET4.out (by decide) (by decide) (by decide)).mono ?_
              rintro e w5 ⟨rfl, hb⟩
              refine ⟨_, rfl, ?_⟩
              have HT5 : Aside0 (BlkL w #[.int .i64 (wi sa), .int .i64 (wi sb), .int .i64 (wi sc), .int .i64 (wi sd), .int .i64 (wi se), .int .i64 (wi sf), .int .i64 (wi sg), .int .i64 (wi sh)] wl nk n3 [p0, p1, p2, p3, p4, p5, p6, p7] w5) := ⟨(HT.out.below (below_drew (Below.refl _ _))).below hb⟩
              clear hb
              have g0 : w5.cell? ⟨n3, 7, none⟩ = some (.int .i64 e7) := by rw [← E7.out]; exact blk_cell HT5.out.2.2.1 7
              have g1 : w5.cell? ⟨n3, 4, none⟩ = some (.int .i64 e4) := by rw [← E4.out]; exact blk_cell HT5.out.2.2.1 4
              have g2 : w5.cell? ⟨nk, t, none⟩ = some (.int .i64 kk) := HKc.out w5 HT5.out.2.1
              have g3 : w5.cell? ⟨w.heap.size + 1 + 1, t, none⟩ = some (.int .i64 ww) := HWc.out w5 HT5.out.1.2.2.1
              refine hK.out _ _ ⟨g0, g1, g2, g3⟩ (fun hHeld => ?_)
              clear hK K
              refine norm_ (a' := ?_) ?_ ?_
              rotate_left
              · show Act.put _ (some 125) _ = _
                simp only [Act.put, List.setIfInBounds_toArray, List.set_cons_zero, List.set_cons_succ]
                rfl
              refine pure_ (i := 6) (N := some 126) (v := ?_) (a' := ?_) #[true, true, true, true, true, true, true, true, false, true, true, true, false, true, true, true, false, false] rfl rfl (by kernel_rfl) (fun _ _ _ h => h) (Or.inl ⟨by rfl, ?_⟩) ?_ ?_
              rotate_left
              · intro w'
                go_simp
                with_reducible rfl
              rotate_left
              · simp only [Act.put, List.setIfInBounds_toArray, List.set_cons_zero, List.set_cons_succ]
                rfl
              refine pure_ (i := 8) (N := some 128) (v := ?_) (a' := ?_) #[true, true, true, true, true, true, true, true, true, true, true, true, false, true, true, true, false, false] rfl rfl (by kernel_rfl) (fun _ _ _ h => h) (Or.inl ⟨by rfl, ?_⟩) ?_ ?_
              rotate_left
              · intro w'
                go_simp
                with_reducible rfl
              rotate_left
              · simp only [Act.put, List.setIfInBounds_toArray, List.set_cons_zero, List.set_cons_succ]
                rfl
              refine pure_ (i := 12) (N := some 132) (v := ?_) (a' := ?_) #[true, true, true, true, true, true, true, true, true, true, true, true, true, true, true, true, false, false] rfl rfl (by kernel_rfl) (fun _ _ _ h => h) (Or.inl ⟨by rfl, ?_⟩) ?_ ?_
              rotate_left
              · intro w'
                go_simp
                with_reducible rfl
              rotate_left
              · simp only [Act.put, List.setIfInBounds_toArray, List.set_cons_zero, List.set_cons_succ]
                rfl
              refine pure_ (i := 16) (N := some 136) (v := ?_) (a' := ?_) #[true, true, true, true, true, true, true, true, true, true, true, true, true, true, true, true, true, false] rfl rfl (by kernel_rfl) (fun _ _ _ h => h) (Or.inl ⟨by rfl, ?_⟩) ?_ ?_
              rotate_left
              · intro w'
                go_simp
                with_reducible rfl
              rotate_left
              · simp only [Act.put, List.setIfInBounds_toArray, List.set_cons_zero, List.set_cons_succ]
                rfl
              refine pure_ (i := 17) (N := some 13) (v := ?_) (a' := ?_) #[true, true, true, true, true, true, true, true, true, true, true, true, true, true, true, true, true, true] rfl rfl (by kernel_rfl) (fun _ _ _ h => h) (Or.inl ⟨by rfl, ?_⟩) ?_ ?_
              rotate_left
              · intro w'
                go_simp
                with_reducible rfl
              rotate_left
              · simp only [Act.put, List.setIfInBounds_toArray, List.set_cons_zero, List.set_cons_succ]
                rfl
              refine done_ (by kernel_rfl) ?_
              clear hHeld h0 h1 h2 h3 h4 h5 h6 h7 hk hw g0 g1 g2 g3 HT
              have h0 : w5.cell? ⟨n3, 0, none⟩ = some (.int .i64 e0) := by rw [← E0.out]; exact blk_cell HT5.out.2.2.1 0
              have h1 : w5.cell? ⟨n3, 1, none⟩ = some (.int .i64 e1) := by rw [← E1.out]; exact blk_cell HT5.out.2.2.1 1
              have h2 : w5.cell? ⟨n3, 2, none⟩ = some (.int .i64 e2) := by rw [← E2.out]; exact blk_cell HT5.out.2.2.1 2
              have h3 : w5.cell? ⟨n3, 3, none⟩ = some (.int .i64 e3) := by rw [← E3.out]; exact blk_cell HT5.out.2.2.1 3
              have h4 : w5.cell? ⟨n3, 4, none⟩ = some (.int .i64 e4) := by rw [← E4.out]; exact blk_cell HT5.out.2.2.1 4
              have h5 : w5.cell? ⟨n3, 5, none⟩ = some (.int .i64 e5) := by rw [← E5.out]; exact blk_cell HT5.out.2.2.1 5
              have h6 : w5.cell? ⟨n3, 6, none⟩ = some (.int .i64 e6) := by rw [← E6.out]; exact blk_cell HT5.out.2.2.1 6
              have h7 : w5.cell? ⟨n3, 7, none⟩ = some (.int .i64 e7) := by rw [← E7.out]; exact blk_cell HT5.out.2.2.1 7
              go_wp2_with (fail)
              refine (three_v p0 2 13 22 2 13 22 e0 t0 false _ rfl rfl rfl E0.out ET0.out (by decide) (by decide) (by decide)).mono ?_
              rintro e w6 ⟨rfl, hb⟩
              have HT6 : Aside0 (BlkL w #[.int .i64 (wi sa), .int .i64 (wi sb), .int .i64 (wi sc), .int .i64 (wi sd), .int .i64 (wi se), .int .i64 (wi sf), .int .i64 (wi sg), .int .i64 (wi sh)] wl nk n3 [p0, p1, p2, p3, p4, p5, p6, p7] w6) := ⟨HT5.out.below hb⟩
              clear hb h0 h1 h2 h3 h4 h5 h6 h7 HT5
              have h0 : w6.cell? ⟨n3, 0, none⟩ = some (.int .i64 e0) := by rw [← E0.out]; exact blk_cell HT6.out.2.2.1 0
              have h1 : w6.cell? ⟨n3, 1, none⟩ = some (.int .i64 e1) := by rw [← E1.out]; exact blk_cell HT6.out.2.2.1 1
              have h2 : w6.cell? ⟨n3, 2, none⟩ = some (.int .i64 e2) := by rw [← E2.out]; exact blk_cell HT6.out.2.2.1 2
              have h3 : w6.cell? ⟨n3, 3, none⟩ = some (.int .i64 e3) := by rw [← E3.out]; exact blk_cell HT6.out.2.2.1 3
              have h4 : w6.cell? ⟨n3, 4, none⟩ = some (.int .i64 e4) := by rw [← E4.out]; exact blk_cell HT6.out.2.2.1 4
              have h5 : w6.cell? ⟨n3, 5, none⟩ = some (.int .i64 e5) := by rw [← E5.out]; exact blk_cell HT6.out.2.2.1 5
              have h6 : w6.cell? ⟨n3, 6, none⟩ = some (.int .i64 e6) := by rw [← E6.out]; exact blk_cell HT6.out.2.2.1 6
              have h7 : w6.cell? ⟨n3, 7, none⟩ = some (.int .i64 e7) := by rw [← E7.out]; exact blk_cell HT6.out.2.2.1 7
              have f0 : w6.frozen? ⟨n3, 0, none⟩ = false := blk_frozen HT6.out.2.2.1 0
              have f1 : w6.frozen? ⟨n3, 1, none⟩ = false := blk_frozen HT6.out.2.2.1 1
              have f2 : w6.frozen? ⟨n3, 2, none⟩ = false := blk_frozen HT6.out.2.2.1 2
              have f3 : w6.frozen? ⟨n3, 3, none⟩ = false := blk_frozen HT6.out.2.2.1 3
              have f4 : w6.frozen? ⟨n3, 4, none⟩ = false := blk_frozen HT6.out.2.2.1 4
              have f5 : w6.frozen? ⟨n3, 5, none⟩ = false := blk_frozen HT6.out.2.2.1 5
              have f6 : w6.frozen? ⟨n3, 6, none⟩ = false := blk_frozen HT6.out.2.2.1 6
              have f7 : w6.frozen? ⟨n3, 7, none⟩ = false := blk_frozen HT6.out.2.2.1 7
              go_wp2
              go_roundw
              case measure => simp [intOf]; omega
              case rel => exact ⟨t + 1, by omega, by go_num, ⟨by rw [HN.out]; have := HT6.out.set8 rfl (rnd ⟨p0, p1, p2, p3, p4, p5, p6, p7⟩ kt wt); obtain rfl := E0.out; obtain rfl := E1.out; obtain rfl := E2.out; obtain rfl := E3.out; obtain rfl := E4.out; obtain rfl := E5.out; obtain rfl := E6.out; obtain rfl := E7.out; obtain rfl := ER0.out; obtain rfl := ER4.out; exact this⟩⟩
            · obtain rfl : t = 64 := by omega
              clear hlt ht
              have HV : Aside0 (turnV ⟨sa, sb, sc, sd, se, sf, sg, sh⟩ b = (rs ⟨sa, sb, sc, sd, se, sf, sg, sh⟩ wl 64).add ⟨sa, sb, sc, sd, se, sf, sg, sh⟩) := ⟨by rw [HWl.out]; rfl⟩
              generalize rs ⟨sa, sb, sc, sd, se, sf, sg, sh⟩ wl 64 = st at *
              go_wp2
              go_loopw [15] (fun v15 wr' => ∃ i : Nat, i ≤ 8 ∧ v15 = .int .i64 i ∧ Aside0 (BlkL w #[.int .i64 (wi sa), .int .i64 (wi sb), .int .i64 (wi sc), .int .i64 (wi sd), .int .i64 (wi se), .int .i64 (wi sf), .int .i64 (wi sg), .int .i64 (wi sh)] wl nk n3 (mix st.l [sa, sb, sc, sd, se, sf, sg, sh] i) wr')) (fun v15 _ => 8 - (intOf v15).toNat)
              case atStart => exact ⟨0, Nat.zero_le _, rfl, HT⟩
              case round =>
                clear HT
                obtain ⟨i, hi, rfl, HT⟩ := hrel
                by_cases hlt : i < 8
                · have hltI : (i : Int) < 8 := by omega
                  have HS2 := Aside0.mk (mix_set st.l [sa, sb, sc, sd, se, sf, sg, sh] i hlt)
                  have h1 : wr.cell? ⟨n3, i, none⟩ = some (.int .i64 (wi (st.l.getD i 0))) := by rw [blk_cell HT.out.2.2.1 i, nArr_get _ _ (by rw [mix_length]; exact hlt), mix_at _ _ _ _ hlt, if_neg (Nat.lt_irrefl _)]
                  have h2 : wr.cell? ⟨w.heap.size, i, none⟩ = some (.int .i64 (wi ([sa, sb, sc, sd, se, sf, sg, sh].getD i 0))) := by rw [blk_cell HT.out.1.1 i]; exact nArr_get [sa, sb, sc, sd, se, sf, sg, sh] i hlt
                  generalize st.l.getD i 0 = x at *
                  generalize [sa, sb, sc, sd, se, sf, sg, sh].getD i 0 = y at *
                  obtain ⟨ex, ey, z, r, ax, ay, az, am, am', a0, ar⟩ : ∃ ex ey z r : Int, wi x = ex ∧ wi y = ey ∧ IntKind.i64.wrap (ex + ey) = z ∧ Int.tmod z 4294967296 = r ∧ z % 4294967296 = r ∧ 0 ≤ z ∧ r = wi (x + y) := by
                    have q1 := wi_range x
                    have q2 := wi_range y
                    exact ⟨_, _, _, _, rfl, rfl, i64_small _ (by omega) (by omega), Int.tmod_eq_emod_of_nonneg (by omega), rfl, by omega, (wi_add x y).symm⟩
                  rw [ax] at h1
                  rw [ay] at h2
                  have AR := Aside0.mk ar
                  clear ax ay ar
                  go_wp2
                  refine wp_region_quiet_store 10 (by kernel_rfl) rfl rfl (by kernel_rfl) ?_
                  simp only [List.take_succ_cons, List.take_zero, List.cons_append, List.nil_append]
                  repeat (go_big_quiet_step (fail))
                  refine wpQuiet_nil ?_
                  rintro w2 ⟨nq2, rfl⟩
                  have HW2 : Aside0 _ := ⟨HT.out.below (pw_below_drewN (Below.refl _ _) nq2)⟩
                  clear h1 h2 HT az am am' a0
                  have hfz2 : (wr.drewN nq2).frozen? ⟨n3, i, none⟩ = false := blk_frozen HW2.out.2.2.1 i
                  have hst2 : ∃ v, (wr.drewN nq2).cell? ⟨n3, i, none⟩ = some v := ⟨_, (blk_cell HW2.out.2.2.1 i).trans (nArr_get _ _ (by rw [mix_length]; exact hlt))⟩
                  obtain ⟨v2, hst2⟩ := hst2
                  generalize wr.drewN nq2 = w2 at *
                  go_wp2
                  go_roundw
                  case measure => simp [intOf]; omega
                  case rel => exact ⟨i + 1, by omega, by go_num, ⟨by rw [← HS2.out]; have := HW2.out.set i (x + y); rw [← AR.out] at this; exact this⟩⟩
                · obtain rfl : i = 8 := by omega
                  rw [show mix st.l [sa, sb, sc, sd, se, sf, sg, sh] 8 = (st.add ⟨sa, sb, sc, sd, se, sf, sg, sh⟩).l from mix_end st ⟨sa, sb, sc, sd, se, sf, sg, sh⟩] at HT
                  generalize st.add ⟨sa, sb, sc, sd, se, sf, sg, sh⟩ = r at *
                  obtain ⟨p0, p1, p2, p3, p4, p5, p6, p7⟩ := r
                  clear hlt hi
                  have h0 : wr.cell? ⟨n3, 0, none⟩ = some (.int .i64 (wi p0)) := blk_cell HT.out.2.2.1 0
                  have g0 : wr.cell? ⟨w.heap.size + 1, 0, none⟩ = some (.int .i64 (wi 0)) := blk_cell HT.out.1.2.1 0
                  have f0 : wr.frozen? ⟨w.heap.size + 1, 0, none⟩ = false := blk_frozen HT.out.1.2.1 0
                  have h1 : wr.cell? ⟨n3, 1, none⟩ = some (.int .i64 (wi p1)) := blk_cell HT.out.2.2.1 1
                  have g1 : wr.cell? ⟨w.heap.size + 1, 1, none⟩ = some (.int .i64 (wi 0)) := blk_cell HT.out.1.2.1 1
                  have f1 : wr.frozen? ⟨w.heap.size + 1, 1, none⟩ = false := blk_frozen HT.out.1.2.1 1
                  have h2 : wr.cell? ⟨n3, 2, none⟩ = some (.int .i64 (wi p2)) := blk_cell HT.out.2.2.1 2
                  have g2 : wr.cell? ⟨w.heap.size + 1, 2, none⟩ = some (.int .i64 (wi 0)) := blk_cell HT.out.1.2.1 2
                  have f2 : wr.frozen? ⟨w.heap.size + 1, 2, none⟩ = false := blk_frozen HT.out.1.2.1 2
                  have h3 : wr.cell? ⟨n3, 3, none⟩ = some (.int .i64 (wi p3)) := blk_cell HT.out.2.2.1 3
                  have g3 : wr.cell? ⟨w.heap.size + 1, 3, none⟩ = some (.int .i64 (wi 0)) := blk_cell HT.out.1.2.1 3
                  have f3 : wr.frozen? ⟨w.heap.size + 1, 3, none⟩ = false := blk_frozen HT.out.1.2.1 3
                  have h4 : wr.cell? ⟨n3, 4, none⟩ = some (.int .i64 (wi p4)) := blk_cell HT.out.2.2.1 4
                  have g4 : wr.cell? ⟨w.heap.size + 1, 4, none⟩ = some (.int .i64 (wi 0)) := blk_cell HT.out.1.2.1 4
                  have f4 : wr.frozen? ⟨w.heap.size + 1, 4, none⟩ = false := blk_frozen HT.out.1.2.1 4
                  have h5 : wr.cell? ⟨n3, 5, none⟩ = some (.int .i64 (wi p5)) := blk_cell HT.out.2.2.1 5
                  have g5 : wr.cell? ⟨w.heap.size + 1, 5, none⟩ = some (.int .i64 (wi 0)) := blk_cell HT.out.1.2.1 5
                  have f5 : wr.frozen? ⟨w.heap.size + 1, 5, none⟩ = false := blk_frozen HT.out.1.2.1 5
                  have h6 : wr.cell? ⟨n3, 6, none⟩ = some (.int .i64 (wi p6)) := blk_cell HT.out.2.2.1 6
                  have g6 : wr.cell? ⟨w.heap.size + 1, 6, none⟩ = some (.int .i64 (wi 0)) := blk_cell HT.out.1.2.1 6
                  have f6 : wr.frozen? ⟨w.heap.size + 1, 6, none⟩ = false := blk_frozen HT.out.1.2.1 6
                  have h7 : wr.cell? ⟨n3, 7, none⟩ = some (.int .i64 (wi p7)) := blk_cell HT.out.2.2.1 7
                  have g7 : wr.cell? ⟨w.heap.size + 1, 7, none⟩ = some (.int .i64 (wi 0)) := blk_cell HT.out.1.2.1 7
                  have f7 : wr.frozen? ⟨w.heap.size + 1, 7, none⟩ = false := blk_frozen HT.out.1.2.1 7
                  have HO := Aside0.mk (HT.out.out8 ⟨p0, p1, p2, p3, p4, p5, p6, p7⟩)
                  go_wp2
                  exact bodyPost_ret (results_cell_row Tryd.results30 _ _ (w.heap.size + 1) 53 _ (0, 0) _ rfl HO.out.1 Tryd.underlying53 rfl (show (Tryd.prog.info? 53).map (·.size) = some 8 from by kernel_rfl)) rfl ⟨by rw [HV.out], HO.out.2⟩
end Go.Proofs.YtpdficnjjmapmaaDoorRRR.Sha
namespace Go.Proofs.YtpdficnjjmapmaaDoorRRR.Sha
open Go.RowKit Go.Proofs.YtpdficnjjmapmaaDoorRRRW.PrintWords Go.Proofs.YtpdficnjjmapmaaDoorRRRW.PrintLast Go.Proofs.YtpdficnjjmapmaaDoorRRRW.PrintMore Go.Proofs.YtpdficnjjmapmaaDoorRRR.K Go.Proofs.YtpdficnjjmapmaaDoorRRR.PLamportSecrets
set_option linter.unusedVariables false
set_option maxRecDepth 100000
theorem pow0 (k : Nat) : cupelref01_Power.f (k + 60) 0 = some 1 := by kernel_rfl
theorem pow8 (k : Nat) : cupelref01_Power.f (k + 60) 8 = some 256 := by kernel_rfl
theorem pow16 (k : Nat) : cupelref01_Power.f (k + 60) 16 = some 65536 := by kernel_rfl
theorem pow24 (k : Nat) : cupelref01_Power.f (k + 60) 24 = some 16777216 := by kernel_rfl
theorem pow32 (k : Nat) : cupelref01_Power.f (k + 60) 32 = some 4294967296 := by kernel_rfl
theorem pow40 (k : Nat) : cupelref01_Power.f (k + 60) 40 = some 1099511627776 := by kernel_rfl
theorem pow48 (k : Nat) : cupelref01_Power.f (k + 60) 48 = some 281474976710656 := by kernel_rfl
theorem pow56 (k : Nat) : cupelref01_Power.f (k + 60) 56 = some 72057594037927936 := by kernel_rfl
theorem l1_step (k : Nat) (x : List Int) (m i e p : Int) (hm : 0 ≤ m) (hm2 : m < 1000000000) (hi : 0 ≤ i) (hi2 : i < 8) (hx : x.length < 100000) (he : 8 * i = e) (hp : cupelref01_Power.f k e = some p) (hp0 : 0 < p) :
    cupelref01_filled.l1 (k + 1) x m i = cupelref01_filled.l1 k (x ++ [m / p % 256]) m (i - 1) := by
  have hq : 0 ≤ m / p := Int.ediv_nonneg hm (by omega)
  have hq2 : m / p ≤ m := Int.ediv_le_self _ hm
  rw [cupelref01_filled.l1, if_pos hi, w64_in (8 * i) (by omega) (by omega), he, hp, Option.bind_some, if_neg (by omega), if_pos (by omega), w64_in (i - 1) (by omega) (by omega), Int.tdiv_eq_ediv_of_nonneg hm, w64_in (m / p) (by omega) (by omega), Int.tmod_eq_emod_of_nonneg hq, Int.emod_emod_of_dvd _ (Int.dvd_refl 256)]
theorem l1_all (k : Nat) (x : List Int) (m : Int) (hm : 0 ≤ m) (hm2 : m < 1000000000) (hx : x.length < 90000) : cupelref01_filled.l1 (k + 69) x m 7 = some (x ++ be8 m) := by
  rw [l1_step (k + 68) x m 7 56 _ hm hm2 (by decide) (by decide) (by omega) rfl (pow56 (k + 8)) (by decide),
    l1_step (k + 67) _ m (7 - 1) 48 _ hm hm2 (by decide) (by decide) (by simp; omega) rfl (pow48 (k + 7)) (by decide),
    l1_step (k + 66) _ m (7 - 1 - 1) 40 _ hm hm2 (by decide) (by decide) (by simp; omega) rfl (pow40 (k + 6)) (by decide),
    l1_step (k + 65) _ m (7 - 1 - 1 - 1) 32 _ hm hm2 (by decide) (by decide) (by simp; omega) rfl (pow32 (k + 5)) (by decide),
    l1_step (k + 64) _ m (7 - 1 - 1 - 1 - 1) 24 _ hm hm2 (by decide) (by decide) (by simp; omega) rfl (pow24 (k + 4)) (by decide),
    l1_step (k + 63) _ m (7 - 1 - 1 - 1 - 1 - 1) 16 _ hm hm2 (by decide) (by decide) (by simp; omega) rfl (pow16 (k + 3)) (by decide),
    l1_step (k + 62) _ m (7 - 1 - 1 - 1 - 1 - 1 - 1) 8 _ hm hm2 (by decide) (by decide) (by simp; omega) rfl (pow8 (k + 2)) (by decide),
    l1_step (k + 61) _ m (7 - 1 - 1 - 1 - 1 - 1 - 1 - 1) 0 _ hm hm2 (by decide) (by decide) (by simp; omega) rfl (pow0 (k + 1)) (by decide),
    show k + 61 = (k + 60) + 1 from rfl, cupelref01_filled.l1, if_neg (by decide)]
  simp [be8]
theorem l0_all (K : Nat) (l : List Int) : ∀ (d : Nat) (x : List Int), (x.length + d) % 64 = 56 → (∀ j, j < d → (x.length + j) % 64 ≠ 56) → x.length + d < 90000 →
    cupelref01_filled.l0 (d + 1 + K) l x = cupelref01_filled.l1 K (x ++ List.replicate d 0) (wrap64 (8 * (l.length : Int))) 7
  | 0, x, h, _, _ => by
    rw [show 0 + 1 + K = K + 1 by omega, cupelref01_filled.l0, if_pos (by omega)]
    simp
  | d + 1, x, h, hj, hx => by
    have h0 := hj 0 (by omega)
    rw [show d + 1 + 1 + K = (d + 1 + K) + 1 by omega, cupelref01_filled.l0, if_neg (by omega), if_pos (by omega), l0_all K l d (x ++ [0]) (by rw [List.length_append]; simp; omega) (fun j hjd => by have := hj (j + 1) (by omega); rw [List.length_append]; simp; omega) (by rw [List.length_append]; simp; omega), List.append_assoc]
    rfl
def filledV (l : List Int) : List Int := l ++ (tail1 l.length ++ be8 (8 * (l.length : Int)))
theorem filled_f (l : List Int) (h : l.length ≤ 30000) : cupelref01_filled.f 200 l = some (filledV l) := by
  obtain ⟨d, hd⟩ : ∃ d, d = (119 - l.length % 64) % 64 := ⟨_, rfl⟩
  have hd64 : d < 64 := by omega
  rw [cupelref01_filled.f, if_pos (by simp; omega), Option.bind_some, if_pos (by simp; omega), List.nil_append]
  have h1 := l0_all (199 - d) l d (l ++ [128]) (by simp; omega) (fun j hj => by simp; omega) (by simp; omega)
  rw [show d + 1 + (199 - d) = 200 by omega] at h1
  rw [h1, w64_in _ (by omega) (by omega), show 199 - d = (130 - d) + 69 by omega, l1_all _ _ _ (by omega) (by omega) (by simp; omega)]
  simp only [filledV, tail1, ← hd, List.append_assoc, List.cons_append, List.nil_append]
theorem filledV_length (l : List Int) : (filledV l).length % 64 = 0 ∧ (filledV l).length ≤ l.length + 73 := by
  simp only [filledV, tail1, be8, List.length_append, List.length_cons, List.length_replicate, List.length_nil]
  omega
theorem filledV_byte (l : List Int) (h : ∀ x ∈ l, 0 ≤ x ∧ x < 256) : ∀ x ∈ filledV l, 0 ≤ x ∧ x < 256 := by
  intro x hx
  rcases List.mem_append.1 hx with hx | hx
  · exact h x hx
  · rcases List.mem_append.1 hx with hx | hx
    · rcases List.mem_cons.1 hx with rfl | hx
      · decide
      · rw [List.eq_of_mem_replicate hx]; decide
    · simp only [be8, List.mem_cons, List.not_mem_nil, or_false] at hx
      rcases hx with rfl | rfl | rfl | rfl | rfl | rfl | rfl | rfl <;> omega
theorem filledV_sha (l : List Int) : digL (absorb init (filledV l)).1 = shaV l := rfl
end Go.Proofs.YtpdficnjjmapmaaDoorRRR.Sha
namespace Go.Proofs.YtpdficnjjmapmaaDoorRRR.Sha
open Go.RowKit Go.Proofs.YtpdficnjjmapmaaDoorRRRW.PrintWords Go.Proofs.YtpdficnjjmapmaaDoorRRRW.PrintLast Go.Proofs.YtpdficnjjmapmaaDoorRRRW.PrintMore Go.Proofs.YtpdficnjjmapmaaDoorRRR.K Go.Proofs.YtpdficnjjmapmaaDoorRRR.PLamportSecrets
set_option linter.unusedVariables false
set_option linter.unusedSimpArgs false
theorem block_lit (sa sb sc sd se sf sg sh : W32) (A : Option Addr) (c : Nat) (b : List Int) (w : World) (hb : Kd.C (Kd.int .u8) w A b.length b) (hbl : b.length = 64) (hc : 64 ≤ c) (hby : ∀ x ∈ b, 0 ≤ x ∧ x < 256) :
    Calls Tryd.prog 30 #[.agg #[.int .i64 (wi sa), .int .i64 (wi sb), .int .i64 (wi sc), .int .i64 (wi sd), .int .i64 (wi se), .int .i64 (wi sf), .int .i64 (wi sg), .int .i64 (wi sh)], .slice A 64 c] w fun e w' => ∃ t : St, t = turnV ⟨sa, sb, sc, sd, se, sf, sg, sh⟩ b ∧ e = .returned (.agg #[.int .i64 (wi t.a), .int .i64 (wi t.b), .int .i64 (wi t.c), .int .i64 (wi t.d), .int .i64 (wi t.e), .int .i64 (wi t.f), .int .i64 (wi t.g), .int .i64 (wi t.h)]) ∧ Below w.heap.size w w' :=
  (block_calls ⟨sa, sb, sc, sd, se, sf, sg, sh⟩ A c b w hb hbl hc hby).mono fun e w' ⟨he, h⟩ => ⟨_, rfl, he, h⟩
theorem i8_lit : (#[.int .i64 1779033703, .int .i64 3144134277, .int .i64 1013904242, .int .i64 2773480762, .int .i64 1359893119, .int .i64 2600822924, .int .i64 528734635, .int .i64 1541459225] : Array Value) = nArr init.l := by kernel_rfl
def SumW (w : World) (A4 : Option Addr) (L : List Int) (s : St) (wr : World) : Prop :=
  wr.heap[w.heap.size]? = some (.cells (dA (List.replicate 32 0)) 23 (0, 0)) ∧ wr.heap[w.heap.size + 1]? = some (.cells (nArr s.l) 53 (0, 0)) ∧ Kd.C (Kd.int .u8) wr A4 L.length L ∧ Below w.heap.size w wr
theorem SumW.below {w w1 w2 : World} {A4 : Option Addr} {L : List Int} {s : St} (h : SumW w A4 L s w1) (hb : Below w1.heap.size w1 w2) : SumW w A4 L s w2 :=
  ⟨(hb.block _ (blk_lt h.1)).trans h.1, (hb.block _ (blk_lt h.2.1)).trans h.2.1, Kd.C_below h.2.2.1 hb, below_step h.2.2.2 hb⟩
def SumL (w : World) (A4 : Option Addr) (L : List Int) (m : List W32) (wr : World) : Prop :=
  wr.heap[w.heap.size]? = some (.cells (dA (List.replicate 32 0)) 23 (0, 0)) ∧ wr.heap[w.heap.size + 1]? = some (.cells (nArr m) 53 (0, 0)) ∧ Kd.C (Kd.int .u8) wr A4 L.length L ∧ Below w.heap.size w wr
theorem nArr_no (m : List W32) (j : Nat) (x : Int) : (nArr m)[j]? ≠ some (Value.int .u8 x) := by
  intro h
  simp only [nArr, nums, List.getElem?_toArray, List.getElem?_map] at h
  cases hm : m[j]? with
  | none => rw [hm] at h; cases h
  | some y => rw [hm] at h; cases h
theorem SumL.set {w w1 : World} {A4 : Option Addr} {L : List Int} {m : List W32} (h : SumL w A4 L m w1) (i : Nat) (x : W32) : SumL w A4 L (m.set i x) (w1.setCell ⟨w.heap.size + 1, i, none⟩ (.int .i64 (wi x))) :=
  ⟨blk_far h.1 (by show w.heap.size ≠ w.heap.size + 1; omega) _, blkN_set h.2.1 i x, C_far h.2.1 (nArr_no m) h.2.2.1 i _, h.2.2.2.setCell (by show w.heap.size ≤ w.heap.size + 1; omega) _⟩
theorem SumW.set8 {w w1 : World} {A4 : Option Addr} {L : List Int} {s : St} (h : SumW w A4 L s w1) (t : St) :
    SumW w A4 L t ((((((((w1.setCell ⟨w.heap.size + 1, 0, none⟩ (.int .i64 (wi t.a))).setCell ⟨w.heap.size + 1, 1, none⟩ (.int .i64 (wi t.b))).setCell ⟨w.heap.size + 1, 2, none⟩ (.int .i64 (wi t.c))).setCell ⟨w.heap.size + 1, 3, none⟩ (.int .i64 (wi t.d))).setCell ⟨w.heap.size + 1, 4, none⟩ (.int .i64 (wi t.e))).setCell ⟨w.heap.size + 1, 5, none⟩ (.int .i64 (wi t.f))).setCell ⟨w.heap.size + 1, 6, none⟩ (.int .i64 (wi t.g))).setCell ⟨w.heap.size + 1, 7, none⟩ (.int .i64 (wi t.h))) := by
  have h0 : SumL w A4 L s.l w1 := h
  have h8 := (((((((h0.set 0 t.a).set 1 t.b).set 2 t.c).set 3 t.d).set 4 t.e).set 5 t.f).set 6 t.g).set 7 t.h
  rw [set8_list s.l rfl t] at h8
  exact h8
def outL (D : List Int) (i : Nat) : List Int := D.take i ++ List.replicate (32 - i) 0
theorem outL_length (D : List Int) (hD : D.length = 32) (i : Nat) (hi : i ≤ 32) : (outL D i).length = 32 := by
  rw [outL, List.length_append, List.length_take, List.length_replicate]
  omega
theorem outL_set (D : List Int) (hD : D.length = 32) (i : Nat) (hi : i < 32) : (outL D i).set i (D.getD i 0) = outL D (i + 1) := by
  have ht : (D.take i).length = i := by rw [List.length_take]; omega
  rw [outL, List.set_append_right _ _ (by omega), ht, Nat.sub_self, show 32 - i = (32 - (i + 1)) + 1 by omega, List.replicate_succ, List.set_cons_zero, outL, List.take_succ_eq_append_getElem (by omega), List.getD_eq_getElem?_getD, List.getElem?_eq_getElem (by omega), List.append_assoc]
  rfl
theorem outL_end (D : List Int) (hD : D.length = 32) : outL D 32 = D := by
  rw [outL, List.take_of_length_le (by omega), Nat.sub_self]
  exact List.append_nil _
theorem dA_set' (l : List Int) (i : Nat) (x : Int) : (dA l).setIfInBounds i (.int .u8 x) = dA (l.set i x) := by
  apply Array.ext'
  simp [dA, nums, List.map_set]
theorem dA_at (d : List Int) (i : Nat) (h : i < d.length) : (dA d)[i]? = some (.int .u8 (d.getD i 0)) := by
  simp [dA, nums, List.getElem?_eq_getElem h, List.getD_eq_getElem?_getD]
/-- While the digest is laid. -/
def ROutW (w : World) (s : St) (g : Nat) (m : List Int) (wr : World) : Prop :=
  wr.heap[w.heap.size]? = some (.cells (dA (List.replicate 32 0)) 23 (0, 0)) ∧ wr.heap[w.heap.size + 1]? = some (.cells (nArr s.l) 53 (0, 0)) ∧ wr.heap[g]? = some (.cells (dA m) 23 (0, 0)) ∧ Below w.heap.size w wr ∧ w.heap.size + 1 < g
theorem ROutW.below {w w1 w2 : World} {s : St} {g : Nat} {m : List Int} (h : ROutW w s g m w1) (hb : Below w1.heap.size w1 w2) : ROutW w s g m w2 :=
  ⟨(hb.block _ (blk_lt h.1)).trans h.1, (hb.block _ (blk_lt h.2.1)).trans h.2.1, (hb.block _ (blk_lt h.2.2.1)).trans h.2.2.1, below_step h.2.2.2.1 hb, h.2.2.2.2⟩
theorem ROutW.set {w w1 : World} {s : St} {g : Nat} {m : List Int} (h : ROutW w s g m w1) (i : Nat) (x : Int) : ROutW w s g (m.set i x) (w1.setCell ⟨g, i, none⟩ (.int .u8 x)) :=
  ⟨blk_far h.1 (by show w.heap.size ≠ g; have := h.2.2.2.2; omega) _, blk_far h.2.1 (by show w.heap.size + 1 ≠ g; have := h.2.2.2.2; omega) _, by rw [← dA_set']; exact blk_set h.2.2.1 i _, h.2.2.2.1.setCell (by show w.heap.size ≤ g; have := h.2.2.2.2; omega) _, h.2.2.2.2⟩
def pw : Nat → Int
  | 0 => 16777216
  | 1 => 65536
  | 2 => 256
  | _ => 1
theorem digL_at (s : St) : ∀ i, i < 32 → (digL s).getD i 0 = wi (s.l.getD (i / 4) 0) / pw (i % 4) % 256
  | 0, _ => rfl
  | 1, _ => rfl
  | 2, _ => rfl
  | 3, _ => (congrArg (· % 256) (Int.ediv_one _).symm)
  | 4, _ => rfl
  | 5, _ => rfl
  | 6, _ => rfl
  | 7, _ => (congrArg (· % 256) (Int.ediv_one _).symm)
  | 8, _ => rfl
  | 9, _ => rfl
  | 10, _ => rfl
  | 11, _ => (congrArg (· % 256) (Int.ediv_one _).symm)
  | 12, _ => rfl
  | 13, _ => rfl
  | 14, _ => rfl
  | 15, _ => (congrArg (· % 256) (Int.ediv_one _).symm)
  | 16, _ => rfl
  | 17, _ => rfl
  | 18, _ => rfl
  | 19, _ => (congrArg (· % 256) (Int.ediv_one _).symm)
  | 20, _ => rfl
  | 21, _ => rfl
  | 22, _ => rfl
  | 23, _ => (congrArg (· % 256) (Int.ediv_one _).symm)
  | 24, _ => rfl
  | 25, _ => rfl
  | 26, _ => rfl
  | 27, _ => (congrArg (· % 256) (Int.ediv_one _).symm)
  | 28, _ => rfl
  | 29, _ => rfl
  | 30, _ => rfl
  | 31, _ => (congrArg (· % 256) (Int.ediv_one _).symm)
  | n + 32, h => absurd h (by omega)
theorem byteN (s : St) (i : Nat) (hi : i < 32) : ∃ (k m4 : Nat) (e8 ee p x y z : Int), k < 8 ∧ (i : Int) / 4 = (k : Int) ∧ Int.tdiv (i : Int) 4 = (k : Int) ∧ (i : Int) % 4 = (m4 : Int) ∧ Int.tmod (i : Int) 4 = (m4 : Int) ∧ IntKind.i64.wrap (8 * (m4 : Int)) = e8 ∧ IntKind.i64.wrap (24 - e8) = ee ∧ cupelref01_Power.f 90 ee = some p ∧ 0 < p ∧ wi (s.l.getD k 0) = x ∧
    x / p = y ∧ Int.tdiv x p = y ∧ IntKind.i64.wrap y = y ∧ 0 ≤ y ∧ y % 256 = z ∧ Int.tmod y 256 = z ∧ IntKind.u8.wrap z = z ∧ (digL s).getD i 0 = z := by
  have hx := wi_range (s.l.getD (i / 4) 0)
  have hpw : 0 < pw (i % 4) := by unfold pw; split <;> decide
  have hq : 0 ≤ wi (s.l.getD (i / 4) 0) / pw (i % 4) := Int.ediv_nonneg hx.1 (by omega)
  have hq2 : wi (s.l.getD (i / 4) 0) / pw (i % 4) ≤ wi (s.l.getD (i / 4) 0) := Int.ediv_le_self _ hx.1
  have hpow : cupelref01_Power.f 90 (24 - 8 * ((i % 4 : Nat) : Int)) = some (pw (i % 4)) := by
    rcases (show i % 4 = 0 ∨ i % 4 = 1 ∨ i % 4 = 2 ∨ i % 4 = 3 by omega) with h | h | h | h <;> rw [h]
    · exact pow24 30
    · exact pow16 30
    · exact pow8 30
    · exact pow0 30
  refine ⟨i / 4, i % 4, _, _, _, _, _, _, by omega, by omega, by rw [Int.tdiv_eq_ediv_of_nonneg (by omega)]; omega, by omega, by rw [Int.tmod_eq_emod_of_nonneg (by omega)]; omega, i64_small _ (by omega) (by omega), i64_small _ (by omega) (by omega), hpow, hpw, rfl, rfl, Int.tdiv_eq_ediv_of_nonneg hx.1, i64_small _ hq (by omega), hq, rfl, Int.tmod_eq_emod_of_nonneg hq, by rw [IntKind.wrap_u8]; omega, digL_at s i hi⟩
theorem power_q (k : Nat) (e p : Int) (w : World) (n : Nat) (h : cupelref01_Power.f k e = some p) :
    Calls Tryd.prog 22 #[.int .i64 e] (w.drewN n) fun e w' => e = .returned (.int .i64 p) ∧ ∃ m, w' = w.drewN m := by
  refine (cupelref01_Power.calls k e p _ h).mono ?_
  rintro e w' ⟨he, m, hm⟩
  exact ⟨he, n + m, by rw [hm, World.drewN_drewN]⟩
set_option maxHeartbeats 8000000 in
set_option maxRecDepth 100000 in
theorem rsum_calls (A : Option Addr) (c : Nat) (l : List Int) (w : World) (hl : Kd.C (Kd.int .u8) w A l.length l) (hc : l.length ≤ c) (hby : ∀ x ∈ l, 0 ≤ x ∧ x < 256) (hm : l.length ≤ 20000) :
    Calls Tryd.prog 17 #[.slice A l.length c] w fun e w' => e = .returned (.agg (dA (shaV l))) ∧ Below w.heap.size w w' := by
  have HC := Aside0.mk hl
  have HBy := Aside0.mk hby
  have HM := Aside0.mk hm
  have HCc := Aside0.mk hc
  have HD1 := Aside0.mk (dig_info (shaV_length l))
  have HD2 : Aside0 ((dA (List.replicate 32 0)).size = (dA (shaV l)).size) := ⟨by rw [dA_size, dA_size, shaV_length]; rfl⟩
  clear hl hby hm hc
  go_enter Tryd.func17, Tryd.ntmps17
  go_wp2_with (fail)
  rw [z32_lit, i8_lit]
  have HB1 : Aside0 (Below w.heap.size w ((w.alloc (.cells (dA (List.replicate 32 0)) 23)).alloc (.cells (nArr init.l) 53))) := ⟨bel_alloc (bel_alloc (Below.refl _ _) _) _⟩
  have HR1 : Aside0 (((w.alloc (.cells (dA (List.replicate 32 0)) 23)).alloc (.cells (nArr init.l) 53)).heap[w.heap.size]? = some (.cells (dA (List.replicate 32 0)) 23 (0, 0))) := ⟨((bel_alloc (Below.refl _ _) _).block _ (blk_lt (heap_alloc_new w _))).trans (heap_alloc_new w _)⟩
  have HS1 : Aside0 (((w.alloc (.cells (dA (List.replicate 32 0)) 23)).alloc (.cells (nArr init.l) 53)).heap[w.heap.size + 1]? = some (.cells (nArr init.l) 53 (0, 0))) := ⟨by have := heap_alloc_new (w.alloc (.cells (dA (List.replicate 32 0)) 23)) (.cells (nArr init.l) 53); rw [World.size_alloc] at this; exact this⟩
  generalize (w.alloc (.cells (dA (List.replicate 32 0)) 23)).alloc (.cells (nArr init.l) 53) = w1 at *
  refine (cupelref01_filled.calls 200 A c l (filledV l) w1 (Kd.C_below HC.out HB1.out) HCc.out (filled_f l (by have := HM.out; omega))).mono ?_
  rintro e w4 ⟨v4, rfl, hv, hb⟩
  obtain ⟨A4, c4, rfl⟩ := Kd.R_slice hv
  have HT4 : Aside0 (SumW w A4 (filledV l) init w4) := ⟨(hb.block _ (blk_lt HR1.out)).trans HR1.out, (hb.block _ (blk_lt HS1.out)).trans HS1.out, (Kd.R_reads' hv).2.2, below_step HB1.out hb⟩
  have HC4 := Aside0.mk (Kd.R_reads' hv).2.1
  clear hv hb HR1 HS1 HB1
  have HFl := Aside0.mk (filledV_length l)
  have HFb := Aside0.mk (filledV_byte l HBy.out)
  obtain ⟨L, hL⟩ : ∃ L, L = filledV l := ⟨_, rfl⟩
  rw [← hL] at HT4 HC4 HFl HFb ⊢
  have HSh : Aside0 (digL (absorb init L).1 = shaV l) := ⟨by rw [hL]; exact filledV_sha l⟩
  clear hL
  have hL64 := HFl.out.1
  have hLb : L.length ≤ 30000 := by have := HFl.out.2; have := HM.out; omega
  go_wp2_with (fail)
  go_loopw [5] (fun v5 wr => ∃ (p : Nat) (s : St), p % 64 = 0 ∧ p ≤ L.length ∧ v5 = .int .i64 (p : Int) ∧ Aside0 (absorb s (L.drop p) = absorb init L) ∧ Aside0 (SumW w A4 L s wr)) (fun v5 _ => L.length - (intOf v5).toNat)
  case atStart => exact ⟨0, init, rfl, Nat.zero_le _, rfl, ⟨rfl⟩, HT4⟩
  case round =>
    clear HT4
    obtain ⟨p, ⟨sa, sb, sc, sd, se, sf, sg, sh⟩, hp64, hj, rfl, HAb, HT⟩ := hrel
    by_cases hlt : p < L.length
    · have hp8 : p + 64 ≤ L.length := by omega
      obtain ⟨q, hq⟩ : ∃ q, q = p + 64 := ⟨_, rfl⟩
      have HQ := Aside0.mk (show q % 64 = 0 ∧ q ≤ L.length ∧ p < q by omega)
      have M2 : IntKind.i64.wrap ((p : Int) + 64) = (q : Int) := by rw [IntWalk.i64_in _ (by omega)]; omega
      obtain ⟨A6, hsl, hC6, hle6⟩ := mid_int (k := .u8) (P := Tryd.prog) 38 5 Tryd.underlying38 info_u8 A4 c4 L (p : Int) (q : Int) p 64 rfl (by omega) (by omega) HC4.out
      have h86 : ((L.drop p).take 64).length = 64 := by rw [List.length_take, List.length_drop]; omega
      have HNx : Aside0 (absorb (turnV ⟨sa, sb, sc, sd, se, sf, sg, sh⟩ ((L.drop p).take 64)) (L.drop q) = absorb init L) := ⟨by
        rw [← HAb.out, absorb_ge (l := L.drop p) (by rw [List.length_drop]; omega), List.drop_drop, hq]⟩
      have HC6 : Aside0 (∀ W : World, Kd.C (Kd.int .u8) wr.drew A6 ((L.drop p).take 64).length ((L.drop p).take 64)) := ⟨fun _ => hC6 _ (Kd.C_drewN HT.out.2.2.1 1)⟩
      have HB6 : Aside0 (∀ x ∈ (L.drop p).take 64, 0 ≤ x ∧ x < 256) := ⟨fun x hx => HFb.out x (List.mem_of_mem_drop (List.mem_of_mem_take hx))⟩
      have H6l := Aside0.mk h86
      rw [h86] at hsl hle6
      have HL6 := Aside0.mk hle6
      clear hle6 hC6 h86 hq hj
      generalize (L.drop p).take 64 = b6 at *
      generalize c4 - p = c6 at *
      have h0 : wr.cell? ⟨w.heap.size + 1, 0, none⟩ = some (.int .i64 (wi sa)) := blk_cell HT.out.2.1 0
      have h1 : wr.cell? ⟨w.heap.size + 1, 1, none⟩ = some (.int .i64 (wi sb)) := blk_cell HT.out.2.1 1
      have h2 : wr.cell? ⟨w.heap.size + 1, 2, none⟩ = some (.int .i64 (wi sc)) := blk_cell HT.out.2.1 2
      have h3 : wr.cell? ⟨w.heap.size + 1, 3, none⟩ = some (.int .i64 (wi sd)) := blk_cell HT.out.2.1 3
      have h4 : wr.cell? ⟨w.heap.size + 1, 4, none⟩ = some (.int .i64 (wi se)) := blk_cell HT.out.2.1 4
      have h5 : wr.cell? ⟨w.heap.size + 1, 5, none⟩ = some (.int .i64 (wi sf)) := blk_cell HT.out.2.1 5
      have h6 : wr.cell? ⟨w.heap.size + 1, 6, none⟩ = some (.int .i64 (wi sg)) := blk_cell HT.out.2.1 6
      have h7 : wr.cell? ⟨w.heap.size + 1, 7, none⟩ = some (.int .i64 (wi sh)) := blk_cell HT.out.2.1 7
      go_wp2
      refine start_ (n := 8) (S := fun w' => w'.cell? ⟨w.heap.size + 1, 0, none⟩ = some (.int .i64 (wi sa)) ∧ w'.cell? ⟨w.heap.size + 1, 1, none⟩ = some (.int .i64 (wi sb)) ∧ w'.cell? ⟨w.heap.size + 1, 2, none⟩ = some (.int .i64 (wi sc)) ∧ w'.cell? ⟨w.heap.size + 1, 3, none⟩ = some (.int .i64 (wi sd)) ∧ w'.cell? ⟨w.heap.size + 1, 4, none⟩ = some (.int .i64 (wi se)) ∧ w'.cell? ⟨w.heap.size + 1, 5, none⟩ = some (.int .i64 (wi sf)) ∧ w'.cell? ⟨w.heap.size + 1, 6, none⟩ = some (.int .i64 (wi sg)) ∧ w'.cell? ⟨w.heap.size + 1, 7, none⟩ = some (.int .i64 (wi sh))) (ds := [7]) #[false, false, false, false, false, false, false, false] (by kernel_rfl) rfl rfl ⟨h0, h1, h2, h3, h4, h5, h6, h7⟩ (fun hHeld => ?_)
      refine pure_ (i := 1) (N := some 18) (v := ?_) (a' := ?_) #[false, true, false, false, false, false, false, false] rfl rfl (by kernel_rfl) (fun _ _ _ h => h) (Or.inl ⟨by rfl, ?_⟩) ?_ ?_
      rotate_left
      · intro w'
        go_simp
        with_reducible rfl
      rotate_left
      · simp only [Act.put, List.setIfInBounds_toArray, List.set_cons_zero, List.set_cons_succ]
        rfl
      refine pure_ (i := 2) (N := some 19) (v := ?_) (a' := ?_) #[false, true, true, false, false, false, false, false] rfl rfl (by kernel_rfl) (fun _ _ _ h => h) (Or.inl ⟨by rfl, ?_⟩) ?_ ?_
      rotate_left
      · intro w'
        go_simp
        with_reducible rfl
      rotate_left
      · simp only [Act.put, List.setIfInBounds_toArray, List.set_cons_zero, List.set_cons_succ]
        rfl
      refine pure_ (i := 3) (N := some 20) (v := ?_) (a' := ?_) #[false, true, true, true, false, false, false, false] rfl rfl (by kernel_rfl) (fun _ _ _ h => h) (Or.inl ⟨by rfl, ?_⟩) ?_ ?_
      rotate_left
      · intro w'
        go_simp
        with_reducible rfl
      rotate_left
      · simp only [Act.put, List.setIfInBounds_toArray, List.set_cons_zero, List.set_cons_succ]
        rfl
      refine pure_ (i := 4) (N := some 21) (v := ?_) (a' := ?_) #[false, true, true, true, true, false, false, false] rfl rfl (by kernel_rfl) (fun _ _ _ h => h) (Or.inl ⟨by rfl, ?_⟩) ?_ ?_
      rotate_left
      · intro w'
        go_simp
        with_reducible rfl
      rotate_left
      · simp only [Act.put, List.setIfInBounds_toArray, List.set_cons_zero, List.set_cons_succ]
        rfl
      refine pure_ (i := 5) (N := some 22) (v := ?_) (a' := ?_) #[false, true, true, true, true, true, false, false] rfl rfl (by kernel_rfl) (fun _ _ _ h => h) (Or.inl ⟨by rfl, ?_⟩) ?_ ?_
      rotate_left
      · intro w'
        go_simp
        with_reducible rfl
      rotate_left
      · simp only [Act.put, List.setIfInBounds_toArray, List.set_cons_zero, List.set_cons_succ]
        rfl
      refine take_ (i := 0) (N := some 17) (v := ?_) (a' := ?_) #[true, true, true, true, true, true, false, false] rfl rfl (by kernel_rfl) (fun _ _ _ h => h) (Or.inl ⟨by rfl, ?_⟩) hHeld ?_ ?_
      rotate_left
      · rintro w' ⟨s0, s1, s2, s3, s4, s5, s6, s7⟩
        go_simp
        with_reducible rfl
      rotate_left
      · simp only [Act.put, List.setIfInBounds_toArray, List.set_cons_zero, List.set_cons_succ]
        rfl
      refine one_ (i := 6) (N := some 23) #[true, true, true, true, true, true, true, false] rfl rfl (by kernel_rfl) (by decide) (fun K hK => ?_)
      refine goes_ Tryd.func30 (by kernel_rfl) rfl #[.agg #[.int .i64 (wi sa), .int .i64 (wi sb), .int .i64 (wi sc), .int .i64 (wi sd), .int .i64 (wi se), .int .i64 (wi sf), .int .i64 (wi sg), .int .i64 (wi sh)], .slice A6 64 c6] (by rfl) rfl rfl (by simp only [List.map_toArray, List.map_cons, List.map_nil]; rfl) ?_
      with_reducible refine (block_lit sa sb sc sd se sf sg sh A6 c6 b6 _ (HC6.out wr.drew) H6l.out HL6.out HB6.out).mono ?_
      rintro e w7 ⟨t, ht, rfl, hb⟩
      refine ⟨_, rfl, ?_⟩
      have HT7 : Aside0 (SumW w A4 L ⟨sa, sb, sc, sd, se, sf, sg, sh⟩ w7) := ⟨(HT.out.below (below_drew (Below.refl _ _))).below hb⟩
      have HTt := Aside0.mk ht
      clear hb ht
      have f0 : w7.frozen? ⟨w.heap.size + 1, 0, none⟩ = false := blk_frozen HT7.out.2.1 0
      have f1 : w7.frozen? ⟨w.heap.size + 1, 1, none⟩ = false := blk_frozen HT7.out.2.1 1
      have f2 : w7.frozen? ⟨w.heap.size + 1, 2, none⟩ = false := blk_frozen HT7.out.2.1 2
      have f3 : w7.frozen? ⟨w.heap.size + 1, 3, none⟩ = false := blk_frozen HT7.out.2.1 3
      have f4 : w7.frozen? ⟨w.heap.size + 1, 4, none⟩ = false := blk_frozen HT7.out.2.1 4
      have f5 : w7.frozen? ⟨w.heap.size + 1, 5, none⟩ = false := blk_frozen HT7.out.2.1 5
      have f6 : w7.frozen? ⟨w.heap.size + 1, 6, none⟩ = false := blk_frozen HT7.out.2.1 6
      have f7 : w7.frozen? ⟨w.heap.size + 1, 7, none⟩ = false := blk_frozen HT7.out.2.1 7
      have g0 : w7.cell? ⟨w.heap.size + 1, 0, none⟩ = some (.int .i64 (wi sa)) := blk_cell HT7.out.2.1 0
      have g1 : w7.cell? ⟨w.heap.size + 1, 1, none⟩ = some (.int .i64 (wi sb)) := blk_cell HT7.out.2.1 1
      have g2 : w7.cell? ⟨w.heap.size + 1, 2, none⟩ = some (.int .i64 (wi sc)) := blk_cell HT7.out.2.1 2
      have g3 : w7.cell? ⟨w.heap.size + 1, 3, none⟩ = some (.int .i64 (wi sd)) := blk_cell HT7.out.2.1 3
      have g4 : w7.cell? ⟨w.heap.size + 1, 4, none⟩ = some (.int .i64 (wi se)) := blk_cell HT7.out.2.1 4
      have g5 : w7.cell? ⟨w.heap.size + 1, 5, none⟩ = some (.int .i64 (wi sf)) := blk_cell HT7.out.2.1 5
      have g6 : w7.cell? ⟨w.heap.size + 1, 6, none⟩ = some (.int .i64 (wi sg)) := blk_cell HT7.out.2.1 6
      have g7 : w7.cell? ⟨w.heap.size + 1, 7, none⟩ = some (.int .i64 (wi sh)) := blk_cell HT7.out.2.1 7
      refine hK.out _ _ ⟨g0, g1, g2, g3, g4, g5, g6, g7⟩ (fun hHeld => ?_)
      clear hK K
      refine norm_ (a' := ?_) ?_ ?_
      rotate_left
      · show Act.put _ (some 23) _ = _
        simp only [Act.put, List.setIfInBounds_toArray, List.set_cons_zero, List.set_cons_succ]
        rfl
      refine last_ (i := 7) (N := none) #[true, true, true, true, true, true, true, true] rfl rfl (by kernel_rfl) (by decide) (fun K hK => ?_)
      refine skip_ (w1 := ?_) (by rfl) rfl ?_ ?_
      rotate_left
      · go_simp
        rfl
      refine hK.out _ _ ?_
      clear hK K
      refine done_ (by kernel_rfl) ?_
      clear hHeld h0 h1 h2 h3 h4 h5 h6 h7
      have HT8 := Aside0.mk (HT7.out.set8 t)
      clear g0 g1 g2 g3 g4 g5 g6 g7 f0 f1 f2 f3 f4 f5 f6 f7
      generalize (((((((w7.setCell ⟨w.heap.size + 1, 0, none⟩ (.int .i64 (wi t.a))).setCell ⟨w.heap.size + 1, 1, none⟩ (.int .i64 (wi t.b))).setCell ⟨w.heap.size + 1, 2, none⟩ (.int .i64 (wi t.c))).setCell ⟨w.heap.size + 1, 3, none⟩ (.int .i64 (wi t.d))).setCell ⟨w.heap.size + 1, 4, none⟩ (.int .i64 (wi t.e))).setCell ⟨w.heap.size + 1, 5, none⟩ (.int .i64 (wi t.f))).setCell ⟨w.heap.size + 1, 6, none⟩ (.int .i64 (wi t.g))).setCell ⟨w.heap.size + 1, 7, none⟩ (.int .i64 (wi t.h)) = w8 at *
      go_wp2
      go_roundw
      case measure => have := HQ.out; simp [intOf]; omega
      case rel => exact ⟨q, t, HQ.out.1, HQ.out.2.1, rfl, by rw [HTt.out]; exact HNx, HT8⟩
    · obtain rfl : p = L.length := by omega
      have HE : Aside0 (shaV l = digL ⟨sa, sb, sc, sd, se, sf, sg, sh⟩) := ⟨by rw [← HSh.out, ← HAb.out, List.drop_length, absorb_lt (by decide)]⟩
      clear HAb hlt hj hp64 HSh
      generalize (⟨sa, sb, sc, sd, se, sf, sg, sh⟩ : St) = s at *
      go_wp2_with (fail)
      rw [z32_lit]
      have HO1 : Aside0 (ROutW w s wr.heap.size (outL (digL s) 0) (wr.alloc (.cells (dA (List.replicate 32 0)) 23))) := ⟨((bel_alloc (Below.refl _ _) _).block _ (blk_lt HT.out.1)).trans HT.out.1, ((bel_alloc (Below.refl _ _) _).block _ (blk_lt HT.out.2.1)).trans HT.out.2.1, heap_alloc_new _ _, below_step HT.out.2.2.2 (bel_alloc (Below.refl _ _) _), blk_lt HT.out.2.1⟩
      generalize wr.heap.size = g6 at *
      generalize wr.alloc (.cells (dA (List.replicate 32 0)) 23) = w8 at *
      clear HT
      go_loopw [7] (fun v7 wr' => ∃ i : Nat, i ≤ 32 ∧ v7 = .int .i64 (i : Int) ∧ Aside0 (ROutW w s g6 (outL (digL s) i) wr')) (fun v7 _ => 32 - (intOf v7).toNat)
      case atStart => exact ⟨0, Nat.zero_le _, rfl, HO1⟩
      case round =>
        clear HO1
        obtain ⟨i, hi, rfl, HT⟩ := hrel
        by_cases hlt : i < 32
        · have hltI : (i : Int) < 32 := by omega
          obtain ⟨k, m4, e8, ee, pp, x, y, z, hk, b1, b2, b3, b4, b5, b6, HP, b8, hx, b9, b10, b11, b12, b13, b14, b15, HZ⟩ := byteN s i hlt
          have HP := Aside0.mk HP
          have HO := Aside0.mk (outL_set (digL s) (digL_length s) i hlt)
          rw [HZ] at HO
          have hkI : (k : Int) < 8 := by omega
          have hpn : pp ≠ 0 := by omega
          have hpb : (pp == 0) = false := by rw [beq_eq_false_iff_ne]; exact hpn
          have h1 : wr.cell? ⟨w.heap.size + 1, k, none⟩ = some (.int .i64 x) := by rw [← hx]; exact (blk_cell HT.out.2.1 k).trans (nArr_get _ k hk)
          have HOl := Aside0.mk (outL_length (digL s) (digL_length s) i hi)
          clear hx HZ
          go_wp2
          refine wp_region_quiet_store 14 (by kernel_rfl) rfl rfl (by kernel_rfl) ?_
          simp only [List.take_succ_cons, List.take_zero, List.cons_append, List.nil_append]
          repeat (go_big_quiet_step ((go_at_call 22; exact power_q _ _ _ _ _ HP.out)))
          refine wpQuiet_nil ?_
          rintro w2 ⟨nq2, rfl⟩
          have HW2 : Aside0 _ := ⟨HT.out.below (pw_below_drewN (Below.refl _ _) nq2)⟩
          clear h1 HT b1 b2 b3 b4 b5 b6 b8 b9 b10 b11 b12 b13 b14 b15 hpn hpb
          have hfz2 : (wr.drewN nq2).frozen? ⟨g6, i, none⟩ = false := blk_frozen HW2.out.2.2.1 i
          have hst2 : ∃ v, (wr.drewN nq2).cell? ⟨g6, i, none⟩ = some v := ⟨_, (blk_cell HW2.out.2.2.1 i).trans (dA_at _ _ (by rw [HOl.out]; exact hlt))⟩
          obtain ⟨v2, hst2⟩ := hst2
          generalize wr.drewN nq2 = w2 at *
          go_wp2
          go_roundw
          case measure => simp [intOf]; omega
          case rel => exact ⟨i + 1, by omega, by go_num, ⟨by rw [← HO.out]; exact HW2.out.set i z⟩⟩
        · obtain rfl : i = 32 := by omega
          rw [outL_end _ (digL_length s), ← HE.out] at HT
          clear hi hlt
          obtain ⟨d, hd⟩ : ∃ d, d = shaV l := ⟨_, rfl⟩
          rw [← hd] at HD1 HD2 HT
          have Hd := Aside0.mk hd
          clear hd HE
          have HI3 := Aside0.mk (dA_one d)
          have HTa : Aside0 (wr.heap[g6]? = some (.cells (dA d) 23 (0, 0))) := ⟨HT.out.2.2.1⟩
          have HTb : Aside0 (wr.heap[w.heap.size]? = some (.cells (dA (List.replicate 32 0)) 23 (0, 0))) := ⟨HT.out.1⟩
          go_wp2_with (first
            | (with_reducible refine wpList_load_row rfl 23 (.tmp 6) rfl g6 rfl 23 (dA d) (0, 0) _ HTa.out Tryd.underlying23 rfl HD1.out ?_)
            | (with_reducible refine wpList_store_row rfl 23 (.tmp 2) (.tmp 42) rfl w.heap.size (dA d) rfl rfl 23 _ HTb.out HD1.out HD2.out HI3.out ?_))
          exact bodyPost_ret (results_cell_row Tryd.results17 _ _ w.heap.size 23 (dA d) (0, 0) _ rfl (setRow_heap _ _ _ _ _ _ HT.out.1) Tryd.underlying23 rfl HD1.out) rfl ⟨by rw [Hd.out], below_setRow HT.out.2.2.2.1 (Nat.le_refl _) _⟩
end Go.Proofs.YtpdficnjjmapmaaDoorRRR.Sha
