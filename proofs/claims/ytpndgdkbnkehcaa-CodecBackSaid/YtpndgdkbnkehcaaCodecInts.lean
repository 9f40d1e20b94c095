/- codec.Ints: the numbers of bytes. -/
import Derived.Test.YtpndgdkbnkehcaaChunk
import Derived.RangeFuncFrom
import Derived.RangeFuncWrites
import Derived.Maps.AppendAt
namespace Go.Proofs.Ytpndgdkbnkehcaa.Codec
open Go.RowKit Go.Shelf Go.Proofs.YtpndgdkbnkehcaaW.PrintWords Go.Proofs.YtpndgdkbnkehcaaW.PrintLast Go.Proofs.YtpndgdkbnkehcaaW.PrintMore Go.Proofs.Ytpndgdkbnkehcaa.K Go.Proofs.Ytpndgdkbnkehcaa.Chunk
set_option linter.unusedVariables false
attribute [local go_sem] Oper.semAt_some
/-- The number of the eight bytes from place p on. -/
def val8 (l : List Int) (p : Nat) : Int := ((((((l.getD p 0 * 256 + l.getD (p + 1) 0) * 256 + l.getD (p + 2) 0) * 256 + l.getD (p + 3) 0) * 256 + l.getD (p + 4) 0) * 256 + l.getD (p + 5) 0) * 256 + l.getD (p + 6) 0) * 256 + l.getD (p + 7) 0
def intAt (l : List Int) (x : Nat) : Int := IntKind.i64.wrap (val8 l (x * 8))
def intsV (l : List Int) : List Int := (List.range (l.length / 8)).map (intAt l)
theorem info_int : (Try.prog.info? 3).map (fun i => (i.zero, i.size, i.bytes)) = some (some (.int .i64 0), 1, 8) := by kernel_rfl
theorem addr_plain {w : World} {ad : Addr} {v : Value} (h : w.cell? ad = some v) : ad = ⟨ad.block, ad.off, none⟩ := by
  obtain ⟨b, o, s⟩ := ad
  cases s with
  | none => rfl
  | some x =>
    unfold World.cell? at h
    simp only [Option.isSome_some, if_true] at h
    split at h <;> cases h
theorem bytes_at {w : World} {A : Option Addr} {m : Nat} {l : List Int} (h : Kd.C (Kd.int .u8) w A m l) : ∃ b off, (0 < m → A = some ⟨b, off, none⟩) ∧ ∀ W, Below w.heap.size w W → ∀ j, j < m → W.cell? ⟨b, off + j, none⟩ = some (.int .u8 (l.getD j 0)) := by
  rcases Nat.eq_zero_or_pos m with h0 | h0
  · exact ⟨0, 0, fun h => by omega, fun W _ j hj => by omega⟩
  · obtain ⟨ad, rfl, hc⟩ := (reads_int h).2.2 h0
    have hp : ad = ⟨ad.block, ad.off, none⟩ := by
      have h1 := hc 0 h0
      have h2 : ad.add 0 = ad := by simp [Addr.add]
      rw [h2] at h1
      exact addr_plain h1
    refine ⟨ad.block, ad.off, fun _ => by rw [← hp], fun W hb j hj => ?_⟩
    have h1 := int_cell h hb j hj
    rw [hp, add_at] at h1
    exact h1
theorem KpC_put {w : World} (Bs Bn : Nat) (h1 : Bs < w.heap.size) (h2 : Bn < w.heap.size) (W : World) (l : Nat) (o o' : Obj) (hl : w.heap.size ≤ l) (_ : W.heap[l]? = some o) (_ : o.isCells = false) (_ : o.isWalk = false) : KpC Bs Bn W (W.putObj l o') :=
  ⟨World.putObj_heap_other (by omega), World.putObj_heap_other (by omega)⟩
theorem own_low {W : World} {base base' : Nat} {e : TypeId} {size : Nat} {v : Value} {k : Nat} {xs : List Value} (h : W.ownsRow base e size v k xs) (hb : base' ≤ base) : W.ownsRow base' e size v k xs :=
  ⟨h.1, h.2.elim .inl fun ⟨g, cap, cur, h1, h2, h3⟩ => .inr ⟨g, cap, cur, h1, Nat.le_trans hb h2, h3⟩⟩
theorem own_not {W : World} {base : Nat} {e : TypeId} {size : Nat} {v : Value} {k : Nat} {xs : List Value} (h : W.ownsRow base e size v k xs) (j : Nat) (hj : j < base) : some j ≠ v.ownBlock := by
  rcases h.2 with ⟨rfl, _⟩ | ⟨g, cap, cur, rfl, hb, _⟩
  · simp [Value.ownBlock]
  · simp only [Value.ownBlock, ne_eq, Option.some.injEq]
    omega
theorem app_step {W w1 : World} {B k m : Nat} {t e : TypeId} {v v' : Value} {xs ys : List Value} {tmp : Obj} (hv : Boxed W B t v) (hte : t ≠ e) (hrow : W.ownsRow (B + 3) e 1 v k xs) (hWs : B + 3 ≤ W.heap.size) (hown' : w1.ownsRow (B + 3) e 1 v' m ys) (hgrow : (W.alloc tmp).grownBy w1 v.ownBlock) :
    w1.cell? ⟨B, 0, none⟩ = some v ∧ w1.frozen? ⟨B, 0, none⟩ = false ∧ Boxed (w1.setCell ⟨B, 0, none⟩ v') B t v' ∧ (w1.setCell ⟨B, 0, none⟩ v').ownsRow (B + 3) e 1 v' m ys ∧ KeepsOthers W (w1.setCell ⟨B, 0, none⟩ v') ∧ Below B W (w1.setCell ⟨B, 0, none⟩ v') ∧ KpC (B + 1) (B + 1 + 1) W (w1.setCell ⟨B, 0, none⟩ v') := by
  obtain ⟨hv1, hv2, _, hk2, hb2⟩ := hv.appended hte (own_low hrow (by omega)) (by omega) (Nat.le_refl _) (own_low hown' (by omega)) hgrow
  have hsz : W.heap.size + 1 ≤ w1.heap.size := by
    have h := hgrow.size
    simpa using h
  have hb : ∀ j, B < j → j < B + 3 → (w1.setCell ⟨B, 0, none⟩ v').heap[j]? = W.heap[j]? := fun j h1 h2 =>
    ((grownBy_setCell' w1 B v').block j (by omega) (by simp; omega)).trans ((hgrow.block j (by simp; omega) (own_not hrow j h2)).trans (heap_alloc_old _ _ _ (by omega)))
  exact ⟨hv1.cell, hv1.frozen, hv2, hown'.kept (grownBy_setCell' w1 B v') (.inr (own_not hown' B (by omega)).symm), hk2, hb2, hb _ (by omega) (by omega), hb _ (by omega) (by omega)⟩
theorem nums_snoc (k : IntKind) (a : List Int) (b : Int) : nums k (a ++ [b]) = nums k a ++ [.int k b] := by simp [nums]
theorem u64_step (m x : Int) (h0 : 0 ≤ m) (h1 : m < 72057594037927936) (h2 : 0 ≤ x ∧ x < 256) : IntKind.u64.wrap (m * 256) = m * 256 ∧ Go.bits .or .u64 (m * 256) x = m * 256 + x ∧ IntKind.u64.wrap x = x := by
  have hk : ∀ n : Int, 0 ≤ n → n < 2 ^ 64 → IntKind.u64.wrap n = n := fun n h0 h1 => by rw [IntKind.wrap_u64]; omega
  exact ⟨hk _ (by omega) (by omega), bits_join .u64 64 (by decide) hk 8 _ _ (by omega) (by omega) (by omega) (by omega) (by omega) (by omega), hk _ (by omega) (by omega)⟩
theorem u64_chain (y0 y1 y2 y3 y4 y5 y6 y7 : Int) (b0 : 0 ≤ y0 ∧ y0 < 256) (b1 : 0 ≤ y1 ∧ y1 < 256) (b2 : 0 ≤ y2 ∧ y2 < 256) (b3 : 0 ≤ y3 ∧ y3 < 256) (b4 : 0 ≤ y4 ∧ y4 < 256) (b5 : 0 ≤ y5 ∧ y5 < 256) (b6 : 0 ≤ y6 ∧ y6 < 256) (b7 : 0 ≤ y7 ∧ y7 < 256) :
    ∃ m2 m3 m4 m5 m6 m7 m8 t1 t2 t3 t4 t5 t6 t7 : Int, IntKind.u64.wrap y0 = y0 ∧ IntKind.u64.wrap y1 = y1 ∧ IntKind.u64.wrap y2 = y2 ∧ IntKind.u64.wrap y3 = y3 ∧ IntKind.u64.wrap y4 = y4 ∧ IntKind.u64.wrap y5 = y5 ∧ IntKind.u64.wrap y6 = y6 ∧ IntKind.u64.wrap y7 = y7 ∧ Go.bits .or .u64 0 y0 = y0 ∧
      IntKind.u64.wrap (y0 * 256) = t1 ∧ Go.bits .or .u64 t1 y1 = m2 ∧ IntKind.u64.wrap (m2 * 256) = t2 ∧ Go.bits .or .u64 t2 y2 = m3 ∧ IntKind.u64.wrap (m3 * 256) = t3 ∧ Go.bits .or .u64 t3 y3 = m4 ∧ IntKind.u64.wrap (m4 * 256) = t4 ∧ Go.bits .or .u64 t4 y4 = m5 ∧
      IntKind.u64.wrap (m5 * 256) = t5 ∧ Go.bits .or .u64 t5 y5 = m6 ∧ IntKind.u64.wrap (m6 * 256) = t6 ∧ Go.bits .or .u64 t6 y6 = m7 ∧ IntKind.u64.wrap (m7 * 256) = t7 ∧ Go.bits .or .u64 t7 y7 = m8 ∧ m8 = ((((((y0 * 256 + y1) * 256 + y2) * 256 + y3) * 256 + y4) * 256 + y5) * 256 + y6) * 256 + y7 := by
  obtain ⟨w1, j1, k1⟩ := u64_step y0 y1 (by omega) (by omega) b1
  obtain ⟨w2, j2, k2⟩ := u64_step (y0 * 256 + y1) y2 (by omega) (by omega) b2
  obtain ⟨w3, j3, k3⟩ := u64_step ((y0 * 256 + y1) * 256 + y2) y3 (by omega) (by omega) b3
  obtain ⟨w4, j4, k4⟩ := u64_step (((y0 * 256 + y1) * 256 + y2) * 256 + y3) y4 (by omega) (by omega) b4
  obtain ⟨w5, j5, k5⟩ := u64_step ((((y0 * 256 + y1) * 256 + y2) * 256 + y3) * 256 + y4) y5 (by omega) (by omega) b5
  obtain ⟨w6, j6, k6⟩ := u64_step (((((y0 * 256 + y1) * 256 + y2) * 256 + y3) * 256 + y4) * 256 + y5) y6 (by omega) (by omega) b6
  obtain ⟨w7, j7, k7⟩ := u64_step ((((((y0 * 256 + y1) * 256 + y2) * 256 + y3) * 256 + y4) * 256 + y5) * 256 + y6) y7 (by omega) (by omega) b7
  have j0 := (u64_step 0 y0 (by decide) (by decide) b0)
  refine ⟨_, _, _, _, _, _, _, _, _, _, _, _, _, _, j0.2.2, k1, k2, k3, k4, k5, k6, k7, by simpa using j0.2.1, w1, j1, w2, j2, w3, j3, w4, j4, w5, j5, w6, j6, w7, j7, rfl⟩
set_option maxRecDepth 100000 in
set_option maxHeartbeats 4000000 in
theorem ints_in (F : Fence) (n : Nat) (h3 : F.fn 18) (h4 : F.fn 23) (h5 : F.fn 24) (hro : F.round = none) (hn : 3 ≤ n) (A : Option Addr) (N c : Nat) (l : List Int) (w : World) (hC : Kd.C (Kd.int .u8) w A (N * 8) l) (hc : N * 8 ≤ c) (hby : ∀ x ∈ l, 0 ≤ x ∧ x < 256) (hreach : N * 8 ≤ 140737488351232) :
    CallsIn F n Try.prog 18 #[.slice A (N * 8) c] w fun e W' => ∃ v, e = .returned (.tuple #[v, .int .i64 0]) ∧ W'.ownsRow w.heap.size 3 1 v N (nums .i64 ((List.range N).map (intAt l))) ∧ Below w.heap.size w W' := by
  have h1 : 1 ≤ n := by omega
  obtain ⟨i0, hi, hz0, hz1, hz2⟩ := info_parts info_int
  have hm8 : ((N * 8 : Nat) : Int) % 8 = 0 := by omega
  generalize hN8 : N * 8 = N8 at *
  have hm0 : (((N8 : Nat) : Int) % 8 != 0) = false := by rw [hm8]; rfl
  refine callsIn_of_wp_marks Try.func18 rfl h3 ?_ hro
  simp only [Try.ntmps18, List.size_toArray, List.length_cons, List.length_nil, Nat.reduceAdd, Nat.reduceSub, Array.replicate_succ, Array.replicate_zero, List.push_toArray, List.append_toArray, List.nil_append, List.cons_append]
  gi_wp2_with (gi_at_call 23; refine (chunk_in F (n - 1) h4 hro A N8 c 8 (by decide) _).mono ?_; rintro e w' ⟨rfl, rfl⟩)
  have bO := Boxed.new w 37 (.slice none 0 0)
  have bS := Boxed.new (w.alloc (.cells #[.slice none 0 0] 37)) 25 (.slice A N8 c)
  have bN := Boxed.new ((w.alloc (.cells #[.slice none 0 0] 37)).alloc (.cells #[.slice A N8 c] 25)) 3 (.int .i64 ((8 : Nat) : Int))
  rw [World.size_alloc] at bS
  rw [World.size_alloc, World.size_alloc] at bN
  have hB0 : Below w.heap.size w (((w.alloc (.cells #[.slice none 0 0] 37)).alloc (.cells #[.slice A N8 c] 25)).alloc (.cells #[.int .i64 ((8 : Nat) : Int)] 3)) := bel_alloc (bel_alloc (bel_alloc (Below.refl _ _) _) _) _
  obtain ⟨b, off, hA, hcell⟩ := bytes_at hC
  refine wpIn_rangeFunc_ownG hro h1 (gf := 24) (lb := #[.pointer (some ⟨w.heap.size + 1, 0, none⟩), .pointer (some ⟨w.heap.size + 1 + 1, 0, none⟩)]) rfl h5 (enters_of Try.func24 (by kernel_rfl) rfl)
    (chunk_stops F (n - 1) h5 hro (by omega) (w.heap.size + 1) (w.heap.size + 1 + 1) b off N c 8 A (fun h => hA (by omega)) (by decide) (by omega) (by omega) _ (by simp) (by simp) (by rw [hN8]; exact (bS.alloc _).cell) bN.cell)
    (fun h k => h.trans k) (KpC_put _ _ (by simp) (by simp)) (Below.refl _ _) (fun _ => rfl)
    (fun (pre : List (Fin N)) W => (∃ v, Boxed W w.heap.size 37 v ∧ W.ownsRow (w.heap.size + 3) 3 1 v (pre.map (fun x : Fin N => intAt l x.1)).length (nums .i64 (pre.map (fun x : Fin N => intAt l x.1))) ∧ True) ∧ (Below w.heap.size w W ∧ w.heap.size + 3 ≤ W.heap.size))
    (fun _ _ _ => False)
    (OwnFrom.and (Own.from (holdsRow_own (w.heap.size + 3) w.heap.size 37 3 1 (fun (pre : List (Fin N)) => (pre.map (fun x : Fin N => intAt l x.1)).length) (fun (pre : List (Fin N)) => nums .i64 (pre.map (fun x : Fin N => intAt l x.1))) (fun _ _ => True)) _) (OwnFrom.and (ownFrom_below (Nat.le_refl _) (by simp; omega)) (fun _ _ _ _ hs hg _ => Nat.le_trans hs hg.size)))
    (fun _ _ _ _ _ hs _ _ => hs)
    ⟨⟨_, (bO.alloc _).alloc _, World.ownsRow_nil _ _ _ _, trivial⟩, hB0, by simp⟩
    (fun x => { tmps := (Value.slice A N8 c :: undef :: Value.slice none 0 0 :: Value.int .i64 0 :: Value.pointer (some ⟨w.heap.size, 0, none⟩) :: Value.slice (some ⟨b, off + x.1 * 8, none⟩) 8 8 :: undef :: undef :: undef :: Value.slice A N8 c :: Value.int .i64 (N8 : Int) :: Value.int .i64 0 :: Value.bool false :: Value.slice A N8 c :: Value.func (.func 24) #[] #[.pointer (some ⟨w.heap.size + 1, 0, none⟩), .pointer (some ⟨w.heap.size + 1 + 1, 0, none⟩)] :: Value.slice (some ⟨b, off + x.1 * 8, none⟩) 8 8 :: undef :: undef :: undef :: undef :: undef :: undef :: undef :: undef :: undef :: undef :: undef :: undef :: undef :: undef :: undef :: undef :: undef :: undef :: []).toArray, defers := [] }) ?assign ?body ?done ?stop
  case assign =>
    intro l' x W K hK
    unfold Chunk.encs
    gi_wp2
    exact hK
  case body =>
    rintro l' pre x W ⟨⟨v, hv, hrow, _⟩, hB, hWs⟩ hlt
    have hx := x.2
    have hxl : x.1 * 8 + 8 ≤ N8 := by omega
    have hc := hv.cell
    have hq := fun j (hj : j < 8) => hcell W hB (x.1 * 8 + j) (by omega)
    have HI : Aside0 (intAt l x.1 = IntKind.i64.wrap (((((((l.getD (x.1 * 8) 0 * 256 + l.getD (x.1 * 8 + 1) 0) * 256 + l.getD (x.1 * 8 + 2) 0) * 256 + l.getD (x.1 * 8 + 3) 0) * 256 + l.getD (x.1 * 8 + 4) 0) * 256 + l.getD (x.1 * 8 + 5) 0) * 256 + l.getD (x.1 * 8 + 6) 0) * 256 + l.getD (x.1 * 8 + 7) 0)) := ⟨rfl⟩
    have e0 : W.cell? ⟨b, off + x.1 * 8, none⟩ = some (.int .u8 (l.getD (x.1 * 8) 0)) := hq 0 (by decide)
    have e1 : W.cell? ⟨b, off + x.1 * 8 + 1, none⟩ = some (.int .u8 (l.getD (x.1 * 8 + 1) 0)) := hq 1 (by decide)
    have e2 : W.cell? ⟨b, off + x.1 * 8 + 2, none⟩ = some (.int .u8 (l.getD (x.1 * 8 + 2) 0)) := hq 2 (by decide)
    have e3 : W.cell? ⟨b, off + x.1 * 8 + 3, none⟩ = some (.int .u8 (l.getD (x.1 * 8 + 3) 0)) := hq 3 (by decide)
    have e4 : W.cell? ⟨b, off + x.1 * 8 + 4, none⟩ = some (.int .u8 (l.getD (x.1 * 8 + 4) 0)) := hq 4 (by decide)
    have e5 : W.cell? ⟨b, off + x.1 * 8 + 5, none⟩ = some (.int .u8 (l.getD (x.1 * 8 + 5) 0)) := hq 5 (by decide)
    have e6 : W.cell? ⟨b, off + x.1 * 8 + 6, none⟩ = some (.int .u8 (l.getD (x.1 * 8 + 6) 0)) := hq 6 (by decide)
    have e7 : W.cell? ⟨b, off + x.1 * 8 + 7, none⟩ = some (.int .u8 (l.getD (x.1 * 8 + 7) 0)) := hq 7 (by decide)
    obtain ⟨m2, m3, m4, m5, m6, m7, m8, t1, t2, t3, t4, t5, t6, t7, c0, c1, c2, c3, c4, c5, c6, c7, o0, s1, o1, s2, o2, s3, o3, s4, o4, s5, o5, s6, o6, s7, o7, h8⟩ := u64_chain _ _ _ _ _ _ _ _ (byte_at hby (x.1 * 8)) (byte_at hby (x.1 * 8 + 1)) (byte_at hby (x.1 * 8 + 2)) (byte_at hby (x.1 * 8 + 3)) (byte_at hby (x.1 * 8 + 4)) (byte_at hby (x.1 * 8 + 5)) (byte_at hby (x.1 * 8 + 6)) (byte_at hby (x.1 * 8 + 7))
    rw [← h8] at HI
    clear h8 hq
    generalize l.getD (x.1 * 8) 0 = y0 at *
    generalize l.getD (x.1 * 8 + 1) 0 = y1 at *
    generalize l.getD (x.1 * 8 + 2) 0 = y2 at *
    generalize l.getD (x.1 * 8 + 3) 0 = y3 at *
    generalize l.getD (x.1 * 8 + 4) 0 = y4 at *
    generalize l.getD (x.1 * 8 + 5) 0 = y5 at *
    generalize l.getD (x.1 * 8 + 6) 0 = y6 at *
    generalize l.getD (x.1 * 8 + 7) 0 = y7 at *
    generalize off + x.1 * 8 = p at *
    obtain ⟨q, hq⟩ : ∃ q, IntKind.i64.wrap m8 = q := ⟨_, rfl⟩
    rw [hq] at HI
    gi_wp2
    refine wpIn_loop_rounds 9 ?_
    rw [roundsIn_succ]
    gi_wp2
    rw [roundsIn_succ]
    gi_wp2
    rw [roundsIn_succ]
    gi_wp2
    rw [roundsIn_succ]
    gi_wp2
    rw [roundsIn_succ]
    gi_wp2
    rw [roundsIn_succ]
    gi_wp2
    rw [roundsIn_succ]
    gi_wp2
    rw [roundsIn_succ]
    gi_wp2
    rw [roundsIn_succ]
    have hlen : (pre.map (fun x : Fin N => intAt l x.1)).length = pre.length := List.length_map ..
    have hte : 37 ≠ 3 := by decide
    gi_wp2_with (gi_at_builtin; refine wpListIn_append_own _ rfl _ _ 37 rfl (w.heap.size + 3) 3 i0 (.int .i64 0) 1 8 Try.underlying37 hi hz0 hz1 hz2 rfl (by decide) _ _ _ rfl (hrow.alloc _) ⟨W.heap.size, 0, none⟩ 1 1 [.int .i64 q] rfl rfl (cell_one_new _ _ _) (by simp [Value.oneCell']) (by simp only [maxLen]; omega) (by omega) (by simp; omega) ?_; intro v' w1 hown' hgrow _; obtain ⟨g', cap', rfl⟩ := ownsRow_succ hown'; obtain ⟨hc1, hf1, hv2, hr2, hk2, hb2, hk3⟩ := app_step hv hte hrow hWs hown' hgrow)
    have e9 : (pre ++ [x]).map (fun x : Fin N => intAt l x.1) = pre.map (fun x : Fin N => intAt l x.1) ++ [q] := by
      rw [List.map_append, List.map_cons, List.map_nil, HI.1]
    rw [hlen] at hk2 hk3 hv2 hr2 hb2
    have hsz := hk2.size
    refine ⟨hk2.from _, hk3, ⟨_, hv2, ?_, trivial⟩, hB.trans hb2, by omega⟩
    rw [e9, List.length_append, hlen, nums_snoc]
    exact hr2
  case done =>
    rintro D ys W hD rfl ⟨⟨v, hv, hrow, _⟩, hB, hWs⟩ hK
    have hc := hv.cell
    gi_wp2
    refine ⟨by simp, .inl ⟨_, _, rfl, run_takeDeferred hK, ?_⟩⟩
    have e9 : (List.finRange N).map (fun x : Fin N => intAt l x.1) = (List.range N).map (intAt l) := by
      refine List.ext_getElem (by simp) fun i h1 h2 => by simp
    rw [e9, List.length_map, List.length_range] at hrow
    exact ⟨_, results_tmp2 rfl _ _ _, v, rfl, ownsRow_putObj (own_low hrow (by omega)) _ hK rfl, hB.trans (belowK_b (w := w) (Nat.le_refl _) W D _ _ (by simp at hD; omega) hK rfl rfl)⟩
  case stop =>
    rintro D c' pre W _ _ h _
    exact h.elim
end Go.Proofs.Ytpndgdkbnkehcaa.Codec
