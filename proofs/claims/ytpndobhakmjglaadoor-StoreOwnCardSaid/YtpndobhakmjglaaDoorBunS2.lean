/- Texts put together: ShaWrite, Clone, ShaNew, ShaSum, ShaTop, CodecJoin, StoreSeal, StoreAt, StoreAdd, StoreApp. -/
import Derived.Test.YtpndobhakmjglaaDoorBunS1
import Derived.Deep.LoopGhost
import Derived.Laws.Tables
import Derived.Laws.CopyOwn
import Derived.Deep.WholeRow
set_option linter.unusedVariables false
set_option linter.unusedSimpArgs false
namespace Go.Proofs.YtpndobhakmjglaaDoor.Sha
open Go.RowKit Go.Proofs.YtpndobhakmjglaaDoorW.PrintWords Go.Proofs.YtpndobhakmjglaaDoorW.PrintLast Go.Proofs.YtpndobhakmjglaaDoorW.PrintMore Go.Proofs.YtpndobhakmjglaaDoor.K
set_option linter.unusedVariables false
def hCells (s : St) (v : Value) (n : Int) : Array Value := #[.int .u32 (wi s.a), .int .u32 (wi s.b), .int .u32 (wi s.c), .int .u32 (wi s.d), .int .u32 (wi s.e), .int .u32 (wi s.f), .int .u32 (wi s.g), .int .u32 (wi s.h), v, .int .i64 n]
/-- A hash at block g: its state, what it has not turned yet (row v), how many bytes it has taken. -/
def HashAt (W : World) (B g : Nat) (v : Value) (s : St) (r : List Int) (n : Int) : Prop :=
  B ≤ g ∧ W.heap[g]? = some (.cells (hCells s v n) 76 (0, 0)) ∧ Kd.Q (Kd.int .u8) 5 W B (fun _ => True) v r
theorem HashAt.below {W W1 : World} {B g : Nat} {v : Value} {s : St} {r : List Int} {n : Int} (h : HashAt W B g v s r n) (hb : Below W.heap.size W W1) : HashAt W1 B g v s r n :=
  ⟨h.1, (hb.block _ (blk_lt h.2.1)).trans h.2.1, Kd.Q_below h.2.2 hb⟩
/-- The row is no part of the hash's own block. -/
theorem HashAt.apart {W : World} {B g : Nat} {v : Value} {s : St} {r : List Int} {n : Int} (h : HashAt W B g v s r n) : some g ≠ v.ownBlock :=
  Kd.Q_ne h.2.2 h.2.1 (by decide)
theorem HashAt.set {W : World} {B g : Nat} {v : Value} {s : St} {r : List Int} {n : Int} (h : HashAt W B g v s r n) (i : Nat) (u : Value) : Kd.Q (Kd.int .u8) 5 (W.setCell ⟨g, i, none⟩ u) B (fun _ => True) v r :=
  Kd.Q_set h.2.2 h.2.1 (by intro q hq; have : q = 5 := by simpa [Kd.int, Kd.scalar] using hq
                           subst this; decide) i u
theorem HashAt.setN {W : World} {B g : Nat} {v : Value} {s : St} {r : List Int} {n : Int} (h : HashAt W B g v s r n) (m : Int) : HashAt (W.setCell ⟨g, 9, none⟩ (.int .i64 m)) B g v s r m :=
  ⟨h.1, blk_set h.2.1 9 _, h.set 9 _⟩
theorem HashAt.setS {W : World} {B g : Nat} {v : Value} {s : St} {r : List Int} {n : Int} (h : HashAt W B g v s r n) (t : St) :
    HashAt ((((((((W.setCell ⟨g, 0, none⟩ (.int .u32 (wi t.a))).setCell ⟨g, 1, none⟩ (.int .u32 (wi t.b))).setCell ⟨g, 2, none⟩ (.int .u32 (wi t.c))).setCell ⟨g, 3, none⟩ (.int .u32 (wi t.d))).setCell ⟨g, 4, none⟩ (.int .u32 (wi t.e))).setCell ⟨g, 5, none⟩ (.int .u32 (wi t.f))).setCell ⟨g, 6, none⟩ (.int .u32 (wi t.g))).setCell ⟨g, 7, none⟩ (.int .u32 (wi t.h))) B g v t r n := by
  have h1 : HashAt (W.setCell ⟨g, 0, none⟩ (.int .u32 (wi t.a))) B g v { s with a := t.a } r n := ⟨h.1, blk_set h.2.1 0 _, h.set 0 _⟩
  have h2 : HashAt _ B g v { s with a := t.a, b := t.b } r n := ⟨h1.1, blk_set h1.2.1 1 _, h1.set 1 _⟩
  have h3 : HashAt _ B g v { s with a := t.a, b := t.b, c := t.c } r n := ⟨h2.1, blk_set h2.2.1 2 _, h2.set 2 _⟩
  have h4 : HashAt _ B g v { s with a := t.a, b := t.b, c := t.c, d := t.d } r n := ⟨h3.1, blk_set h3.2.1 3 _, h3.set 3 _⟩
  have h5 : HashAt _ B g v { s with a := t.a, b := t.b, c := t.c, d := t.d, e := t.e } r n := ⟨h4.1, blk_set h4.2.1 4 _, h4.set 4 _⟩
  have h6 : HashAt _ B g v { s with a := t.a, b := t.b, c := t.c, d := t.d, e := t.e, f := t.f } r n := ⟨h5.1, blk_set h5.2.1 5 _, h5.set 5 _⟩
  have h7 : HashAt _ B g v { s with a := t.a, b := t.b, c := t.c, d := t.d, e := t.e, f := t.f, g := t.g } r n := ⟨h6.1, blk_set h6.2.1 6 _, h6.set 6 _⟩
  exact ⟨h7.1, blk_set h7.2.1 7 _, h7.set 7 _⟩
theorem HashAt.setR {W : World} {B g : Nat} {v v1 : Value} {s : St} {r r1 : List Int} {n : Int} (h : HashAt W B g v s r n) (h1 : Kd.Q (Kd.int .u8) 5 W B (fun _ => True) v1 r1) : HashAt (W.setCell ⟨g, 8, none⟩ v1) B g v1 s r1 n :=
  ⟨h.1, blk_set h.2.1 8 _, Kd.Q_set h1 h.2.1 (by intro q hq; have : q = 5 := by simpa [Kd.int, Kd.scalar] using hq
                                                 subst this; decide) 8 v1⟩
/-- What a hash has done to the world: its own block and its row's, and what is new. -/
def HTouch (g : Nat) (v : Value) (k : Nat) : Prop := k = g ∨ some k = v.ownBlock
theorem not_u8 (s : St) (A : Option Addr) (a b : Nat) (n : Int) (j : Nat) (x : Int) : (hCells s (.slice A a b) n)[j]? ≠ some (.int .u8 x) := by
  intro h
  have hj : j < 10 := by
    have := (Array.getElem?_eq_some_iff.1 h).1
    simpa [hCells] using this
  match j, hj with
  | 0, _ => simp [hCells] at h
  | 1, _ => simp [hCells] at h
  | 2, _ => simp [hCells] at h
  | 3, _ => simp [hCells] at h
  | 4, _ => simp [hCells] at h
  | 5, _ => simp [hCells] at h
  | 6, _ => simp [hCells] at h
  | 7, _ => simp [hCells] at h
  | 8, _ => simp [hCells] at h
  | 9, _ => simp [hCells] at h
theorem C_far {k : IntKind} {W : World} {g t : Nat} {cs : Array Value} {fr : Nat × Nat} (h : W.heap[g]? = some (.cells cs t fr)) (hne : ∀ (j : Nat) (x : Int), cs[j]? ≠ some (Value.int k x)) {A : Option Addr} {n : Nat} {xs : List Int} (hC : Kd.C (Kd.int k) W A n xs) (i : Nat) (u : Value) :
    Kd.C (Kd.int k) (W.setCell ⟨g, i, none⟩ u) A n xs := by
  have hr := reads_int hC
  refine C_int ⟨hr.1, hr.2.1, fun hn => ?_⟩
  obtain ⟨ad, e, hc⟩ := hr.2.2 hn
  refine ⟨ad, e, fun j hj => ?_⟩
  have h1 := hc j hj
  rw [World.cell?_setCell_far _ _ _ _ (fun he => ?_)]
  · exact h1
  · have he' : (ad.add j).block = g := he.symm
    unfold World.cell? at h1
    rw [he', h] at h1
    simp only at h1
    split at h1
    · cases h1
    · exact hne _ _ h1
/-- The row behind an append, laid into the hash. -/
theorem HashAt.laid {W w1 : World} {B g : Nat} {v v1 : Value} {s : St} {r r1 : List Int} {n : Int} (h : HashAt W B g v s r n) (hg : W.grownBy w1 v.ownBlock) (h1 : Kd.Q (Kd.int .u8) 5 w1 B (fun _ => True) v1 r1) :
    w1.heap[g]? = some (.cells (hCells s v n) 76 (0, 0)) ∧ HashAt (w1.setCell ⟨g, 8, none⟩ v1) B g v1 s r1 n := by
  have h2 := blk_grown h.2.1 hg h.apart
  exact ⟨h2, h.1, blk_set h2 8 _, Kd.Q_set h1 h2 (by intro q hq; have : q = 5 := by simpa [Kd.int, Kd.scalar] using hq
                                                     subst this; decide) 8 v1⟩
theorem HashAt.cut {W : World} {B g : Nat} {A : Option Addr} {a c : Nat} {s : St} {r : List Int} {n : Int} (h : HashAt W B g (.slice A a c) s r n) (k : Nat) (hk : k ≤ r.length) :
    HashAt (W.setCell ⟨g, 8, none⟩ (.slice (if c = k then A else A.map (·.add k)) (a - k) (c - k))) B g (.slice (if c = k then A else A.map (·.add k)) (a - k) (c - k)) s (r.drop k) n := by
  have h1 := Kd.Q_drop h.2.2 hk
  rw [show k * (Kd.int .u8).sz = k from Nat.mul_one k] at h1
  exact h.setR h1
theorem run_cut {P : Program} (t e : TypeId) (ht : P.underlying t = some (.slice e)) {z : Option Value} {by_ : Nat} (hinfo : (P.info? e).map (fun i => (i.zero, i.size, i.bytes)) = some (z, 1, by_)) (A : Option Addr) (n c m : Nat) (hm : m ≤ n) (W : World) :
    (Instr.slice t (.slice A n c) (some (.int .i64 (m : Int))) none none).run P W = .ok (.slice (if c = m then A else A.map (·.add m)) (n - m) (c - m)) W := by
  obtain ⟨i, hi, hzz⟩ := Option.map_eq_some_iff.1 hinfo
  simp only [Prod.mk.injEq] at hzz
  have hel : P.elem t = e := by simp [Program.elem, ht]
  have hu : P.underlying t = some (.slice (P.elem t)) := by rw [hel]; exact ht
  rw [run_slice_l W t A n c hu .i64 (m : Int) (Int.natCast_nonneg _) (by omega), hel]
  simp [sizeOf, typeInfo, hi, hzz.2.1, sliced, Result.andThen]
theorem HTouch.kept8 {w w1 : World} {g : Nat} {v : Value} (h : Kept w w1 (HTouch g v)) (a b c d e f x y : Value) :
    Kept w ((((((((w1.setCell ⟨g, 0, none⟩ a).setCell ⟨g, 1, none⟩ b).setCell ⟨g, 2, none⟩ c).setCell ⟨g, 3, none⟩ d).setCell ⟨g, 4, none⟩ e).setCell ⟨g, 5, none⟩ f).setCell ⟨g, 6, none⟩ x).setCell ⟨g, 7, none⟩ y) (HTouch g v) :=
  (((((((h.setCell (.inl (.inl rfl)) _).setCell (.inl (.inl rfl)) _).setCell (.inl (.inl rfl)) _).setCell (.inl (.inl rfl)) _).setCell (.inl (.inl rfl)) _).setCell (.inl (.inl rfl)) _).setCell (.inl (.inl rfl)) _).setCell (.inl (.inl rfl)) _
theorem below8 {B : Nat} {w w1 : World} {g : Nat} (hg : B ≤ g) (h : Below B w w1) (a b c d e f x y : Value) :
    Below B w ((((((((w1.setCell ⟨g, 0, none⟩ a).setCell ⟨g, 1, none⟩ b).setCell ⟨g, 2, none⟩ c).setCell ⟨g, 3, none⟩ d).setCell ⟨g, 4, none⟩ e).setCell ⟨g, 5, none⟩ f).setCell ⟨g, 6, none⟩ x).setCell ⟨g, 7, none⟩ y) :=
  (((((((h.setCell hg _).setCell hg _).setCell hg _).setCell hg _).setCell hg _).setCell hg _).setCell hg _).setCell hg _

/-- The same, its state's numbers written out. -/
theorem turn_lit (sa sb sc sd se sf sg sh : W32) (A : Option Addr) (c : Nat) (b : List Int) (w : World) (hb : Kd.C (Kd.int .u8) w A b.length b) (hbl : b.length = 64) (hc : 64 ≤ c) (hby : ∀ x ∈ b, 0 ≤ x ∧ x < 256) (hL : LaidAt w 1 constA) :
    Calls Tryd.prog 43 #[.agg #[.int .u32 (wi sa), .int .u32 (wi sb), .int .u32 (wi sc), .int .u32 (wi sd), .int .u32 (wi se), .int .u32 (wi sf), .int .u32 (wi sg), .int .u32 (wi sh)], .slice A 64 c] w fun e w' => ∃ t : St, t = turnV ⟨sa, sb, sc, sd, se, sf, sg, sh⟩ b ∧ e = .returned (.agg #[.int .u32 (wi t.a), .int .u32 (wi t.b), .int .u32 (wi t.c), .int .u32 (wi t.d), .int .u32 (wi t.e), .int .u32 (wi t.f), .int .u32 (wi t.g), .int .u32 (wi t.h)]) ∧ Below w.heap.size w w' :=
  (turn_calls ⟨sa, sb, sc, sd, se, sf, sg, sh⟩ A c b w hb hbl hc hby hL).mono fun e w' ⟨he, h⟩ => ⟨_, rfl, he, h⟩

def WroteTo (w : World) (B g : Nat) (v : Value) (s : St) (r : List Int) (n : Int) (e : Ending) (w' : World) : Prop :=
  e = .returned (.tuple #[]) ∧ ∃ v', HashAt w' B g v' s r n ∧ (v'.ownBlock = v.ownBlock ∨ ∃ b, v'.ownBlock = some b ∧ w.heap.size ≤ b) ∧ Kept w w' (HTouch g v) ∧ Below B w w'
def HLoop (w : World) (B g : Nat) (v : Value) (s0 : St) (r0 : List Int) (n : Int) (k : Nat) (wr : World) : Prop :=
  ∃ (v1 : Value) (s : St) (r : List Int), HashAt wr B g v1 s r n ∧ absorb s r = absorb s0 r0 ∧ r.length ≤ k ∧ (∀ x ∈ r, 0 ≤ x ∧ x < 256) ∧ (v1.ownBlock = v.ownBlock ∨ ∃ b, v1.ownBlock = some b ∧ w.heap.size ≤ b) ∧ Kept w wr (HTouch g v) ∧ Below B w wr
set_option maxHeartbeats 4000000 in
set_option maxRecDepth 100000 in
theorem write_calls (B g : Nat) (v : Value) (s : St) (r : List Int) (n : Int) (A : Option Addr) (m c : Nat) (l : List Int) (w : World) (hH : HashAt w B g v s r n) (hB : B ≤ w.heap.size) (hl : Kd.C (Kd.int .u8) w A m l)
    (hby : ∀ x ∈ r ++ l, 0 ≤ x ∧ x < 256) (hlen : r.length + m ≤ 140737488355328) (hn0 : 0 ≤ n) (hn : n + m ≤ 9223372036854775807) (hg : 1 < B) (hL : LaidAt w 1 constA) :
    Calls Tryd.prog 38 #[.pointer (some ⟨g, 0, none⟩), .slice A m c] w (WroteTo w B g v (absorb s (r ++ l)).1 (absorb s (r ++ l)).2 (n + m)) := by
  have HH := Aside0.mk hH
  have HB := Aside0.mk hB
  have HC := Aside0.mk hl
  have HBy := Aside0.mk hby
  have HLen := Aside0.mk hlen
  have HL := Aside0.mk hL
  have HG := Aside0.mk hg
  have h9 : w.cell? ⟨g, 9, none⟩ = some (.int .i64 n) := blk_cell hH.2.1 9
  have h8 : w.cell? ⟨g, 8, none⟩ = some v := blk_cell hH.2.1 8
  have f9 : w.frozen? ⟨g, 9, none⟩ = false := blk_frozen hH.2.1 9
  have f8 : w.frozen? ⟨g, 8, none⟩ = false := blk_frozen hH.2.1 8
  obtain ⟨Av, cv, rfl, hcv⟩ := Kd.Q_slice hH.2.2
  clear hH hB hl hby hlen hg hL
  go_enter Tryd.func38, Tryd.ntmps38
  go_wp2
  go_step3
  have HB0 : Aside0 (Below B w (w.setCell ⟨g, 9, none⟩ (.int .i64 (n + m)))) := ⟨(Below.refl _ _).setCell HH.out.1 _⟩
  have HK0 : Aside0 (Kept w (w.setCell ⟨g, 9, none⟩ (.int .i64 (n + m))) (HTouch g (.slice Av r.length cv))) := ⟨(Kept.refl _ _).setCell (.inl (.inl rfl)) _⟩
  have HH0 := Aside0.mk (HH.out.setN (n + m))
  have HC0 := Aside0.mk (C_far HH.out.2.1 (not_u8 s Av r.length cv n) HC.out 9 (.int .i64 (n + m)))
  go_wp2_with (at_builtin; refine append_q (w0 := w) (W := w.setCell ⟨g, 9, none⟩ (.int .i64 (n + m))) B rfl (.tmp 19) (.tmp 20) 22 5 .u8 1 rfl Tryd.underlying22 info_u8 (by decide) (.slice Av r.length cv) r l A m c rfl rfl HH0.out.2.2 HC0.out HB0.out (by rw [World.size_setCell]; exact HB.out) (by have := HLen.out; omega) ?_; intro v1 w1 hq hb1 hg1 hat1; have HQ1 := Aside0.mk hq; have HB1 := Aside0.mk hb1; have HG1 := Aside0.mk hg1; have HA1 := Aside0.mk hat1; clear hq hb1 hg1 hat1; obtain ⟨A1, c1, rfl, hc1⟩ := Kd.Q_slice HQ1.out; have HLd := Aside0.mk (HH0.out.laid HG1.out HQ1.out); have h81 : w1.cell? ⟨g, 8, none⟩ = some (.slice Av r.length cv) := blk_cell HLd.out.1 8; have f81 : w1.frozen? ⟨g, 8, none⟩ = false := blk_frozen HLd.out.1 8)
  have HI : Aside0 (HLoop w B g (.slice Av r.length cv) s (r ++ l) (n + m) (r.length + l.length) (w1.setCell ⟨g, 8, none⟩ (.slice A1 (r.length + l.length) c1))) := ⟨by
    have e : (r ++ l).length = r.length + l.length := List.length_append
    have h2 := HLd.out.2
    have h3 := HA1.out
    rw [e] at h2 h3
    exact ⟨_, s, r ++ l, h2, rfl, Nat.le_of_eq e, HBy.out, h3.imp id (fun ⟨b, hb, hle⟩ => ⟨b, hb, by rw [World.size_setCell] at hle; exact hle⟩),
      ((HK0.out.of_grown HG1.out (fun k hk => .inl (.inr hk.symm))).setCell (.inl (.inl rfl)) _), HB1.out.setCell HH.out.1 _⟩⟩
  generalize w1.setCell ⟨g, 8, none⟩ (.slice A1 (r.length + l.length) c1) = w2 at *
  clear h9 h8 f9 f8 h81 f81 hc1 hcv
  clear HB0 HK0 HH0 HC0 HQ1 HB1 HG1 HA1 HLd HC
  go_step3
  go_wp2
  go_loopg [] (r.length + l.length) (fun k wr => Aside0 (HLoop w B g (.slice Av r.length cv) s (r ++ l) (n + m) k wr))
  case atStart => exact HI
  case round =>
    obtain ⟨v1, ⟨sa, sb, sc, sd, se, sf, sg, sh⟩, rl, hH1, he1, hk1, hby1, ho1, hK1, hB1⟩ := hrel.out
    clear hrel HI
    obtain ⟨A1, c1, rfl, hc1⟩ := Kd.Q_slice hH1.2.2
    have HH1 := Aside0.mk hH1
    have HE1 := Aside0.mk he1
    have HBy1 := Aside0.mk hby1
    have HO1 := Aside0.mk ho1
    have HK1 := Aside0.mk hK1
    have HB1 := Aside0.mk hB1
    have HLk := Aside0.mk hk1
    clear hH1 he1 hby1 ho1 hK1 hB1 hk1
    have hm1 : rl.length ≤ 9223372036854775807 := (Kd.Q_reads' HH1.out.2.2).2.2.2.1
    have h8 : wr.cell? ⟨g, 8, none⟩ = some (.slice A1 rl.length c1) := blk_cell HH1.out.2.1 8
    by_cases hlt : rl.length < 64
    · have HAb : Aside0 (absorb s (r ++ l) = (⟨sa, sb, sc, sd, se, sf, sg, sh⟩, rl)) := ⟨by rw [← HE1.out, absorb_lt hlt]⟩
      go_wp2
      rw [Exit.noGoto_normal]
      go_end0
      rw [HAb.out]
      exact ⟨rfl, _, HH1.out, HO1.out, HK1.out, HB1.out⟩
    · have h64 : 64 ≤ rl.length := by omega
      have hltD : decide ((rl.length : Int) < 64) = false := by simp; omega
      have h64I : (64 : Int) ≤ rl.length := by omega
      have hc64 : 64 ≤ c1 := by omega
      have hc64I : (64 : Int) ≤ c1 := by omega
      obtain ⟨ad, rfl, hx0'⟩ := int_at (Kd.Q_reads' HH1.out.2.2).2.2 0 (by omega)
      have HAb : Aside0 (absorb (turnV ⟨sa, sb, sc, sd, se, sf, sg, sh⟩ (rl.take 64)) (rl.drop 64) = absorb s (r ++ l)) := ⟨by rw [← HE1.out, absorb_ge hlt]⟩
      have HT : Aside0 ((rl.take 64).length = 64) := ⟨by rw [List.length_take]; omega⟩
      have HTb : Aside0 (∀ x ∈ rl.take 64, 0 ≤ x ∧ x < 256) := ⟨fun x hx => HBy1.out x (List.mem_of_mem_take hx)⟩
      have HDb : Aside0 (∀ x ∈ rl.drop 64, 0 ≤ x ∧ x < 256) := ⟨fun x hx => HBy1.out x (List.mem_of_mem_drop hx)⟩
      have HDl : Aside0 ((rl.drop 64).length = rl.length - 64) := ⟨List.length_drop⟩
      clear hx0' hlt
      have h0 : wr.cell? ⟨g, 0, none⟩ = some (.int .u32 (wi sa)) := blk_cell HH1.out.2.1 0
      have h1 : wr.cell? ⟨g, 1, none⟩ = some (.int .u32 (wi sb)) := blk_cell HH1.out.2.1 1
      have h2 : wr.cell? ⟨g, 2, none⟩ = some (.int .u32 (wi sc)) := blk_cell HH1.out.2.1 2
      have h3 : wr.cell? ⟨g, 3, none⟩ = some (.int .u32 (wi sd)) := blk_cell HH1.out.2.1 3
      have h4 : wr.cell? ⟨g, 4, none⟩ = some (.int .u32 (wi se)) := blk_cell HH1.out.2.1 4
      have h5 : wr.cell? ⟨g, 5, none⟩ = some (.int .u32 (wi sf)) := blk_cell HH1.out.2.1 5
      have h6 : wr.cell? ⟨g, 6, none⟩ = some (.int .u32 (wi sg)) := blk_cell HH1.out.2.1 6
      have h7 : wr.cell? ⟨g, 7, none⟩ = some (.int .u32 (wi sh)) := blk_cell HH1.out.2.1 7
      go_wp2
      have HC2 : Aside0 (∀ W : World, Kd.C (Kd.int .u8) wr.drew (some ad) (rl.take 64).length (rl.take 64)) := ⟨fun _ => by
        have h1 := (Kd.Q_reads' HH1.out.2.2).2.2
        have h2 := take_int 64 (by omega) h1
        rw [HT.out]
        exact Kd.C_drewN h2 1⟩
      have HLd : Aside0 (∀ W : World, LaidAt wr.drew 1 constA) := ⟨fun _ => by
        obtain ⟨t0, fr0, h1⟩ := HL.out
        exact ⟨t0, fr0, (HB1.out.block _ HG.out).trans h1⟩⟩
      refine start_ (n := 14) (S := fun w' => w'.cell? ⟨g, 0, none⟩ = some (.int .u32 (wi sa)) ∧ w'.cell? ⟨g, 1, none⟩ = some (.int .u32 (wi sb)) ∧ w'.cell? ⟨g, 2, none⟩ = some (.int .u32 (wi sc)) ∧ w'.cell? ⟨g, 3, none⟩ = some (.int .u32 (wi sd)) ∧ w'.cell? ⟨g, 4, none⟩ = some (.int .u32 (wi se)) ∧ w'.cell? ⟨g, 5, none⟩ = some (.int .u32 (wi sf)) ∧ w'.cell? ⟨g, 6, none⟩ = some (.int .u32 (wi sg)) ∧ w'.cell? ⟨g, 7, none⟩ = some (.int .u32 (wi sh)) ∧ w'.cell? ⟨g, 8, none⟩ = some (.slice (some ad) rl.length c1)) (ds := [13]) #[false, false, false, false, false, false, false, false, false, false, false, false, false, false] (by kernel_rfl) rfl rfl ⟨h0, h1, h2, h3, h4, h5, h6, h7, h8⟩ (fun hHeld => ?_)
      refine pure_ (i := 0) (N := some 30) (v := ?_) (a' := ?_) #[true, false, false, false, false, false, false, false, false, false, false, false, false, false] rfl rfl (by kernel_rfl) (fun _ _ _ h => h) (Or.inl ⟨by rfl, ?_⟩) ?_ ?_
      rotate_left
      · intro w'
        go_simp
        with_reducible rfl
      rotate_left
      · simp only [Act.put, List.setIfInBounds_toArray, List.set_cons_zero, List.set_cons_succ]
        rfl
      refine pure_ (i := 1) (N := some 31) (v := ?_) (a' := ?_) #[true, true, false, false, false, false, false, false, false, false, false, false, false, false] rfl rfl (by kernel_rfl) (fun _ _ _ h => h) (Or.inl ⟨by rfl, ?_⟩) ?_ ?_
      rotate_left
      · intro w'
        go_simp
        with_reducible rfl
      rotate_left
      · simp only [Act.put, List.setIfInBounds_toArray, List.set_cons_zero, List.set_cons_succ]
        rfl
      refine pure_ (i := 2) (N := some 32) (v := ?_) (a' := ?_) #[true, true, true, false, false, false, false, false, false, false, false, false, false, false] rfl rfl (by kernel_rfl) (fun _ _ _ h => h) (Or.inl ⟨by rfl, ?_⟩) ?_ ?_
      rotate_left
      · intro w'
        go_simp
        with_reducible rfl
      rotate_left
      · simp only [Act.put, List.setIfInBounds_toArray, List.set_cons_zero, List.set_cons_succ]
        rfl
      refine pure_ (i := 3) (N := some 33) (v := ?_) (a' := ?_) #[true, true, true, true, false, false, false, false, false, false, false, false, false, false] rfl rfl (by kernel_rfl) (fun _ _ _ h => h) (Or.inl ⟨by rfl, ?_⟩) ?_ ?_
      rotate_left
      · intro w'
        go_simp
        with_reducible rfl
      rotate_left
      · simp only [Act.put, List.setIfInBounds_toArray, List.set_cons_zero, List.set_cons_succ]
        rfl
      refine pure_ (i := 5) (N := some 35) (v := ?_) (a' := ?_) #[true, true, true, true, false, true, false, false, false, false, false, false, false, false] rfl rfl (by kernel_rfl) (fun _ _ _ h => h) (Or.inl ⟨by rfl, ?_⟩) ?_ ?_
      rotate_left
      · intro w'
        go_simp
        with_reducible rfl
      rotate_left
      · simp only [Act.put, List.setIfInBounds_toArray, List.set_cons_zero, List.set_cons_succ]
        rfl
      refine pure_ (i := 6) (N := some 36) (v := ?_) (a' := ?_) #[true, true, true, true, false, true, true, false, false, false, false, false, false, false] rfl rfl (by kernel_rfl) (fun _ _ _ h => h) (Or.inl ⟨by rfl, ?_⟩) ?_ ?_
      rotate_left
      · intro w'
        go_simp
        with_reducible rfl
      rotate_left
      · simp only [Act.put, List.setIfInBounds_toArray, List.set_cons_zero, List.set_cons_succ]
        rfl
      refine pure_ (i := 7) (N := some 37) (v := ?_) (a' := ?_) #[true, true, true, true, false, true, true, true, false, false, false, false, false, false] rfl rfl (by kernel_rfl) (fun _ _ _ h => h) (Or.inl ⟨by rfl, ?_⟩) ?_ ?_
      rotate_left
      · intro w'
        go_simp
        with_reducible rfl
      rotate_left
      · simp only [Act.put, List.setIfInBounds_toArray, List.set_cons_zero, List.set_cons_succ]
        rfl
      refine take_ (i := 4) (N := some 34) (v := ?_) (a' := ?_) #[true, true, true, true, true, true, true, true, false, false, false, false, false, false] rfl rfl (by kernel_rfl) (fun _ _ _ h => h) (Or.inl ⟨by rfl, ?_⟩) hHeld ?_ ?_
      rotate_left
      · rintro w' ⟨s0, s1, s2, s3, s4, s5, s6, s7, s8⟩
        go_simp
        with_reducible rfl
      rotate_left
      · simp only [Act.put, List.setIfInBounds_toArray, List.set_cons_zero, List.set_cons_succ]
        rfl
      refine take_ (i := 8) (N := some 38) (v := ?_) (a' := ?_) #[true, true, true, true, true, true, true, true, true, false, false, false, false, false] rfl rfl (by kernel_rfl) (fun _ _ _ h => h) (Or.inl ⟨by rfl, ?_⟩) hHeld ?_ ?_
      rotate_left
      · rintro w' ⟨s0, s1, s2, s3, s4, s5, s6, s7, s8⟩
        go_simp
        with_reducible rfl
      rotate_left
      · simp only [Act.put, List.setIfInBounds_toArray, List.set_cons_zero, List.set_cons_succ]
        rfl
      refine pure_ (i := 9) (N := some 39) (v := ?_) (a' := ?_) #[true, true, true, true, true, true, true, true, true, true, false, false, false, false] rfl rfl (by kernel_rfl) (fun _ _ _ h => h) (Or.inl ⟨by rfl, ?_⟩) ?_ ?_
      rotate_left
      · intro w'
        go_simp
        with_reducible rfl
      rotate_left
      · simp only [Act.put, List.setIfInBounds_toArray, List.set_cons_zero, List.set_cons_succ]
        rfl
      refine one_ (i := 10) (N := some 40) #[true, true, true, true, true, true, true, true, true, true, true, false, false, false] rfl rfl (by kernel_rfl) (by decide) (fun K hK => ?_)
      refine goes_ Tryd.func43 (by kernel_rfl) rfl #[.agg #[.int .u32 (wi sa), .int .u32 (wi sb), .int .u32 (wi sc), .int .u32 (wi sd), .int .u32 (wi se), .int .u32 (wi sf), .int .u32 (wi sg), .int .u32 (wi sh)], .slice (some ad) 64 64] (by rfl) rfl rfl (by simp only [List.map_toArray, List.map_cons, List.map_nil]; rfl) ?_
      with_reducible refine (turn_lit sa sb sc sd se sf sg sh (some ad) 64 (rl.take 64) _ (HC2.out wr) HT.out (by decide) HTb.out (HLd.out wr)).mono ?_
      rintro e w3 ⟨t, ht, rfl, hb⟩
      refine ⟨_, rfl, ?_⟩
      have HH3 : Aside0 (HashAt w3 B g (.slice (some ad) rl.length c1) ⟨sa, sb, sc, sd, se, sf, sg, sh⟩ rl (n + m)) := ⟨(HH1.out.below (pw_below_drewN (Below.refl _ _) 1)).below hb⟩
      have HB3 := Aside0.mk hb
      have HTt := Aside0.mk ht
      clear hb ht
      have f0 : w3.frozen? ⟨g, 0, none⟩ = false := blk_frozen HH3.out.2.1 0
      have f1 : w3.frozen? ⟨g, 1, none⟩ = false := blk_frozen HH3.out.2.1 1
      have f2 : w3.frozen? ⟨g, 2, none⟩ = false := blk_frozen HH3.out.2.1 2
      have f3 : w3.frozen? ⟨g, 3, none⟩ = false := blk_frozen HH3.out.2.1 3
      have f4 : w3.frozen? ⟨g, 4, none⟩ = false := blk_frozen HH3.out.2.1 4
      have f5 : w3.frozen? ⟨g, 5, none⟩ = false := blk_frozen HH3.out.2.1 5
      have f6 : w3.frozen? ⟨g, 6, none⟩ = false := blk_frozen HH3.out.2.1 6
      have f7 : w3.frozen? ⟨g, 7, none⟩ = false := blk_frozen HH3.out.2.1 7
      have f8 : w3.frozen? ⟨g, 8, none⟩ = false := blk_frozen HH3.out.2.1 8
      have g0 : w3.cell? ⟨g, 0, none⟩ = some (.int .u32 (wi sa)) := blk_cell HH3.out.2.1 0
      have g1 : w3.cell? ⟨g, 1, none⟩ = some (.int .u32 (wi sb)) := blk_cell HH3.out.2.1 1
      have g2 : w3.cell? ⟨g, 2, none⟩ = some (.int .u32 (wi sc)) := blk_cell HH3.out.2.1 2
      have g3 : w3.cell? ⟨g, 3, none⟩ = some (.int .u32 (wi sd)) := blk_cell HH3.out.2.1 3
      have g4 : w3.cell? ⟨g, 4, none⟩ = some (.int .u32 (wi se)) := blk_cell HH3.out.2.1 4
      have g5 : w3.cell? ⟨g, 5, none⟩ = some (.int .u32 (wi sf)) := blk_cell HH3.out.2.1 5
      have g6 : w3.cell? ⟨g, 6, none⟩ = some (.int .u32 (wi sg)) := blk_cell HH3.out.2.1 6
      have g7 : w3.cell? ⟨g, 7, none⟩ = some (.int .u32 (wi sh)) := blk_cell HH3.out.2.1 7
      have g8 : w3.cell? ⟨g, 8, none⟩ = some (.slice (some ad) rl.length c1) := blk_cell HH3.out.2.1 8
      refine hK.out _ _ ⟨g0, g1, g2, g3, g4, g5, g6, g7, g8⟩ (fun hHeld => ?_)
      clear hK K
      refine norm_ (a' := ?_) ?_ ?_
      rotate_left
      · show Act.put _ (some 40) _ = _
        simp only [Act.put, List.setIfInBounds_toArray, List.set_cons_zero, List.set_cons_succ]
        rfl
      refine pure_ (i := 11) (N := some 41) (v := ?_) (a' := ?_) #[true, true, true, true, true, true, true, true, true, true, true, true, false, false] rfl rfl (by kernel_rfl) (fun _ _ _ h => h) (Or.inl ⟨by rfl, ?_⟩) ?_ ?_
      rotate_left
      · intro w'
        go_simp
        with_reducible rfl
      rotate_left
      · simp only [Act.put, List.setIfInBounds_toArray, List.set_cons_zero, List.set_cons_succ]
        rfl
      refine pure_ (i := 12) (N := some 42) (v := ?_) (a' := ?_) #[true, true, true, true, true, true, true, true, true, true, true, true, true, false] rfl rfl (by kernel_rfl) (fun _ _ _ h => h) (Or.inl ⟨by rfl, ?_⟩) ?_ ?_
      rotate_left
      · intro w'
        go_simp
        with_reducible rfl
      rotate_left
      · simp only [Act.put, List.setIfInBounds_toArray, List.set_cons_zero, List.set_cons_succ]
        rfl
      refine last_ (i := 13) (N := none) #[true, true, true, true, true, true, true, true, true, true, true, true, true, true] rfl rfl (by kernel_rfl) (by decide) (fun K hK => ?_)
      refine skip_ (w1 := ?_) (by rfl) rfl ?_ ?_
      rotate_left
      · go_simp
        rfl
      refine hK.out _ _ ?_
      clear hK K
      refine done_ (by kernel_rfl) ?_
      have HH4 := Aside0.mk (HH3.out.setS t)
      have HK4 := Aside0.mk (HTouch.kept8 ((HK1.out.drewN 1).below HB3.out) (.int .u32 (wi t.a)) (.int .u32 (wi t.b)) (.int .u32 (wi t.c)) (.int .u32 (wi t.d)) (.int .u32 (wi t.e)) (.int .u32 (wi t.f)) (.int .u32 (wi t.g)) (.int .u32 (wi t.h)))
      have HB4 := Aside0.mk (below8 HH3.out.1 (below_then (pw_below_drewN HB1.out 1) (Nat.le_trans HB.out HK1.out.1) HB3.out) (.int .u32 (wi t.a)) (.int .u32 (wi t.b)) (.int .u32 (wi t.c)) (.int .u32 (wi t.d)) (.int .u32 (wi t.e)) (.int .u32 (wi t.f)) (.int .u32 (wi t.g)) (.int .u32 (wi t.h)))
      clear h0 h1 h2 h3 h4 h5 h6 h7 h8 g0 g1 g2 g3 g4 g5 g6 g7 g8 f0 f1 f2 f3 f4 f5 f6 f7 f8 hHeld
      generalize ((((((((w3.setCell ⟨g, 0, none⟩ (.int .u32 (wi t.a))).setCell ⟨g, 1, none⟩ (.int .u32 (wi t.b))).setCell ⟨g, 2, none⟩ (.int .u32 (wi t.c))).setCell ⟨g, 3, none⟩ (.int .u32 (wi t.d))).setCell ⟨g, 4, none⟩ (.int .u32 (wi t.e))).setCell ⟨g, 5, none⟩ (.int .u32 (wi t.f))).setCell ⟨g, 6, none⟩ (.int .u32 (wi t.g))).setCell ⟨g, 7, none⟩ (.int .u32 (wi t.h))) = w4 at *
      have h8 : w4.cell? ⟨g, 8, none⟩ = some (.slice (some ad) rl.length c1) := blk_cell HH4.out.2.1 8
      have f8 : w4.frozen? ⟨g, 8, none⟩ = false := blk_frozen HH4.out.2.1 8
      have hcut : ∀ W : World, (Instr.slice 22 (.slice (some ad) rl.length c1) (some (.int .i64 64)) none none).run Tryd.prog W = .ok (.slice (if c1 = 64 then (some ad) else (some ad).map (·.add 64)) (rl.length - 64) (c1 - 64)) W := fun W => run_cut 22 5 Tryd.underlying22 info_u8 (some ad) rl.length c1 64 h64 W
      have HH5 := Aside0.mk (HH4.out.cut 64 h64)
      obtain ⟨A5, hA5⟩ : ∃ A5, A5 = (if c1 = 64 then (some ad) else (some ad).map (·.add 64)) := ⟨_, rfl⟩
      rw [← hA5] at hcut HH5
      have hO5 : Aside0 ((Value.slice A5 (rl.length - 64) (c1 - 64)).ownBlock = (Value.slice (some ad) rl.length c1).ownBlock) := ⟨by
        rw [hA5]
        split
        · simp [Value.ownBlock]
        · simp [Value.ownBlock, Addr.add]⟩
      clear hA5
      go_wp2
      go_roundg (rl.length - 64)
      case measure => have := HLk.out; omega
      case rel => exact ⟨⟨_, t, rl.drop 64, HH5.out, by rw [HTt.out]; exact HAb.out, by rw [HDl.out]; exact Nat.le_refl _, HDb.out, by rw [hO5.out]; exact HO1.out, HK4.out.setCell (.inl (.inl rfl)) _, HB4.out.setCell HH4.out.1 _⟩⟩
end Go.Proofs.YtpndobhakmjglaaDoor.Sha
namespace Go.Proofs.YtpndobhakmjglaaDoor.Clone
open Go.RowKit Go.Proofs.YtpndobhakmjglaaDoorW.PrintWords Go.Proofs.YtpndobhakmjglaaDoorW.PrintLast Go.Proofs.YtpndobhakmjglaaDoorW.PrintMore Go.Proofs.YtpndobhakmjglaaDoor.K
theorem info_u8 : (Tryd.prog.info? 5).map (fun i => (i.zero, i.size, i.bytes)) = some (some (.int .u8 0), 1, 1) := by kernel_rfl
set_option maxHeartbeats 400000 in
theorem clone_calls (A : Option Addr) (n c : Nat) (l : List Int) (w : World) (hr0 : Kd.C (Kd.int .u8) w A n l) (hb : n ≤ 140737488355328) :
    Calls Tryd.prog 27 #[.slice A n c] w fun e w' => ∃ v0_ : Value, e = .returned (v0_) ∧ Kd.R (Kd.int .u8) 5 w' w.heap.size (fun _ => True) v0_ l ∧ Below w.heap.size w w' := by
  have HR0 := Aside0.mk (reads_int hr0)
  have HN := Aside0.mk (C_len hr0)
  have HL := Aside0.mk hb
  clear hr0 hb
  cases A with
  | none =>
    have h0 : l = [] := by
      have h1 := HR0.out
      have h2 := HN.out
      rcases Nat.eq_zero_or_pos n with h | h
      · exact List.eq_nil_of_length_eq_zero (by omega)
      · obtain ⟨_, h3, _⟩ := h1.2.2 h
        cases h3
    subst h0
    have hnil := fun (w : World) => Lib.run_eql_slice_nil (P := Tryd.prog) w 22 5 none n c 0 0 Tryd.underlying22
    go_enter Tryd.func27, Tryd.ntmps27
    go_wp2
    go_ret
    exact ⟨_, rfl, R_int (own_nil _ _ _ _), Below.refl _ _⟩
  | some a =>
    have hnil := fun (w : World) => Lib.run_eql_slice_nil (P := Tryd.prog) w 22 5 (some a) n c 0 0 Tryd.underlying22
    go_enter Tryd.func27, Tryd.ntmps27
    go_wp2_with (at_builtin; refine print_append_row (w0 := w) w.heap.size rfl (.tmp 5) (.tmp 6) 22 5 .u8 1 rfl Tryd.underlying22 info_u8 (by decide) (.slice (some ⟨w.heap.size, 0, none⟩) 0 0) [] l (some a) n c rfl rfl (own_lit w w.heap.size 5 .u8 [] (Nat.le_refl _) (by decide)) ((HR0.out).below (bel_alloc (Below.refl _ _) _)) (bel_alloc (Below.refl _ _) _) (bel_size (Below.refl _ _) _) (by have := HL.out; simp; omega) ?_; intro v1 w1 ho hb hg hat; have HO1 := Aside0.mk ho; have HB1 := Aside0.mk hb; clear ho hb hg hat)
    go_ret
    exact ⟨_, rfl, R_int (by simpa using HO1.out), HB1.out⟩
end Go.Proofs.YtpndobhakmjglaaDoor.Clone
namespace Go.Proofs.YtpndobhakmjglaaDoor.Sha
open Go.RowKit Go.Proofs.YtpndobhakmjglaaDoorW.PrintWords Go.Proofs.YtpndobhakmjglaaDoorW.PrintLast Go.Proofs.YtpndobhakmjglaaDoorW.PrintMore Go.Proofs.YtpndobhakmjglaaDoor.K
set_option linter.unusedVariables false
def firstA : Array Value := sArr init.l
theorem firstA_lit : firstA = #[.int .u32 (wi init.a), .int .u32 (wi init.b), .int .u32 (wi init.c), .int .u32 (wi init.d), .int .u32 (wi init.e), .int .u32 (wi init.f), .int .u32 (wi init.g), .int .u32 (wi init.h)] := rfl
set_option maxHeartbeats 1000000 in
theorem new_calls (w : World) (hL : LaidAt w 0 firstA) :
    Calls Tryd.prog 37 #[] w fun e w' => e = .returned (.pointer (some ⟨w.heap.size, 0, none⟩)) ∧ w' = w.alloc (.cells (hCells init (.slice none 0 0) 0) 76) := by
  obtain ⟨lt, lfr, hblk⟩ := hL
  rw [firstA_lit] at hblk
  have HBk := Aside0.mk hblk
  unfold hCells
  clear hblk
  generalize wi init.a = a at *
  generalize wi init.b = b at *
  generalize wi init.c = c at *
  generalize wi init.d = d at *
  generalize wi init.e = e at *
  generalize wi init.f = f at *
  generalize wi init.g = g at *
  generalize wi init.h = h at *
  go_enter Tryd.func37, Tryd.ntmps37
  go_wp2_with (with_reducible refine wpList_load_row rfl 74 (.global 0) rfl 0 rfl lt _ lfr _ HBk.out Tryd.underlying74 rfl (by kernel_rfl) ?_)
  go_ret
  exact ⟨rfl, rfl⟩
theorem HashAt.new (w : World) (B : Nat) (hB : B ≤ w.heap.size) : HashAt (w.alloc (.cells (hCells init (.slice none 0 0) 0) 76)) B w.heap.size (.slice none 0 0) init [] 0 :=
  ⟨hB, heap_alloc_new _ _, Kd.Q_nil _ _ _ _ _⟩
set_option maxHeartbeats 1000000 in
theorem write_nil_calls (A : Option Addr) (m c : Nat) (w : World) :
    Calls Tryd.prog 38 #[.pointer none, .slice A m c] w fun e w' => e = .returned (.tuple #[]) ∧ w = w' := by
  go_enter Tryd.func38, Tryd.ntmps38
  go_wp2
  go_step3
  go_wp2

  rw [Exit.noGoto_ret]
  refine bodyPost_ret (results_none rfl _ _ _) rfl ?_
  exact ⟨rfl, rfl⟩
end Go.Proofs.YtpndobhakmjglaaDoor.Sha
namespace Go.Proofs.YtpndobhakmjglaaDoor.Sha
open Go.RowKit Go.Proofs.YtpndobhakmjglaaDoorW.PrintWords Go.Proofs.YtpndobhakmjglaaDoorW.PrintLast Go.Proofs.YtpndobhakmjglaaDoorW.PrintMore Go.Proofs.YtpndobhakmjglaaDoor.K
set_option linter.unusedVariables false
theorem be8_byte (q : Int) : ∀ x ∈ be8 q, 0 ≤ x ∧ x < 256 := by
  intro x hx
  simp only [be8, List.mem_cons, List.not_mem_nil, or_false] at hx
  rcases hx with rfl | rfl | rfl | rfl | rfl | rfl | rfl | rfl <;> omega
def dA (d : List Int) : Array Value := (nums .u8 d).toArray
theorem dA_size (d : List Int) : (dA d).size = d.length := by simp [dA, nums]
theorem dA_one (d : List Int) : (dA d).all (·.oneCell') = true := by
  rw [Array.all_eq_true_iff_forall_mem]
  intro v hv
  simp only [dA, nums, List.mem_toArray, List.mem_map] at hv
  obtain ⟨x, _, rfl⟩ := hv
  rfl
theorem dA_get (d : List Int) (i : Nat) (h : i < d.length) : (dA d)[i]? = some (.int .u8 (d.getD i 0)) := by
  simp [dA, nums, List.getElem?_eq_getElem h, List.getD_eq_getElem?_getD]
theorem dA_set (d : List Int) (i : Nat) (x : Int) : (dA d).setIfInBounds i (.int .u8 x) = dA (d.set i x) := by
  apply Array.ext'
  simp [dA, nums, List.map_set]
/-- The digest's byte j. -/
def db (s : St) (j : Nat) : Int := (be4 (s.l.getD (j / 4) 0).toNat).getD (j % 4) 0
def digP (s : St) (i : Nat) : List Int := (List.range 32).map fun j => if j < 4 * i then db s j else 0
theorem digP_end (s : St) : digP s 8 = digL s := rfl
theorem digP_length (s : St) (i : Nat) : (digP s i).length = 32 := by simp [digP]
theorem db_at (s : St) (i k : Nat) (hk : k < 4) : db s (4 * i + k) = (be4 (s.l.getD i 0).toNat).getD k 0 := by
  unfold db
  rw [show (4 * i + k) / 4 = i by omega, show (4 * i + k) % 4 = k by omega]
theorem digP_step (s : St) (i : Nat) (hi : i < 8) :
    ((((digP s i).set (4 * i) (wi (s.l.getD i 0) / 16777216 % 256)).set (4 * i + 1) (wi (s.l.getD i 0) / 65536 % 256)).set (4 * i + 2) (wi (s.l.getD i 0) / 256 % 256)).set (4 * i + 3) (wi (s.l.getD i 0) % 256) = digP s (i + 1) := by
  have e0 : db s (4 * i) = wi (s.l.getD i 0) / 16777216 % 256 := db_at s i 0 (by decide)
  have e1 : db s (4 * i + 1) = wi (s.l.getD i 0) / 65536 % 256 := db_at s i 1 (by decide)
  have e2 : db s (4 * i + 2) = wi (s.l.getD i 0) / 256 % 256 := db_at s i 2 (by decide)
  have e3 : db s (4 * i + 3) = wi (s.l.getD i 0) % 256 := db_at s i 3 (by decide)
  rw [← e0, ← e1, ← e2, ← e3]
  refine List.ext_getElem (by simp [digP]) fun j h1 h2 => ?_
  simp only [digP, List.getElem_set, List.getElem_map, List.getElem_range]
  by_cases h3 : 4 * i + 3 = j
  · subst h3
    rw [if_pos rfl, if_pos (by omega)]
  · rw [if_neg h3]
    by_cases h4 : 4 * i + 2 = j
    · subst h4
      rw [if_pos rfl, if_pos (by omega)]
    · rw [if_neg h4]
      by_cases h5 : 4 * i + 1 = j
      · subst h5
        rw [if_pos rfl, if_pos (by omega)]
      · rw [if_neg h5]
        by_cases h6 : 4 * i = j
        · subst h6
          rw [if_pos rfl, if_pos (by omega)]
        · rw [if_neg h6]
          by_cases h7 : j < 4 * i
          · rw [if_pos h7, if_pos (by omega)]
          · rw [if_neg h7, if_neg (by omega)]
/-- The digest's block (go), being filled; the result's block. -/
def OutL (w : World) (z : Array Value) (go : Nat) (d : List Int) (wr : World) : Prop :=
  wr.heap[go]? = some (.cells (dA d) 63 (0, 0)) ∧ wr.heap[w.heap.size]? = some (.cells z 63 (0, 0)) ∧ Below w.heap.size w wr ∧ w.heap.size < go
theorem OutL.set {w : World} {z : Array Value} {go : Nat} {d : List Int} {wr : World} (h : OutL w z go d wr) (j : Nat) (x : Int) : OutL w z go (d.set j x) (wr.setCell ⟨go, j, none⟩ (.int .u8 x)) :=
  ⟨by rw [← dA_set]; exact blk_set h.1 j _, blk_far h.2.1 (by have := h.2.2.2; show w.heap.size ≠ go; omega) _, h.2.2.1.setCell (Nat.le_of_lt h.2.2.2) _, h.2.2.2⟩
def OutW (w : World) (z : Array Value) (go : Nat) (s : St) (i : Nat) (wr : World) : Prop := OutL w z go (digP s i) wr
theorem OutW.cell {w : World} {z : Array Value} {go : Nat} {s : St} {i : Nat} {wr : World} (h : OutW w z go s i wr) (j : Nat) (hj : j < 32) : wr.cell? ⟨go, j, none⟩ = some (.int .u8 ((digP s i).getD j 0)) :=
  (blk_cell h.1 j).trans (dA_get _ _ (by rw [digP_length]; exact hj))
theorem OutW.set {w : World} {z : Array Value} {go : Nat} {s : St} {i : Nat} {wr : World} (h : OutW w z go s i wr) (j : Nat) (x : Int) : OutL w z go ((digP s i).set j x) (wr.setCell ⟨go, j, none⟩ (.int .u8 x)) := OutL.set h j x
set_option maxHeartbeats 4000000 in
set_option maxRecDepth 100000 in
theorem hsum_calls (B g : Nat) (v : Value) (s : St) (r : List Int) (n : Nat) (w : World) (hH : HashAt w B g v s r n) (hB : B ≤ w.heap.size) (hby : ∀ x ∈ r, 0 ≤ x ∧ x < 256) (hr : r.length < 64) (hrn : r.length = n % 64) (hn : n ≤ 1125899906842624)
    (hg : 1 < B) (hL : LaidAt w 1 constA) :
    Calls Tryd.prog 39 #[.pointer (some ⟨g, 0, none⟩)] w fun e w' => e = .returned (.agg (dA (sumOf s r n))) ∧ Below w.heap.size w w' := by
  have HH0 := Aside0.mk hH
  have HB := Aside0.mk hB
  have HBy := Aside0.mk hby
  have HR64 := Aside0.mk hr
  have HRn := Aside0.mk hrn
  have HN := Aside0.mk hn
  have HG := Aside0.mk hg
  have HL := Aside0.mk hL
  obtain ⟨Av, cv, rfl, hcv⟩ := Kd.Q_slice hH.2.2
  obtain ⟨sa, sb, sc, sd, se, sf, sg, sh⟩ := s
  clear hH hB hby hrn hg hL hcv
  go_enter Tryd.func39, Tryd.ntmps39
  go_wp2
  obtain ⟨z32, hz⟩ : ∃ z : Array Value, z = (nums .u8 (List.replicate 32 0)).toArray := ⟨_, rfl⟩
  have HW1 : Aside0 (∃ w1, w1 = w.alloc (.cells z32 63)) := ⟨_, rfl⟩
  obtain ⟨w1, hw1⟩ := HW1.out
  clear HW1
  rw [show (w.alloc (.cells #[.int .u8 0, .int .u8 0, .int .u8 0, .int .u8 0, .int .u8 0, .int .u8 0, .int .u8 0, .int .u8 0, .int .u8 0, .int .u8 0, .int .u8 0, .int .u8 0, .int .u8 0, .int .u8 0, .int .u8 0, .int .u8 0, .int .u8 0, .int .u8 0, .int .u8 0, .int .u8 0, .int .u8 0, .int .u8 0, .int .u8 0, .int .u8 0, .int .u8 0, .int .u8 0, .int .u8 0, .int .u8 0, .int .u8 0, .int .u8 0, .int .u8 0, .int .u8 0] 63)) = w1 by rw [hw1, hz]; rfl]
  have HH : Aside0 (HashAt w1 B g (.slice Av r.length cv) ⟨sa, sb, sc, sd, se, sf, sg, sh⟩ r n) := ⟨by rw [hw1]; exact HH0.out.below (bel_alloc (Below.refl _ _) _)⟩
  have HB1 : Aside0 (Below w.heap.size w w1) := ⟨by rw [hw1]; exact bel_alloc (Below.refl _ _) _⟩
  have HR1 : Aside0 (w1.heap[w.heap.size]? = some (.cells z32 63 (0, 0))) := ⟨by rw [hw1]; exact heap_alloc_new _ _⟩
  have HS1 : Aside0 (w1.heap.size = w.heap.size + 1) := ⟨by rw [hw1, World.size_alloc]⟩
  have HZ := Aside0.mk hz
  clear hw1 hz HH0
  have HC : Aside0 (Kd.C (Kd.int .u8) w1.drew Av r.length r) := ⟨Kd.C_drewN (Kd.Q_reads' HH.out.2.2).2.2 1⟩
  have h0 : w1.cell? ⟨g, 0, none⟩ = some (.int .u32 (wi sa)) := blk_cell HH.out.2.1 0
  have h1 : w1.cell? ⟨g, 1, none⟩ = some (.int .u32 (wi sb)) := blk_cell HH.out.2.1 1
  have h2 : w1.cell? ⟨g, 2, none⟩ = some (.int .u32 (wi sc)) := blk_cell HH.out.2.1 2
  have h3 : w1.cell? ⟨g, 3, none⟩ = some (.int .u32 (wi sd)) := blk_cell HH.out.2.1 3
  have h4 : w1.cell? ⟨g, 4, none⟩ = some (.int .u32 (wi se)) := blk_cell HH.out.2.1 4
  have h5 : w1.cell? ⟨g, 5, none⟩ = some (.int .u32 (wi sf)) := blk_cell HH.out.2.1 5
  have h6 : w1.cell? ⟨g, 6, none⟩ = some (.int .u32 (wi sg)) := blk_cell HH.out.2.1 6
  have h7 : w1.cell? ⟨g, 7, none⟩ = some (.int .u32 (wi sh)) := blk_cell HH.out.2.1 7
  have h8 : w1.cell? ⟨g, 8, none⟩ = some (.slice Av r.length cv) := blk_cell HH.out.2.1 8
  go_wp2
  refine start_ (n := 12) (S := fun w' => w'.cell? ⟨g, 0, none⟩ = some (.int .u32 (wi sa)) ∧ w'.cell? ⟨g, 1, none⟩ = some (.int .u32 (wi sb)) ∧ w'.cell? ⟨g, 2, none⟩ = some (.int .u32 (wi sc)) ∧ w'.cell? ⟨g, 3, none⟩ = some (.int .u32 (wi sd)) ∧ w'.cell? ⟨g, 4, none⟩ = some (.int .u32 (wi se)) ∧ w'.cell? ⟨g, 5, none⟩ = some (.int .u32 (wi sf)) ∧ w'.cell? ⟨g, 6, none⟩ = some (.int .u32 (wi sg)) ∧ w'.cell? ⟨g, 7, none⟩ = some (.int .u32 (wi sh)) ∧ w'.cell? ⟨g, 8, none⟩ = some (.slice Av r.length cv)) (ds := []) #[false, false, false, false, false, false, false, false, false, false, false, false] (by kernel_rfl) rfl rfl ⟨h0, h1, h2, h3, h4, h5, h6, h7, h8⟩ (fun hHeld => ?_)
  refine pure_ (i := 0) (N := some 15) (v := ?_) (a' := ?_) #[true, false, false, false, false, false, false, false, false, false, false, false] rfl rfl (by kernel_rfl) (fun _ _ _ h => h) (Or.inl ⟨by rfl, ?_⟩) ?_ ?_
  rotate_left
  · intro w'
    go_simp
    with_reducible rfl
  rotate_left
  · simp only [Act.put, List.setIfInBounds_toArray, List.set_cons_zero, List.set_cons_succ]
    rfl
  refine pure_ (i := 1) (N := some 16) (v := ?_) (a' := ?_) #[true, true, false, false, false, false, false, false, false, false, false, false] rfl rfl (by kernel_rfl) (fun _ _ _ h => h) (Or.inl ⟨by rfl, ?_⟩) ?_ ?_
  rotate_left
  · intro w'
    go_simp
    with_reducible rfl
  rotate_left
  · simp only [Act.put, List.setIfInBounds_toArray, List.set_cons_zero, List.set_cons_succ]
    rfl
  refine pure_ (i := 2) (N := some 17) (v := ?_) (a' := ?_) #[true, true, true, false, false, false, false, false, false, false, false, false] rfl rfl (by kernel_rfl) (fun _ _ _ h => h) (Or.inl ⟨by rfl, ?_⟩) ?_ ?_
  rotate_left
  · intro w'
    go_simp
    with_reducible rfl
  rotate_left
  · simp only [Act.put, List.setIfInBounds_toArray, List.set_cons_zero, List.set_cons_succ]
    rfl
  refine pure_ (i := 4) (N := some 19) (v := ?_) (a' := ?_) #[true, true, true, false, true, false, false, false, false, false, false, false] rfl rfl (by kernel_rfl) (fun _ _ _ h => h) (Or.inl ⟨by rfl, ?_⟩) ?_ ?_
  rotate_left
  · intro w'
    go_simp
    with_reducible rfl
  rotate_left
  · simp only [Act.put, List.setIfInBounds_toArray, List.set_cons_zero, List.set_cons_succ]
    rfl
  refine pure_ (i := 5) (N := some 20) (v := ?_) (a' := ?_) #[true, true, true, false, true, true, false, false, false, false, false, false] rfl rfl (by kernel_rfl) (fun _ _ _ h => h) (Or.inl ⟨by rfl, ?_⟩) ?_ ?_
  rotate_left
  · intro w'
    go_simp
    with_reducible rfl
  rotate_left
  · simp only [Act.put, List.setIfInBounds_toArray, List.set_cons_zero, List.set_cons_succ]
    rfl
  refine pure_ (i := 6) (N := some 21) (v := ?_) (a' := ?_) #[true, true, true, false, true, true, true, false, false, false, false, false] rfl rfl (by kernel_rfl) (fun _ _ _ h => h) (Or.inl ⟨by rfl, ?_⟩) ?_ ?_
  rotate_left
  · intro w'
    go_simp
    with_reducible rfl
  rotate_left
  · simp only [Act.put, List.setIfInBounds_toArray, List.set_cons_zero, List.set_cons_succ]
    rfl
  refine take_ (i := 3) (N := some 18) (v := ?_) (a' := ?_) #[true, true, true, true, true, true, true, false, false, false, false, false] rfl rfl (by kernel_rfl) (fun _ _ _ h => h) (Or.inl ⟨by rfl, ?_⟩) hHeld ?_ ?_
  rotate_left
  · rintro w' ⟨s0, s1, s2, s3, s4, s5, s6, s7, s8⟩
    go_simp
    with_reducible rfl
  rotate_left
  · simp only [Act.put, List.setIfInBounds_toArray, List.set_cons_zero, List.set_cons_succ]
    rfl
  refine take_ (i := 7) (N := some 22) (v := ?_) (a' := ?_) #[true, true, true, true, true, true, true, true, false, false, false, false] rfl rfl (by kernel_rfl) (fun _ _ _ h => h) (Or.inl ⟨by rfl, ?_⟩) hHeld ?_ ?_
  rotate_left
  · rintro w' ⟨s0, s1, s2, s3, s4, s5, s6, s7, s8⟩
    go_simp
    with_reducible rfl
  rotate_left
  · simp only [Act.put, List.setIfInBounds_toArray, List.set_cons_zero, List.set_cons_succ]
    rfl
  refine one_ (i := 8) (N := some 23) #[true, true, true, true, true, true, true, true, true, false, false, false] rfl rfl (by kernel_rfl) (by decide) (fun K hK => ?_)
  refine goes_ Tryd.func27 (by kernel_rfl) rfl #[.slice Av r.length cv] (by rfl) rfl rfl (by simp only [List.map_toArray, List.map_cons, List.map_nil]; rfl) ?_
  with_reducible refine (Clone.clone_calls Av r.length cv r _ HC.out (by have := HR64.out; omega)).mono ?_
  rintro e w3 ⟨ve, rfl, hR, hb⟩
  refine ⟨_, rfl, ?_⟩
  have HRe := Aside0.mk hR
  have HBe := Aside0.mk hb
  clear hR
  obtain ⟨Ae, ce, rfl⟩ := Kd.R_slice HRe.out
  have g0 : w3.cell? ⟨g, 0, none⟩ = some (.int .u32 (wi sa)) := cell_keep hb h0
  have g1 : w3.cell? ⟨g, 1, none⟩ = some (.int .u32 (wi sb)) := cell_keep hb h1
  have g2 : w3.cell? ⟨g, 2, none⟩ = some (.int .u32 (wi sc)) := cell_keep hb h2
  have g3 : w3.cell? ⟨g, 3, none⟩ = some (.int .u32 (wi sd)) := cell_keep hb h3
  have g4 : w3.cell? ⟨g, 4, none⟩ = some (.int .u32 (wi se)) := cell_keep hb h4
  have g5 : w3.cell? ⟨g, 5, none⟩ = some (.int .u32 (wi sf)) := cell_keep hb h5
  have g6 : w3.cell? ⟨g, 6, none⟩ = some (.int .u32 (wi sg)) := cell_keep hb h6
  have g7 : w3.cell? ⟨g, 7, none⟩ = some (.int .u32 (wi sh)) := cell_keep hb h7
  have g8 : w3.cell? ⟨g, 8, none⟩ = some (.slice Av r.length cv) := cell_keep hb h8
  clear hb
  refine hK.out _ _ ⟨g0, g1, g2, g3, g4, g5, g6, g7, g8⟩ (fun hHeld => ?_)
  clear hK K
  refine norm_ (a' := ?_) ?_ ?_
  rotate_left
  · show Act.put _ (some 23) _ = _
    simp only [Act.put, List.setIfInBounds_toArray, List.set_cons_zero, List.set_cons_succ]
    rfl
  refine pure_ (i := 9) (N := some 24) (v := ?_) (a' := ?_) #[true, true, true, true, true, true, true, true, true, true, false, false] rfl rfl (by kernel_rfl) (fun _ _ _ h => h) (Or.inl ⟨by rfl, ?_⟩) ?_ ?_
  rotate_left
  · intro w'
    go_simp
    with_reducible rfl
  rotate_left
  · simp only [Act.put, List.setIfInBounds_toArray, List.set_cons_zero, List.set_cons_succ]
    rfl
  refine one_ (i := 10) (N := some 25) #[true, true, true, true, true, true, true, true, true, true, true, false] rfl rfl (by kernel_rfl) (by decide) (fun K hK => ?_)
  refine value_ (w1 := ?_) (v := ?_) (by rfl) rfl ?_ ?_
  rotate_left 2
  · go_simp
    constructor
    · rfl
    · rfl
  refine hK.out _ _ ⟨cell_keep (bel_alloc (Below.refl _ _) _) g0, cell_keep (bel_alloc (Below.refl _ _) _) g1, cell_keep (bel_alloc (Below.refl _ _) _) g2, cell_keep (bel_alloc (Below.refl _ _) _) g3, cell_keep (bel_alloc (Below.refl _ _) _) g4, cell_keep (bel_alloc (Below.refl _ _) _) g5, cell_keep (bel_alloc (Below.refl _ _) _) g6, cell_keep (bel_alloc (Below.refl _ _) _) g7, cell_keep (bel_alloc (Below.refl _ _) _) g8⟩ (fun hHeld => ?_)
  clear hK K
  refine norm_ (a' := ?_) ?_ ?_
  rotate_left
  · show Act.put _ (some 25) _ = _
    simp only [Act.put, List.setIfInBounds_toArray, List.set_cons_zero, List.set_cons_succ]
    rfl
  refine pure_ (i := 11) (N := some 3) (v := ?_) (a' := ?_) #[true, true, true, true, true, true, true, true, true, true, true, true] rfl rfl (by kernel_rfl) (fun _ _ _ h => h) (Or.inl ⟨by rfl, ?_⟩) ?_ ?_
  rotate_left
  · intro w'
    go_simp
    with_reducible rfl
  rotate_left
  · simp only [Act.put, List.setIfInBounds_toArray, List.set_cons_zero, List.set_cons_succ]
    rfl
  refine done_ (by kernel_rfl) ?_
  have HE : Aside0 (HashAt (w3.alloc (.cells #[.int .u32 (wi sa), .int .u32 (wi sb), .int .u32 (wi sc), .int .u32 (wi sd), .int .u32 (wi se), .int .u32 (wi sf), .int .u32 (wi sg), .int .u32 (wi sh), .slice Ae r.length ce, .int .i64 0] 76)) w.heap.size w3.heap.size (.slice Ae r.length ce) ⟨sa, sb, sc, sd, se, sf, sg, sh⟩ r 0) :=
    ⟨⟨Nat.le_trans HB1.out.size HBe.out.size, heap_alloc_new _ _, Kd.Q_alloc (Kd.Q_of_R (Kd.R_lower HRe.out HB1.out.size)) _⟩⟩
  have HBW := Aside0.mk (below_step (below_step HB1.out (pw_below_drewN (Below.refl _ _) 1)) (bel_alloc HBe.out (.cells #[.int .u32 (wi sa), .int .u32 (wi sb), .int .u32 (wi sc), .int .u32 (wi sd), .int .u32 (wi se), .int .u32 (wi sf), .int .u32 (wi sg), .int .u32 (wi sh), .slice Ae r.length ce, .int .i64 0] 76)))
  have HR4 := Aside0.mk (((bel_alloc HBe.out (.cells #[.int .u32 (wi sa), .int .u32 (wi sb), .int .u32 (wi sc), .int .u32 (wi sd), .int .u32 (wi se), .int .u32 (wi sf), .int .u32 (wi sg), .int .u32 (wi sh), .slice Ae r.length ce, .int .i64 0] 76)).block w.heap.size (show w.heap.size < w1.drew.heap.size by rw [show w1.drew.heap.size = w1.heap.size from rfl, HS1.out]; omega)).trans HR1.out)
  have h9 : (w3.alloc (.cells #[.int .u32 (wi sa), .int .u32 (wi sb), .int .u32 (wi sc), .int .u32 (wi sd), .int .u32 (wi se), .int .u32 (wi sf), .int .u32 (wi sg), .int .u32 (wi sh), .slice Ae r.length ce, .int .i64 0] 76)).cell? ⟨g, 9, none⟩ = some (.int .i64 (n : Int)) :=
    cell_keep (bel_alloc HBe.out _) (show w1.drew.cell? ⟨g, 9, none⟩ = some (.int .i64 (n : Int)) from blk_cell HH.out.2.1 9)
  have hge : w.heap.size < w3.heap.size := by
    have h1 := HBe.out.size
    have h2 : w1.drew.heap.size = w.heap.size + 1 := HS1.out
    omega
  clear h0 h1 h2 h3 h4 h5 h6 h7 h8 g0 g1 g2 g3 g4 g5 g6 g7 g8 hHeld HC HH HB1 HR1 HS1 HBe HRe
  generalize w3.alloc (.cells #[.int .u32 (wi sa), .int .u32 (wi sb), .int .u32 (wi sc), .int .u32 (wi sd), .int .u32 (wi se), .int .u32 (wi sf), .int .u32 (wi sg), .int .u32 (wi sh), .slice Ae r.length ce, .int .i64 0] 76) = w4 at *
  generalize w3.heap.size = ge at *
  have e8 : w4.cell? ⟨ge, 8, none⟩ = some (.slice Ae r.length ce) := blk_cell HE.out.2.1 8
  have hu1 : IntKind.u64.wrap (n : Int) = (n : Int) := by have := HN.out; rw [IntKind.wrap_u64]; omega
  obtain ⟨q, hq⟩ : ∃ q : Nat, q = 8 * n := ⟨_, rfl⟩
  have hu2 : IntKind.u64.wrap ((n : Int) * 8) = (q : Int) := by have := HN.out; rw [IntKind.wrap_u64]; omega
  have HQ := Aside0.mk hq
  clear hq
  have hrI : (r.length : Int) < 64 := by omega
  have HL4 : Aside0 (LaidAt w4 1 constA) := ⟨by
    obtain ⟨t0, fr0, h1⟩ := HL.out
    exact ⟨t0, fr0, (HBW.out.block _ (Nat.lt_of_lt_of_le HG.out HB.out)).trans h1⟩⟩
  have HT1 : Aside0 ([128] ++ List.replicate ((119 - (r.length : Int)) % 64).toNat 0 = tail1 n) := ⟨by
    have h1 := HRn.out
    rw [show ((119 - (r.length : Int)) % 64).toNat = (119 - n % 64) % 64 by omega]
    rfl⟩
  have HTb : Aside0 (∀ x ∈ r ++ tail1 n, 0 ≤ x ∧ x < 256) := ⟨fun x hx => by
    rcases List.mem_append.1 hx with h1 | h1
    · exact HBy.out x h1
    · unfold tail1 at h1
      rcases List.mem_cons.1 h1 with rfl | h2
      · decide
      · rw [(List.mem_replicate.1 h2).2]
        decide⟩
  have HTl : Aside0 ((tail1 n).length ≤ 64) := ⟨by
    unfold tail1
    simp only [List.length_cons, List.length_replicate]
    omega⟩
  obtain ⟨zn, hzn⟩ : ∃ zn : Int, zn = (119 - (r.length : Int)) % 64 := ⟨_, rfl⟩
  have hzn0 : 0 ≤ zn := by omega
  rw [← hzn] at HT1
  have HZn := Aside0.mk hzn
  clear hzn hr
  go_wp2_with (first
    | (at_builtin; refine Kd.R_append_zeros (Kd.int .u8) (w0 := w4) (W := w4.alloc (.cells #[.int .u8 128] 5)) w4.heap.size rfl (.tmp 40) (.tmp 41) 22 3 5 (.int .u8 0) 1 rfl Tryd.underlying22 Tryd.underlying3 info_u8 rfl (by decide) (by decide) (.slice (some ⟨w4.heap.size, 0, none⟩) 1 1) [128] (0 : Int) (kx := .i64) zn (fun _ => True) rfl (by rw [HZn.out]; rfl) rfl (fun _ _ => trivial) (R_int (own_lit w4 w4.heap.size 5 .u8 [128] (Nat.le_refl _) (by decide))) hzn0 (bel_alloc (Below.refl _ _) _) (bel_size (Below.refl _ _) _) (by have := HZn.out; simp; omega) ?_; intro v5 w5 hv5 hb5 _ _; rw [HT1.out] at hv5; obtain ⟨A5, c5, rfl⟩ := Kd.R_slice hv5; have HV5 := Aside0.mk (Kd.R_reads' hv5).2.2; have HB5 := Aside0.mk hb5; clear hv5 hb5)
    | (fail))
  refine (write_calls w.heap.size ge (.slice Ae r.length ce) ⟨sa, sb, sc, sd, se, sf, sg, sh⟩ r 0 A5 (tail1 n).length c5 (tail1 n) w5 (HE.out.below HB5.out) (Nat.le_trans HBW.out.size HB5.out.size) HV5.out HTb.out (by have := HTl.out; have := HR64.out; omega) (by decide) (by have := HTl.out; omega) (Nat.lt_of_lt_of_le HG.out HB.out) (HL4.out.below HB5.out)).mono ?_
  intro e w6 hw6
  obtain ⟨rfl, v6, hH6, hO6, hK6, hb6⟩ := hw6
  have HH6 := Aside0.mk hH6
  have HB6 : Aside0 (Below w.heap.size w5 w6) := ⟨hb6⟩
  have HB6' : Aside0 (Below w.heap.size w w6) := ⟨(below_step HBW.out HB5.out).trans hb6⟩
  have HR6 : Aside0 (w6.heap[w.heap.size]? = some (.cells z32 63 (0, 0))) := ⟨by
    have h5 := (HB5.out.block w.heap.size (blk_lt HR4.out)).trans HR4.out
    refine (hK6.2 w.heap.size (blk_lt h5) ?_).trans h5
    rintro (h1 | h1)
    · omega
    · have h2 := Kd.Q_ne (Kd.Q_below HE.out.2.2 HB5.out) h5 (by decide)
      exact h2 h1⟩
  have HS6 : Aside0 (w.heap.size < w6.heap.size) := ⟨blk_lt HR6.out⟩
  have HL6 : Aside0 (LaidAt w6 1 constA) := ⟨by
    obtain ⟨t0, fr0, h1⟩ := HL.out
    exact ⟨t0, fr0, (HB6'.out.block _ (Nat.lt_of_lt_of_le HG.out HB.out)).trans h1⟩⟩
  have HAb : Aside0 (∀ y, absorb ⟨sa, sb, sc, sd, se, sf, sg, sh⟩ (r ++ (tail1 n ++ y)) = absorb (absorb ⟨sa, sb, sc, sd, se, sf, sg, sh⟩ (r ++ tail1 n)).1 ((absorb ⟨sa, sb, sc, sd, se, sf, sg, sh⟩ (r ++ tail1 n)).2 ++ y)) := ⟨fun y => by rw [← List.append_assoc]; exact absorb_append _ _ _ _ (Nat.le_refl _)⟩
  have HBy6 : Aside0 (∀ x ∈ (absorb ⟨sa, sb, sc, sd, se, sf, sg, sh⟩ (r ++ tail1 n)).2, 0 ≤ x ∧ x < 256) := ⟨(absorb_rest _ _ _ (Nat.le_refl _)).2 HTb.out⟩
  have HLn6 : Aside0 ((absorb ⟨sa, sb, sc, sd, se, sf, sg, sh⟩ (r ++ tail1 n)).2.length < 64) := ⟨by rw [(absorb_rest _ _ _ (Nat.le_refl _)).1]; omega⟩
  obtain ⟨s6, r6, h6⟩ : ∃ s6 r6, absorb ⟨sa, sb, sc, sd, se, sf, sg, sh⟩ (r ++ tail1 n) = (s6, r6) := ⟨_, _, rfl⟩
  rw [h6] at HH6 HAb HBy6 HLn6
  clear hH6 hO6 hK6 hb6 h6 HE HBW HR4 HL4 HB5 HV5 HTb HT1 h9 e8 HB6
  go_wp2
  refine wp_loop_rounds 9 ?_
  rw [rounds_succ]
  go_wp2
  rw [rounds_succ]
  go_wp2
  rw [rounds_succ]
  go_wp2
  rw [rounds_succ]
  go_wp2
  rw [rounds_succ]
  go_wp2
  rw [rounds_succ]
  go_wp2
  rw [rounds_succ]
  go_wp2
  rw [rounds_succ]
  go_wp2
  rw [rounds_succ]
  go_wp2_with (fail)
  have HB7 : Aside0 (Below w6.heap.size w6 (w6.alloc (.cells (nums .u8 (be8 q)).toArray 79))) := ⟨bel_alloc (Below.refl _ _) _⟩
  refine (write_calls w.heap.size ge v6 s6 r6 (0 + ((tail1 n).length : Nat)) (some ⟨w6.heap.size, 0, none⟩) 8 8 (be8 q) _ (HH6.out.below HB7.out) (Nat.le_trans (Nat.le_of_lt HS6.out) HB7.out.size) (C_int (reads_lit w6 .u8 79 (be8 q) (by simp [be8]))) (fun x hx => by
    rcases List.mem_append.1 hx with h1 | h1
    · exact HBy6.out x h1
    · exact be8_byte q x h1) (by have := HLn6.out; omega) (by omega) (by have := HTl.out; omega) (Nat.lt_of_lt_of_le HG.out HB.out) (HL6.out.below HB7.out)).mono ?_
  intro e w8 hw8
  obtain ⟨rfl, v8, hH8, hO8, hK8, hb8⟩ := hw8
  have HH8 := Aside0.mk hH8
  have HB8 : Aside0 (Below w.heap.size w w8) := ⟨(HB6'.out.trans (bel_alloc (Below.refl _ _) _ |>.mono (Nat.le_of_lt HS6.out))).trans hb8⟩
  have HR8 : Aside0 (w8.heap[w.heap.size]? = some (.cells z32 63 (0, 0))) := ⟨by
    have h5 := (HB7.out.block w.heap.size (blk_lt HR6.out)).trans HR6.out
    refine (hK8.2 w.heap.size (blk_lt h5) ?_).trans h5
    rintro (h1 | h1)
    · omega
    · have h2 := Kd.Q_ne (HH6.out.below HB7.out).2.2 h5 (by decide)
      exact h2 h1⟩
  have HV : Aside0 (sumOf ⟨sa, sb, sc, sd, se, sf, sg, sh⟩ r n = digL (absorb s6 (r6 ++ be8 q)).1) := ⟨by
    unfold sumOf
    rw [HAb.out, HQ.out]
    rfl⟩
  clear hH8 hO8 hK8 hb8 HB7 HH6 HR6 HL6 HS6 HAb HBy6 HLn6 HB6'
  generalize (absorb s6 (r6 ++ be8 q)).1 = t at *
  generalize (absorb s6 (r6 ++ be8 q)).2 = r8 at *
  obtain ⟨m8, hm8⟩ : ∃ m8 : Int, m8 = 0 + ((tail1 n).length : Int) + (8 : Nat) := ⟨_, rfl⟩
  rw [← hm8] at HH8
  clear hm8
  obtain ⟨p0, p1, p2, p3, p4, p5, p6, p7⟩ := t
  have h0 : ∀ o : Obj, (w8.alloc o).cell? ⟨ge, 0, none⟩ = some (.int .u32 (wi p0)) := fun o => cell_keep (bel_alloc (Below.refl _ _) _) (blk_cell HH8.out.2.1 0)
  have h1 : ∀ o : Obj, (w8.alloc o).cell? ⟨ge, 1, none⟩ = some (.int .u32 (wi p1)) := fun o => cell_keep (bel_alloc (Below.refl _ _) _) (blk_cell HH8.out.2.1 1)
  have h2 : ∀ o : Obj, (w8.alloc o).cell? ⟨ge, 2, none⟩ = some (.int .u32 (wi p2)) := fun o => cell_keep (bel_alloc (Below.refl _ _) _) (blk_cell HH8.out.2.1 2)
  have h3 : ∀ o : Obj, (w8.alloc o).cell? ⟨ge, 3, none⟩ = some (.int .u32 (wi p3)) := fun o => cell_keep (bel_alloc (Below.refl _ _) _) (blk_cell HH8.out.2.1 3)
  have h4 : ∀ o : Obj, (w8.alloc o).cell? ⟨ge, 4, none⟩ = some (.int .u32 (wi p4)) := fun o => cell_keep (bel_alloc (Below.refl _ _) _) (blk_cell HH8.out.2.1 4)
  have h5 : ∀ o : Obj, (w8.alloc o).cell? ⟨ge, 5, none⟩ = some (.int .u32 (wi p5)) := fun o => cell_keep (bel_alloc (Below.refl _ _) _) (blk_cell HH8.out.2.1 5)
  have h6 : ∀ o : Obj, (w8.alloc o).cell? ⟨ge, 6, none⟩ = some (.int .u32 (wi p6)) := fun o => cell_keep (bel_alloc (Below.refl _ _) _) (blk_cell HH8.out.2.1 6)
  have h7 : ∀ o : Obj, (w8.alloc o).cell? ⟨ge, 7, none⟩ = some (.int .u32 (wi p7)) := fun o => cell_keep (bel_alloc (Below.refl _ _) _) (blk_cell HH8.out.2.1 7)
  go_wp2
  obtain ⟨go, hgo⟩ : ∃ go, go = w8.heap.size := ⟨_, rfl⟩
  have HO9 : Aside0 (OutW w z32 go ⟨p0, p1, p2, p3, p4, p5, p6, p7⟩ 0 (w8.alloc (.cells (dA (digP ⟨p0, p1, p2, p3, p4, p5, p6, p7⟩ 0)) 63))) := ⟨by
    rw [hgo]
    exact ⟨heap_alloc_new _ _, ((bel_alloc (Below.refl _ _) _).block _ (blk_lt HR8.out)).trans HR8.out, below_step HB8.out (bel_alloc (Below.refl _ _) _), blk_lt HR8.out⟩⟩
  rw [← hgo]
  clear h0 h1 h2 h3 h4 h5 h6 h7 hgo HH8
  go_loopw [63] (fun v63 wr => ∃ i : Nat, i ≤ 8 ∧ v63 = .int .i64 i ∧ Aside0 (OutW w z32 go ⟨p0, p1, p2, p3, p4, p5, p6, p7⟩ i wr)) (fun v63 _ => 8 - (intOf v63).toNat)
  case atStart => exact ⟨0, Nat.zero_le _, rfl, HO9⟩
  case round =>
    obtain ⟨i, hi, rfl, HO⟩ := hrel
    by_cases hlt : i < 8
    · have hix : ∀ W : World, (Instr.index 74 (.agg #[.int .u32 (wi p0), .int .u32 (wi p1), .int .u32 (wi p2), .int .u32 (wi p3), .int .u32 (wi p4), .int .u32 (wi p5), .int .u32 (wi p6), .int .u32 (wi p7)]) (.int .i64 (i : Int))).run Tryd.prog W = .ok (.int .u32 (wi ([p0, p1, p2, p3, p4, p5, p6, p7].getD i 0))) W := fun W =>
        run_index_int 74 73 8 _ .i64 .u32 i Tryd.underlying74 Tryd.underlying73 info_u32 hlt _ (sArr_get [p0, p1, p2, p3, p4, p5, p6, p7] i hlt) W
      have HS := Aside0.mk (digP_step ⟨p0, p1, p2, p3, p4, p5, p6, p7⟩ i hlt)
      obtain ⟨y, hy⟩ : ∃ y, y = wi ([p0, p1, p2, p3, p4, p5, p6, p7].getD i 0) := ⟨_, rfl⟩
      have HS2 : Aside0 (((((digP ⟨p0, p1, p2, p3, p4, p5, p6, p7⟩ i).set (4 * i) (y / 16777216 % 256)).set (4 * i + 1) (y / 65536 % 256)).set (4 * i + 2) (y / 256 % 256)).set (4 * i + 3) (y % 256) = digP ⟨p0, p1, p2, p3, p4, p5, p6, p7⟩ (i + 1)) := ⟨by rw [hy]; exact HS.out⟩
      rw [← hy] at hix
      clear hy HS
      have c0 : ∃ u, wr.cell? ⟨go, 4 * i, none⟩ = some u := ⟨_, HO.out.cell (4 * i) (by omega)⟩
      have c1 : ∃ u, wr.cell? ⟨go, 4 * i + 1, none⟩ = some u := ⟨_, HO.out.cell (4 * i + 1) (by omega)⟩
      have c2 : ∃ u, wr.cell? ⟨go, 4 * i + 2, none⟩ = some u := ⟨_, HO.out.cell (4 * i + 2) (by omega)⟩
      have c3 : ∃ u, wr.cell? ⟨go, 4 * i + 3, none⟩ = some u := ⟨_, HO.out.cell (4 * i + 3) (by omega)⟩
      obtain ⟨u0, c0⟩ := c0
      obtain ⟨u1, c1⟩ := c1
      obtain ⟨u2, c2⟩ := c2
      obtain ⟨u3, c3⟩ := c3
      have f0 : wr.frozen? ⟨go, 4 * i, none⟩ = false := blk_frozen HO.out.1 _
      have f1 : wr.frozen? ⟨go, 4 * i + 1, none⟩ = false := blk_frozen HO.out.1 _
      have f2 : wr.frozen? ⟨go, 4 * i + 2, none⟩ = false := blk_frozen HO.out.1 _
      have f3 : wr.frozen? ⟨go, 4 * i + 3, none⟩ = false := blk_frozen HO.out.1 _
      go_wp2
      refine wp_loop_rounds 5 ?_
      rw [rounds_succ]
      go_wp2
      rw [rounds_succ]
      go_wp2
      rw [rounds_succ]
      go_wp2
      rw [rounds_succ]
      go_wp2
      rw [rounds_succ]
      go_wp2
      go_roundw
      case measure => simp [intOf]; omega
      case rel => exact ⟨i + 1, by omega, by go_num, ⟨by rw [OutW, ← HS2.out]; exact ((((HO.out.set (4 * i) _).set (4 * i + 1) _).set (4 * i + 2) _).set (4 * i + 3) _)⟩⟩
    · obtain rfl : i = 8 := by omega
      have HD : Aside0 (digP ⟨p0, p1, p2, p3, p4, p5, p6, p7⟩ 8 = sumOf ⟨sa, sb, sc, sd, se, sf, sg, sh⟩ r n) := ⟨by rw [HV.out, digP_end]⟩
      have HO' : Aside0 (wr.heap[go]? = some (.cells (dA (digP ⟨p0, p1, p2, p3, p4, p5, p6, p7⟩ 8)) 63 (0, 0)) ∧ wr.heap[w.heap.size]? = some (.cells z32 63 (0, 0)) ∧ Below w.heap.size w wr) := ⟨⟨HO.out.1, HO.out.2.1, HO.out.2.2.1⟩⟩
      rw [HD.out] at HO'
      have HLd : Aside0 ((sumOf ⟨sa, sb, sc, sd, se, sf, sg, sh⟩ r n).length = 32) := ⟨digL_length _⟩
      clear HO HV HD hlt hi
      have HI1 : Aside0 ((Tryd.prog.info? 63).map (·.size) = some (dA (sumOf ⟨sa, sb, sc, sd, se, sf, sg, sh⟩ r n)).size) := ⟨by rw [dA_size, HLd.out]; kernel_rfl⟩
      have HI2 : Aside0 (z32.size = (dA (sumOf ⟨sa, sb, sc, sd, se, sf, sg, sh⟩ r n)).size) := ⟨by rw [dA_size, HLd.out, HZ.out]; rfl⟩
      have HI3 := Aside0.mk (dA_one (sumOf ⟨sa, sb, sc, sd, se, sf, sg, sh⟩ r n))
      obtain ⟨d, hd⟩ : ∃ d, d = sumOf ⟨sa, sb, sc, sd, se, sf, sg, sh⟩ r n := ⟨_, rfl⟩
      rw [← hd] at HO' HI1 HI2 HI3
      have Hd := Aside0.mk hd
      clear hd HLd
      go_wp2_with (first
        | (with_reducible refine wpList_load_row rfl 63 (.tmp 8) rfl go rfl 63 (dA d) (0, 0) _ HO'.out.1 Tryd.underlying63 rfl HI1.out ?_)
        | (with_reducible refine wpList_store_row rfl 63 (.tmp 2) (.tmp 83) rfl w.heap.size (dA d) rfl rfl 63 z32 HO'.out.2.1 HI1.out HI2.out HI3.out ?_))
      exact bodyPost_ret (results_cell_row Tryd.results39 _ _ w.heap.size 63 (dA d) (0, 0) _ rfl (setRow_heap _ _ _ _ _ _ HO'.out.2.1) Tryd.underlying63 rfl HI1.out) rfl ⟨by rw [Hd.out], below_setRow HO'.out.2.2 (Nat.le_refl _) _⟩
end Go.Proofs.YtpndobhakmjglaaDoor.Sha
namespace Go.Proofs.YtpndobhakmjglaaDoor.Sha
open Go.RowKit Go.Proofs.YtpndobhakmjglaaDoorW.PrintWords Go.Proofs.YtpndobhakmjglaaDoorW.PrintLast Go.Proofs.YtpndobhakmjglaaDoorW.PrintMore Go.Proofs.YtpndobhakmjglaaDoor.K
set_option linter.unusedVariables false
theorem z32_lit : (#[.int .u8 0, .int .u8 0, .int .u8 0, .int .u8 0, .int .u8 0, .int .u8 0, .int .u8 0, .int .u8 0, .int .u8 0, .int .u8 0, .int .u8 0, .int .u8 0, .int .u8 0, .int .u8 0, .int .u8 0, .int .u8 0, .int .u8 0, .int .u8 0, .int .u8 0, .int .u8 0, .int .u8 0, .int .u8 0, .int .u8 0, .int .u8 0, .int .u8 0, .int .u8 0, .int .u8 0, .int .u8 0, .int .u8 0, .int .u8 0, .int .u8 0, .int .u8 0] : Array Value) = dA (List.replicate 32 0) := rfl
theorem dig_info {d : List Int} (h : d.length = 32) : (Tryd.prog.info? 63).map (·.size) = some (dA d).size := by rw [dA_size, h]; kernel_rfl
set_option maxHeartbeats 4000000 in
set_option maxRecDepth 100000 in
theorem sum_calls (A : Option Addr) (m c : Nat) (l : List Int) (w : World) (hl : Kd.C (Kd.int .u8) w A m l) (hby : ∀ x ∈ l, 0 ≤ x ∧ x < 256) (hm : m ≤ 140737488355328)
    (hLf : LaidAt w 0 firstA) (hL : LaidAt w 1 constA) :
    Calls Tryd.prog 34 #[.slice A m c] w fun e w' => e = .returned (.agg (dA (shaV l))) ∧ Below w.heap.size w w' := by
  have HC := Aside0.mk hl
  have HBy := Aside0.mk hby
  have HM := Aside0.mk hm
  have HLf := Aside0.mk hLf
  have HL := Aside0.mk hL
  have HG : Aside0 (1 < w.heap.size) := ⟨by obtain ⟨_, _, h⟩ := hL; exact blk_lt h⟩
  have HN : Aside0 (l.length = m) := ⟨hl.1⟩
  have HD1 := Aside0.mk (dig_info (shaV_length l))
  have HD2 : Aside0 ((dA (List.replicate 32 0)).size = (dA (shaV l)).size) := ⟨by rw [dA_size, dA_size, shaV_length]; rfl⟩
  clear hl hby hm hLf hL
  go_enter Tryd.func34, Tryd.ntmps34
  go_wp2_with (fail)
  rw [z32_lit]
  have HB1 : Aside0 (Below w.heap.size w (w.alloc (.cells (dA (List.replicate 32 0)) 63))) := ⟨bel_alloc (Below.refl _ _) _⟩
  have HR1 : Aside0 ((w.alloc (.cells (dA (List.replicate 32 0)) 63)).heap[w.heap.size]? = some (.cells (dA (List.replicate 32 0)) 63 (0, 0))) := ⟨heap_alloc_new _ _⟩
  generalize w.alloc (.cells (dA (List.replicate 32 0)) 63) = w1 at *
  refine (new_calls w1 (HLf.out.below HB1.out)).mono ?_
  rintro e w2 ⟨rfl, hw2⟩
  have HH2 : Aside0 (HashAt w2 w.heap.size w1.heap.size (.slice none 0 0) init [] 0) := ⟨by rw [hw2]; exact HashAt.new w1 _ HB1.out.size⟩
  have HB2 : Aside0 (Below w1.heap.size w1 w2) := ⟨by rw [hw2]; exact bel_alloc (Below.refl _ _) _⟩
  have hge : w.heap.size < w1.heap.size := blk_lt HR1.out
  clear hw2
  generalize w1.heap.size = ge at *
  go_wp2_with (fail)
  have HB2' : Aside0 (Below w.heap.size w w2) := ⟨HB1.out.trans (HB2.out.mono (Nat.le_of_lt hge))⟩
  refine (write_calls w.heap.size ge (.slice none 0 0) init [] 0 A m c l w2 HH2.out HB2'.out.size (Kd.C_below HC.out HB2'.out) (by simpa using HBy.out) (by have := HM.out; simp; omega) (by decide) (by have := HM.out; omega) HG.out (HL.out.below HB2'.out)).mono ?_
  intro e w3 hw3
  obtain ⟨rfl, v3, hH3, hO3, hK3, hb3⟩ := hw3
  have HH3 : Aside0 (HashAt w3 w.heap.size ge v3 (absorb init l).1 (absorb init l).2 (m : Int)) := ⟨by
    rw [show ([] ++ l : List Int) = l from rfl, show (0 : Int) + (m : Int) = (m : Int) by omega] at hH3
    exact hH3⟩
  have HB3 : Aside0 (Below w.heap.size w w3) := ⟨HB2'.out.trans hb3⟩
  have HR3 : Aside0 (w3.heap[w.heap.size]? = some (.cells (dA (List.replicate 32 0)) 63 (0, 0))) := ⟨by
    have h5 := (HB2.out.block w.heap.size hge).trans HR1.out
    refine (hK3.2 w.heap.size (blk_lt h5) ?_).trans h5
    rintro (h1 | h1)
    · omega
    · simp [Value.ownBlock] at h1⟩
  have HRest := Aside0.mk (absorb_rest l.length init l (Nat.le_refl _))
  have HV : Aside0 (sumOf (absorb init l).1 (absorb init l).2 m = shaV l) := ⟨by rw [← HN.out]; exact sumOf_absorb l⟩
  clear hH3 hO3 hK3 hb3 HH2 HB2 HB2' HR1 HB1
  go_wp2_with (fail)
  refine (hsum_calls w.heap.size ge v3 (absorb init l).1 (absorb init l).2 m w3 HH3.out HB3.out.size (HRest.out.2 HBy.out) (by rw [HRest.out.1]; omega) (by rw [HRest.out.1, HN.out]) (by have := HM.out; omega) HG.out (HL.out.below HB3.out)).mono ?_
  rintro e w4 ⟨rfl, hb4⟩
  have HB4 : Aside0 (Below w.heap.size w w4) := ⟨below_step HB3.out hb4⟩
  have HR4 : Aside0 (w4.heap[w.heap.size]? = some (.cells (dA (List.replicate 32 0)) 63 (0, 0))) := ⟨(hb4.block _ (blk_lt HR3.out)).trans HR3.out⟩
  rw [HV.out]
  clear hb4 HH3 HB3 HR3 HRest HV
  obtain ⟨d, hd⟩ : ∃ d, d = shaV l := ⟨_, rfl⟩
  rw [← hd] at HD1 HD2 ⊢
  have Hd := Aside0.mk hd
  clear hd
  have HI3 := Aside0.mk (dA_one d)
  go_wp2_with (with_reducible refine wpList_store_row rfl 63 (.tmp 2) (.tmp 9) rfl w.heap.size (dA d) rfl rfl 63 _ HR4.out HD1.out HD2.out HI3.out ?_)
  exact bodyPost_ret (results_cell_row Tryd.results34 _ _ w.heap.size 63 (dA d) (0, 0) _ rfl (setRow_heap _ _ _ _ _ _ HR4.out) Tryd.underlying63 rfl HD1.out) rfl ⟨by rw [Hd.out], below_setRow HB4.out (Nat.le_refl _) _⟩
set_option maxHeartbeats 4000000 in
set_option maxRecDepth 100000 in
theorem hsum_nil_calls (w : World) (hLf : LaidAt w 0 firstA) (hL : LaidAt w 1 constA) :
    Calls Tryd.prog 39 #[.pointer none] w fun e w' => e = .returned (.agg (dA (shaV []))) ∧ Below w.heap.size w w' := by
  have HLf := Aside0.mk hLf
  have HL := Aside0.mk hL
  have HD1 := Aside0.mk (dig_info (shaV_length []))
  have HD2 : Aside0 ((dA (List.replicate 32 0)).size = (dA (shaV [])).size) := ⟨by rw [dA_size, dA_size, shaV_length]; rfl⟩
  clear hLf hL
  go_enter Tryd.func39, Tryd.ntmps39
  go_wp2_with (fail)
  rw [z32_lit]
  have HB1 : Aside0 (Below w.heap.size w (w.alloc (.cells (dA (List.replicate 32 0)) 63))) := ⟨bel_alloc (Below.refl _ _) _⟩
  have HR1 : Aside0 ((w.alloc (.cells (dA (List.replicate 32 0)) 63)).heap[w.heap.size]? = some (.cells (dA (List.replicate 32 0)) 63 (0, 0))) := ⟨heap_alloc_new _ _⟩
  generalize w.alloc (.cells (dA (List.replicate 32 0)) 63) = w1 at *
  refine (sum_calls none 0 0 [] w1 (Kd.C_nil _ _) (fun x hx => by cases hx) (by decide) (HLf.out.below HB1.out) (HL.out.below HB1.out)).mono ?_
  rintro e w4 ⟨rfl, hb4⟩
  have HB4 : Aside0 (Below w.heap.size w w4) := ⟨below_step HB1.out hb4⟩
  have HR4 : Aside0 (w4.heap[w.heap.size]? = some (.cells (dA (List.replicate 32 0)) 63 (0, 0))) := ⟨(hb4.block _ (blk_lt HR1.out)).trans HR1.out⟩
  clear hb4 HB1 HR1
  obtain ⟨d, hd⟩ : ∃ d, d = shaV [] := ⟨_, rfl⟩
  rw [← hd] at HD1 HD2 ⊢
  have Hd := Aside0.mk hd
  clear hd
  have HI3 := Aside0.mk (dA_one d)
  go_wp2_with (with_reducible refine wpList_store_row rfl 63 (.tmp 2) (.tmp 14) rfl w.heap.size (dA d) rfl rfl 63 _ HR4.out HD1.out HD2.out HI3.out ?_)
  exact bodyPost_ret (results_cell_row Tryd.results39 _ _ w.heap.size 63 (dA d) (0, 0) _ rfl (setRow_heap _ _ _ _ _ _ HR4.out) Tryd.underlying63 rfl HD1.out) rfl ⟨by rw [Hd.out], below_setRow HB4.out (Nat.le_refl _) _⟩
end Go.Proofs.YtpndobhakmjglaaDoor.Sha
namespace Go.Proofs.YtpndobhakmjglaaDoor.Codec
open Go.RowKit Go.Proofs.YtpndobhakmjglaaDoorW.PrintWords Go.Proofs.YtpndobhakmjglaaDoorW.PrintLast Go.Proofs.YtpndobhakmjglaaDoorW.PrintMore Go.Proofs.YtpndobhakmjglaaDoor.K
theorem info_u8 : (Tryd.prog.info? 5).map (fun i => (i.zero, i.size, i.bytes)) = some (some (.int .u8 0), 1, 1) := by kernel_rfl
set_option maxHeartbeats 1000000 in
set_option maxRecDepth 100000 in
theorem join_calls (A0 : Option Addr) (c0 : Nat) (l0 : List (List Int)) (w : World) (hr0 : Kd.C (Kd.slice 5 (Kd.int .u8)) w A0 l0.length l0) (hb : (joinL l0).length ≤ 140737488355328) :
    Calls Tryd.prog 24 #[.slice A0 l0.length c0] w fun e w' => ∃ v0_ : Value, e = .returned (v0_) ∧ Kd.R (Kd.int .u8) 5 w' w.heap.size (fun _ => True) v0_ (joinL l0) ∧ Below w.heap.size w w' := by
  have HR0 := Aside0.mk hr0
  have HBd := Aside0.mk hb
  have hm := hr0.2.1
  clear hr0 hb
  go_enter Tryd.func24, Tryd.ntmps24
  go_wp2
  go_loopw [3, 10] (fun v3 v10 w' => ∃ (k : Nat), k ≤ l0.length ∧ v10 = .int .i64 k ∧ Aside0 (w'.ownsRow w.heap.size 5 1 v3 (joinL (l0.take k)).length (nums .u8 (joinL (l0.take k)))) ∧ Aside0 (Below w.heap.size w w')) (fun _ v10 _ => l0.length - (intOf v10).toNat)
  case atStart => exact ⟨0, Nat.zero_le _, rfl, ⟨own_nil _ _ _ _⟩, ⟨Below.refl _ _⟩⟩
  case round =>
    obtain ⟨k, hk, rfl, HO, HB⟩ := hrel
    by_cases hlt : k < l0.length
    · obtain ⟨ad, A1, c1, rfl, hx, hl1, hi1⟩ := row_at' HR0.out HB.out k hlt
      have HS := Aside0.mk (joinL_snoc l0 k hlt)
      have HLe := Aside0.mk (joinL_le l0 (k + 1))
      obtain ⟨A3, c3, rfl⟩ := own_slice HO.out
      generalize l0.getD k [] = p at *
      generalize hxs : joinL (l0.take k) = xs at *
      clear hxs
      have HR1 := Aside0.mk (reads_int hi1)
      have HLim : Aside0 (xs.length + 4 + p.length ≤ 140737488355328) := ⟨by
        have h1 := congrArg List.length HS.out
        have h2 := HLe.out
        have h3 := HBd.out
        simp only [List.length_append, be4, List.length_cons, List.length_nil] at h1
        omega⟩
      clear hi1 hl1
      go_wp2
      refine wp_loop_rounds 5 ?_
      rw [rounds_succ]
      go_wp2
      rw [rounds_succ]
      go_wp2
      rw [rounds_succ]
      go_wp2
      rw [rounds_succ]
      go_wp2
      rw [rounds_succ]
      go_wp2_with (first
        | (at_builtin; refine print_append_row (w0 := w) w.heap.size rfl (.tmp 27) (.tmp 28) 22 5 .u8 1 rfl Tryd.underlying22 info_u8 (by decide) (.slice A3 xs.length c3) xs (be4 p.length) (some ⟨wr.heap.size, 0, none⟩) 4 4 rfl rfl (HO.out.alloc _) (reads_lit wr .u8 61 (be4 p.length) (by simp [be4])) (bel_alloc HB.out _) (bel_size HB.out _) (by have := HLim.out; omega) ?_; intro v1 w1 ho hb hg hat; have HO1 := Aside0.mk ho; have HB1 := Aside0.mk hb; clear ho hb hg hat HO)
        | (at_builtin; refine print_append_row (w0 := w) w.heap.size rfl (.tmp 29) (.tmp 30) 22 5 .u8 1 rfl Tryd.underlying22 info_u8 (by decide) v1 (xs ++ be4 p.length) p A1 p.length c1 rfl rfl HO1.out (HR1.out.below HB1.out) HB1.out HB1.out.size (by have := HLim.out; simp only [List.length_append, be4, List.length_cons, List.length_nil]; omega) ?_; intro v2 w2 ho hb hg hat; have HO2 := Aside0.mk ho; have HB2 := Aside0.mk hb; clear ho hb hg hat))
      go_roundw
      case measure => simp [intOf]; omega
      case rel => exact ⟨k + 1, by omega, by go_num, ⟨by rw [HS.out]; exact HO2.out⟩, HB2⟩
    · obtain rfl : k = l0.length := by omega
      go_wp2
      go_ret
      exact ⟨_, rfl, R_int (by rw [← List.take_length (l := l0)]; simpa using HO.out), HB.out⟩
theorem join_n (A0 : Option Addr) (n c0 : Nat) (l0 : List (List Int)) (w : World) (hr0 : Kd.C (Kd.slice 5 (Kd.int .u8)) w A0 n l0) (hb : (joinL l0).length ≤ 140737488355328) :
    Calls Tryd.prog 24 #[.slice A0 n c0] w fun e w' => ∃ v0_ : Value, e = .returned (v0_) ∧ Kd.R (Kd.int .u8) 5 w' w.heap.size (fun _ => True) v0_ (joinL l0) ∧ Below w.heap.size w w' := by
  obtain rfl := hr0.1
  exact join_calls A0 c0 l0 w hr0 hb
end Go.Proofs.YtpndobhakmjglaaDoor.Codec
namespace Go.Proofs.YtpndobhakmjglaaDoor.Store
open Go.RowKit Go.Proofs.YtpndobhakmjglaaDoorW.PrintWords Go.Proofs.YtpndobhakmjglaaDoorW.PrintLast Go.Proofs.YtpndobhakmjglaaDoorW.PrintMore Go.Proofs.YtpndobhakmjglaaDoor.K Go.Proofs.YtpndobhakmjglaaDoor.Sha
set_option linter.unusedVariables false
set_option linter.unusedSimpArgs false
theorem dig_reads {W : World} {g t : Nat} {d : List Int} {n : Nat} (h : W.heap[g]? = some (.cells (dA d) t (0, 0))) (hn : d.length = n) (hm : n ≤ 9223372036854775807) : Kd.C (Kd.int .u8) W (some ⟨g, 0, none⟩) n d := by
  refine C_int ⟨hn, hm, fun _ => ⟨_, rfl, fun j hj => ?_⟩⟩
  rw [add_plain]
  exact (blk_cell h j).trans (dA_get d j (by omega))
/-- Join of two rows. -/
theorem join2 (A0 : Option Addr) (n0 c0 : Nat) (a : List Int) (A1 : Option Addr) (n1 c1 : Nat) (r : List Int) (w : World) (h0 : Kd.C (Kd.int .u8) w A0 n0 a) (hc0 : n0 ≤ c0) (h1 : Kd.C (Kd.int .u8) w A1 n1 r) (hc1 : n1 ≤ c1) (hb : a.length + r.length ≤ 100000000) :
    Calls Tryd.prog 24 #[.slice (some ⟨w.heap.size, 0, none⟩) 2 2] (w.alloc (.cells #[.slice A0 n0 c0, .slice A1 n1 c1] 22)) fun e w' => ∃ v, e = .returned v ∧ Kd.R (Kd.int .u8) 5 w' (w.alloc (.cells #[.slice A0 n0 c0, .slice A1 n1 c1] 22)).heap.size (fun _ => True) v (joinL [a, r]) ∧ Below (w.alloc (.cells #[.slice A0 n0 c0, .slice A1 n1 c1] 22)).heap.size (w.alloc (.cells #[.slice A0 n0 c0, .slice A1 n1 c1] 22)) w' := by
  obtain rfl := h0.1
  obtain rfl := h1.1
  have hr : Kd.C (Kd.slice 5 (Kd.int .u8)) (w.alloc (.cells [Value.slice A0 a.length c0, .slice A1 r.length c1].toArray 22)) (some ⟨w.heap.size, 0, none⟩) [a, r].length [a, r] := rows_lit w 22 _ [a, r] (by simp) (fun j z hj => by
    match j, hj with
    | 0, hj => cases hj; exact ⟨A0, c0, rfl, hc0, h0⟩
    | 1, hj => cases hj; exact ⟨A1, c1, rfl, hc1, h1⟩)
  exact Codec.join_calls (some ⟨w.heap.size, 0, none⟩) 2 [a, r] _ hr (by rw [joinTwo_len]; omega)
set_option maxHeartbeats 4000000 in
set_option maxRecDepth 100000 in
theorem seal_calls (A0 : Option Addr) (n0 c0 : Nat) (a : List Int) (A1 : Option Addr) (n1 c1 : Nat) (r : List Int) (w : World) (h0 : Kd.C (Kd.int .u8) w A0 n0 a) (hc0 : n0 ≤ c0) (h1 : Kd.C (Kd.int .u8) w A1 n1 r) (hc1 : n1 ≤ c1) (hb : a.length + r.length ≤ 100000000)
    (ha : ∀ x ∈ a, 0 ≤ x ∧ x < 256) (hr : ∀ x ∈ r, 0 ≤ x ∧ x < 256) (hLf : LaidAt w 0 firstA) (hL : LaidAt w 1 constA) :
    Calls Tryd.prog 25 #[.slice A0 n0 c0, .slice A1 n1 c1] w fun e w' => ∃ v, e = .returned v ∧ Kd.R (Kd.int .u8) 5 w' w.heap.size (fun _ => True) v (sealV a r) ∧ Below w.heap.size w w' := by
  have HJ := Aside0.mk (join2 A0 n0 c0 a A1 n1 c1 r w h0 hc0 h1 hc1 hb)
  have HB : Aside0 (Below w.heap.size w (w.alloc (.cells #[.slice A0 n0 c0, .slice A1 n1 c1] 22))) := ⟨bel_alloc (Below.refl _ _) _⟩
  have HBj := Aside0.mk (joinTwo_byte ha hr)
  have HLj : Aside0 ((joinL [a, r]).length ≤ 100000008) := ⟨by rw [joinTwo_len]; omega⟩
  have HLf := Aside0.mk hLf
  have HL := Aside0.mk hL
  have HS : Aside0 (sealV a r = (shaV (joinL [a, r])).take 16) := ⟨rfl⟩
  rw [HS.out]
  clear h0 h1 hc0 hc1 hb ha hr hLf hL HS
  generalize joinL [a, r] = j at *
  go_enter Tryd.func25, Tryd.ntmps25
  go_wp2_with (fail)
  refine HJ.out.mono ?_
  rintro e w1 ⟨v, rfl, hR, hb⟩
  have HB1 := Aside0.mk (below_step HB.out hb)
  obtain ⟨Aj, cj, rfl⟩ := Kd.R_slice hR
  have HR := Aside0.mk (Kd.R_reads' hR).2.2
  clear hR hb HJ
  go_wp2_with (fail)
  refine (sum_calls Aj _ cj j w1 HR.out HBj.out (by have := HLj.out; omega) (HLf.out.below HB1.out) (HL.out.below HB1.out)).mono ?_
  rintro e w2 ⟨rfl, hb⟩
  have HB2 := Aside0.mk (below_step HB1.out hb)
  have HDl := Aside0.mk (shaV_length j)
  clear hb
  obtain ⟨d, hd⟩ : ∃ d, d = shaV j := ⟨_, rfl⟩
  rw [← hd] at HDl ⊢
  have HDe := Aside0.mk hd
  clear hd
  have HD1 := Aside0.mk (dig_info HDl.out)
  have HD2 : Aside0 ((dA (List.replicate 32 0)).size = (dA d).size) := ⟨by rw [dA_size, dA_size, HDl.out]; rfl⟩
  have HD3 := Aside0.mk (dA_one d)
  have HB3 : Aside0 (Below w.heap.size w (w2.alloc (.cells (dA d) 63))) := ⟨bel_alloc HB2.out _⟩
  have HDr : Aside0 (Kd.C (Kd.int .u8) (w2.alloc (.cells (dA d) 63)) (some ⟨w2.heap.size, 0, none⟩) 16 (d.take 16)) := ⟨take_rows 16 (by rw [HDl.out]; decide) (dig_reads (heap_alloc_new _ _) HDl.out (by decide))⟩
  go_wp2_with (rw [z32_lit]; (with_reducible refine wpList_store_row rfl 63 (.tmp 5) (.tmp 10) rfl w2.heap.size (dA d) rfl rfl 63 (dA (List.replicate 32 0)) (heap_alloc_new _ _) HD1.out HD2.out HD3.out ?_); rw [World.setRow_alloc_new])
  refine (Clone.clone_calls (some ⟨w2.heap.size, 0, none⟩) 16 16 (d.take 16) _ HDr.out (by decide)).mono ?_
  rintro e w4 ⟨v, rfl, hR, hb⟩
  have HR4 := Aside0.mk (Kd.R_lower hR HB3.out.size)
  have HB4 := Aside0.mk (below_step HB3.out hb)
  clear hR hb
  go_wp2
  go_ret
  exact ⟨v, rfl, by rw [← HDe.out]; exact HR4.out, HB4.out⟩
end Go.Proofs.YtpndobhakmjglaaDoor.Store
namespace Go.Proofs.YtpndobhakmjglaaDoor.Store
open Go.RowKit Go.Proofs.YtpndobhakmjglaaDoorW.PrintWords Go.Proofs.YtpndobhakmjglaaDoorW.PrintLast Go.Proofs.YtpndobhakmjglaaDoorW.PrintMore Go.Proofs.YtpndobhakmjglaaDoor.K Go.Proofs.YtpndobhakmjglaaDoor.Sha
set_option linter.unusedVariables false
set_option linter.unusedSimpArgs false
theorem info_bs : (Tryd.prog.info? 22).map (fun i => (i.zero, i.size, i.bytes)) = some (some (.slice none 0 0), 1, 24) := by kernel_rfl
abbrev kB : Kd Int := Kd.int .u8
abbrev kT : Kd (List Int) := Kd.slice 5 (Kd.int .u8)
/-- A store in a block: its records, their last mark, its bytes. No record and no mark lies in the bytes' block. -/
def StAt (W : World) (B g : Nat) (vl vm vb : Value) (rs : List (List Int)) (mk bs : List Int) : Prop :=
  B ≤ g ∧ W.heap[g]? = some (.cells #[vl, vm, vb] 56 (0, 0)) ∧ kT.R 22 W B (fun k => some k ≠ vb.ownBlock) vl rs ∧ kB.R 5 W B (fun k => some k ≠ vb.ownBlock) vm mk ∧ kB.R 5 W B (fun _ => True) vb bs
/-- The blocks that a call may write: the store's, its records' row's, its bytes'. -/
def Touch (g : Nat) (vl vb : Value) (k : Nat) : Prop := k = g ∨ vl.ownBlock = some k ∨ vb.ownBlock = some k
section
variable {W W1 : World} {B g : Nat} {vl vm vb : Value} {rs : List (List Int)} {mk bs : List Int}
theorem R_from {α : Type} {d : Kd α} {e : Nat} {w w1 : World} {base : Nat} {ok : Nat → Prop} {v : Value} {xs : List α} (h : d.R e w base ok v xs) (hm : ∀ k, base ≤ k → k < w.heap.size → w1.heap[k]? = w.heap[k]?) : d.R e w1 base ok v xs :=
  Kd.R_mono (Kd.R_step (Kd.R_bound h) (fun k hk hl => hm k hk.2.1 hl)) (fun _ hk => hk.1)
theorem StAt.move (h : StAt W B g vl vm vb rs mk bs) (hm : ∀ k, B ≤ k → k < W.heap.size → W1.heap[k]? = W.heap[k]?) : StAt W1 B g vl vm vb rs mk bs :=
  ⟨h.1, (hm g h.1 (blk_lt h.2.1)).trans h.2.1, R_from h.2.2.1 hm, R_from h.2.2.2.1 hm, R_from h.2.2.2.2 hm⟩
theorem StAt.below (h : StAt W B g vl vm vb rs mk bs) (hb : Below W.heap.size W W1) : StAt W1 B g vl vm vb rs mk bs := h.move (fun k _ hk => hb.block k hk)
theorem st0 (h : StAt W B g vl vm vb rs mk bs) : W.cell? ⟨g, 0, none⟩ = some vl := blk_cell h.2.1 0
theorem st1 (h : StAt W B g vl vm vb rs mk bs) : W.cell? ⟨g, 1, none⟩ = some vm := blk_cell h.2.1 1
theorem st2 (h : StAt W B g vl vm vb rs mk bs) : W.cell? ⟨g, 2, none⟩ = some vb := blk_cell h.2.1 2
theorem stf (h : StAt W B g vl vm vb rs mk bs) (j : Nat) : W.frozen? ⟨g, j, none⟩ = false := blk_frozen h.2.1 j
theorem typ_T (q : Nat) (hq : q ∈ 22 :: kT.E) : q = 22 ∨ q = 5 := by
  simpa [kT, Kd.slice, Kd.int, Kd.scalar] using hq
theorem typ_B (q : Nat) (hq : q ∈ 5 :: kB.E) : q = 5 := by
  simpa [kB, Kd.int, Kd.scalar] using hq
theorem own_obj {α : Type} {d : Kd α} {e : Nat} {w : World} {base : Nat} {ok : Nat → Prop} {v : Value} {xs : List α} (h : d.R e w base ok v xs) (k : Nat) (hk : v.ownBlock = some k) : ∃ cells, w.heap[k]? = some (.cells cells e (0, 0)) := by
  obtain ⟨inner, ho⟩ := Kd.R_own h
  exact own_typed ho k hk
/-- The records behind an append, laid into the store with their mark. -/
theorem StAt.added (h : StAt W B g vl vm vb rs mk bs) {v1 vm1 : Value} {rs1 : List (List Int)} {mk1 : List Int} (hg : W.grownBy W1 vl.ownBlock) (hr : kT.R 22 W1 B (fun k => some k ≠ vb.ownBlock) v1 rs1) (hm : kB.R 5 W B (fun k => some k ≠ vb.ownBlock) vm1 mk1) :
    W1.heap[g]? = some (.cells #[vl, vm, vb] 56 (0, 0)) ∧ StAt ((W1.setCell ⟨g, 0, none⟩ v1).setCell ⟨g, 1, none⟩ vm1) B g v1 vm1 vb rs1 mk1 bs := by
  have h2 := blk_grown h.2.1 hg (Kd.R_ne h.2.2.1 h.2.1 (by decide))
  have h3 : (W1.setCell ⟨g, 0, none⟩ v1).heap[g]? = some (.cells #[v1, vm, vb] 56 (0, 0)) := blk_set h2 0 v1
  have hT : ∀ q, q ∈ 22 :: kT.E → q ≠ 56 := fun q hq => by rcases typ_T q hq with h | h <;> rw [h] <;> decide
  have hB : ∀ q, q ∈ 5 :: kB.E → q ≠ 56 := fun q hq => by rw [typ_B q hq]; decide
  have keep : ∀ {ok : Nat → Prop} {v : Value} {xs : List Int}, kB.R 5 W B ok v xs → kB.R 5 W1 B ok v xs := fun hh =>
    Kd.R_mono (Kd.R_step (Kd.R_bound hh) (fun k hk hl => hg.block k hl (fun e => by
      obtain ⟨_, _, _, q, hq, cells, hc⟩ := hk
      obtain ⟨cells', hc'⟩ := own_obj h.2.2.1 k e.symm
      rw [hc, typ_B q hq] at hc'
      injection hc' with hc'
      injection hc' with _ hc'
      exact absurd hc' (by decide)))) (fun _ hk => hk.1)
  exact ⟨h2, h.1, blk_set h3 1 vm1, Kd.R_set (Kd.R_set hr h2 hT _ _) h3 hT _ _, Kd.R_set (Kd.R_set (keep hm) h2 hB _ _) h3 hB _ _, Kd.R_set (Kd.R_set (keep h.2.2.2.2) h2 hB _ _) h3 hB _ _⟩
/-- The bytes behind an append, laid into the store. -/
theorem StAt.laid (h : StAt W B g vl vm vb rs mk bs) {v1 : Value} {bs1 : List Int} (hg : W.grownBy W1 vb.ownBlock) (hat : v1.ownBlock = vb.ownBlock ∨ ∃ b, v1.ownBlock = some b ∧ W.heap.size ≤ b) (hr : kB.R 5 W1 B (fun _ => True) v1 bs1) :
    W1.heap[g]? = some (.cells #[vl, vm, vb] 56 (0, 0)) ∧ StAt (W1.setCell ⟨g, 2, none⟩ v1) B g vl vm v1 rs mk bs1 := by
  have h2 := blk_grown h.2.1 hg (Kd.R_ne h.2.2.2.2 h.2.1 (by decide))
  have hT : ∀ q, q ∈ 22 :: kT.E → q ≠ 56 := fun q hq => by rcases typ_T q hq with h | h <;> rw [h] <;> decide
  have hB : ∀ q, q ∈ 5 :: kB.E → q ≠ 56 := fun q hq => by rw [typ_B q hq]; decide
  have keep : ∀ {α : Type} {d : Kd α} {e : Nat} {v : Value} {xs : List α}, d.R e W B (fun k => some k ≠ vb.ownBlock) v xs → d.R e W1 B (fun k => some k ≠ v1.ownBlock) v xs := fun hh =>
    Kd.R_mono (Kd.R_grown (Kd.R_bound hh) hg (fun k hk => hk.1)) (fun k hk => by
      rcases hat with e | ⟨b, e, hb⟩
      · rw [e]; exact hk.1
      · rw [e]; intro e2; injection e2 with e2; have := hk.2.2.1; omega)
  exact ⟨h2, h.1, blk_set h2 2 v1, Kd.R_set (keep h.2.2.1) h2 hT _ _, Kd.R_set (keep h.2.2.2.1) h2 hB _ _, Kd.R_set hr h2 hB _ _⟩
end
/-! New -/
set_option maxHeartbeats 1000000 in
theorem new_calls (w : World) :
    Calls Tryd.prog 20 #[] w fun e w' => ∃ g, e = .returned (.pointer (some ⟨g, 0, none⟩)) ∧ StAt w' w.heap.size g (.slice none 0 0) (.slice none 0 0) (.slice none 0 0) [] [] [] ∧ Below w.heap.size w w' := by
  have HB : Aside0 (Below w.heap.size w (w.alloc (.cells #[.slice none 0 0, .slice none 0 0, .slice none 0 0] 56))) := ⟨bel_alloc (Below.refl _ _) _⟩
  have HS : Aside0 (StAt (w.alloc (.cells #[.slice none 0 0, .slice none 0 0, .slice none 0 0] 56)) w.heap.size w.heap.size (.slice none 0 0) (.slice none 0 0) (.slice none 0 0) [] [] []) :=
    ⟨⟨Nat.le_refl _, heap_alloc_new _ _, Kd.R_nil _ _ _ _ _, Kd.R_nil _ _ _ _ _, Kd.R_nil _ _ _ _ _⟩⟩
  go_enter Tryd.func20, Tryd.ntmps20
  go_wp2
  go_ret
  exact ⟨_, rfl, HS.out, HB.out⟩
end Go.Proofs.YtpndobhakmjglaaDoor.Store
namespace Go.Proofs.YtpndobhakmjglaaDoor.Store
open Go.RowKit Go.Proofs.YtpndobhakmjglaaDoorW.PrintWords Go.Proofs.YtpndobhakmjglaaDoorW.PrintLast Go.Proofs.YtpndobhakmjglaaDoorW.PrintMore Go.Proofs.YtpndobhakmjglaaDoor.K Go.Proofs.YtpndobhakmjglaaDoor.Sha
set_option linter.unusedVariables false
set_option linter.unusedSimpArgs false
section
variable {w : World} {B g : Nat} {vl vm vb : Value} {rs : List (List Int)} {mk bs : List Int}
set_option maxHeartbeats 4000000 in
set_option maxRecDepth 100000 in
theorem add_calls (vx vk : Value) (x m : List Int) (h : StAt w B g vl vm vb rs mk bs) (hB : B ≤ w.heap.size) (hx : kB.R 5 w B (fun k => some k ≠ vb.ownBlock) vx x) (hm : kB.R 5 w B (fun k => some k ≠ vb.ownBlock) vk m) (hl : rs.length ≤ 1000000) :
    Calls Tryd.prog 31 #[.pointer (some ⟨g, 0, none⟩), vx, vk] w fun e w' => e = .returned (.tuple #[]) ∧ (∃ v1, StAt w' B g v1 vk vb (rs ++ [x]) m bs) ∧ Below B w w' ∧ Kept w w' (Touch g vl vb) := by
  obtain ⟨Al, cl, hvl⟩ := Kd.R_slice h.2.2.1
  obtain ⟨Ax, cx, hvx⟩ := Kd.R_slice hx
  obtain ⟨Ak, ck, hvk⟩ := Kd.R_slice hm
  subst hvl hvx hvk
  have HM : Aside0 (kT.M w B (fun k => some k ≠ vb.ownBlock ∧ some k ≠ (Value.slice Al rs.length cl).ownBlock) x [.slice Ax x.length cx]) := ⟨by
    refine Kd.M_row (Kd.R_mono (Kd.R_bound hx) (fun k hk => ⟨hk.1, fun e => ?_⟩))
    obtain ⟨_, _, _, q, hq, cells, hc⟩ := hk
    obtain ⟨cells', hc'⟩ := own_obj h.2.2.1 k e.symm
    rw [hc, typ_B q hq] at hc'
    injection hc' with hc'
    injection hc' with _ hc'
    exact absurd hc' (by decide)⟩
  have HFr : Aside0 (∀ k, w.heap.size ≤ k → some k ≠ vb.ownBlock) := ⟨Kd.fresh_ok h.2.2.2.2⟩
  have HH := Aside0.mk h
  have HB := Aside0.mk hB
  have HK := Aside0.mk hm
  have HL := Aside0.mk hl
  have h0 := st0 h
  have f0 := stf h 0
  clear h hx hm hB hl
  go_enter Tryd.func31, Tryd.ntmps31
  go_wp2_with (at_builtin; refine Kd.R_append kT (w0 := w) (W := w) B rfl (.tmp 11) (.tmp 13) 31 22 (.slice none 0 0) 24 rfl Tryd.underlying31 info_bs rfl (by decide) (by decide) (.slice Al rs.length cl) rs x [.slice Ax x.length cx] (fun k => some k ≠ vb.ownBlock) (fun k => some k ≠ vb.ownBlock ∧ some k ≠ (Value.slice Al rs.length cl).ownBlock) rfl rfl HM.out (fun k hk => hk) HFr.out HH.out.2.2.1 (Below.refl _ _) HB.out (by have := HL.out; omega) ?_; intro v1 w1 ho hb hg hat; obtain ⟨A1, c1, rfl⟩ := Kd.R_slice ho; have HLd := Aside0.mk (HH.out.added hg ho HK.out); have HB1 := Aside0.mk hb; have HK1 : Aside0 (Kept w w1 (Touch g (.slice Al rs.length cl) vb)) := ⟨(Kept.refl w _).of_grown hg (fun k hk => .inl (.inr (.inl hk)))⟩; have h01 : w1.cell? ⟨g, 0, none⟩ = some (.slice Al rs.length cl) := blk_cell HLd.out.1 0; have f01 : w1.frozen? ⟨g, 0, none⟩ = false := blk_frozen HLd.out.1 0; have h11 : w1.cell? ⟨g, 1, none⟩ = some vm := blk_cell HLd.out.1 1; have f11 : w1.frozen? ⟨g, 1, none⟩ = false := blk_frozen HLd.out.1 1; clear ho hb hg hat)
  go_end0
  have hS := HLd.out.2
  rw [List.length_append, List.length_singleton] at hS
  exact ⟨rfl, ⟨_, hS⟩, (HB1.out.setCell HLd.out.2.1 _).setCell HLd.out.2.1 _, (HK1.out.setCell (.inl (.inl rfl)) _).setCell (.inl (.inl rfl)) _⟩
end
end Go.Proofs.YtpndobhakmjglaaDoor.Store
namespace Go.Proofs.YtpndobhakmjglaaDoor.Store
open Go.RowKit Go.Proofs.YtpndobhakmjglaaDoorW.PrintWords Go.Proofs.YtpndobhakmjglaaDoorW.PrintLast Go.Proofs.YtpndobhakmjglaaDoorW.PrintMore Go.Proofs.YtpndobhakmjglaaDoor.K Go.Proofs.YtpndobhakmjglaaDoor.Sha
set_option linter.unusedVariables false
set_option linter.unusedSimpArgs false
section
variable {w : World} {B g : Nat} {vl vm vb : Value} {rs : List (List Int)} {mk bs : List Int}
set_option maxHeartbeats 2000000 in
theorem append_nil (A : Option Addr) (n c : Nat) (w : World) :
    Calls Tryd.prog 21 #[.pointer none, .slice A n c] w fun e w' => e = .returned (.int .i64 2) ∧ w = w' := by
  go_enter Tryd.func21, Tryd.ntmps21
  go_wp2
  go_ret
  exact ⟨rfl, rfl⟩
set_option maxHeartbeats 2000000 in
theorem append_long (A : Option Addr) (n c : Nat) (w : World) (hn : n ≤ 9223372036854775807) (h : 1048576 < n) :
    Calls Tryd.prog 21 #[.pointer (some ⟨g, 0, none⟩), .slice A n c] w fun e w' => e = .returned (.int .i64 13) ∧ w = w' := by
  have hd : decide (1048576 < (n : Int)) = true := by simp; omega
  clear h
  go_enter Tryd.func21, Tryd.ntmps21
  go_wp2
  go_ret
  exact ⟨rfl, rfl⟩
set_option maxHeartbeats 8000000 in
set_option maxRecDepth 100000 in
theorem append_calls (A : Option Addr) (n c : Nat) (r : List Int) (h : StAt w B g vl vm vb rs mk bs) (hB : B ≤ w.heap.size) (hr : ∀ W, Kept w W (Touch g vl vb) → Kd.C (Kd.int .u8) W A n r) (hc : n ≤ c) (hby : ∀ x ∈ r, 0 ≤ x ∧ x < 256) (hmb : ∀ x ∈ mk, 0 ≤ x ∧ x < 256) (hml : mk.length ≤ 16) (hn : n ≤ 1048576) (hrs : rs.length ≤ 1000000) (hbs : bs.length ≤ 100000000)
    (hLf : LaidAt w 0 firstA) (hL : LaidAt w 1 constA) :
    Calls Tryd.prog 21 #[.pointer (some ⟨g, 0, none⟩), .slice A n c] w fun e w' => e = .returned (.int .i64 0) ∧ (∃ v1 m1 b1, StAt w' B g v1 m1 b1 (rs ++ [r]) (sealV mk r) (bs ++ joinL [r, sealV mk r])) ∧ Below B w w' ∧ Kept w w' (Touch g vl vb) := by
  have hrl : r.length = n := (hr w (Kept.refl _ _)).1
  obtain ⟨Am, cm, hvm⟩ := Kd.R_slice h.2.2.2.1
  subst hvm
  have HRm := Aside0.mk (Kd.R_reads' h.2.2.2.1)
  have HSl := Aside0.mk (seal_calls Am mk.length cm mk A n c r w HRm.out.2.2 HRm.out.2.1 (hr w (Kept.refl _ _)) hc (by omega) hmb hby hLf hL)
  have HH := Aside0.mk h
  have HB := Aside0.mk hB
  have HC := Aside0.mk hr
  have HCc := Aside0.mk hc
  have HRs := Aside0.mk hrs
  have HBs := Aside0.mk hbs
  have HRl := Aside0.mk hrl
  have hd : decide (1048576 < (n : Int)) = false := by simp; omega
  have hm := st1 h
  have HSn := Aside0.mk (sealV_len mk r)
  have HJl : Aside0 ((joinL [r, sealV mk r]).length ≤ 1048600) := ⟨by rw [joinTwo_len, sealV_len]; omega⟩
  have HN := Aside0.mk hn
  clear h hB hr hc hby hmb hml hn hrs hbs hLf hL hrl
  go_enter Tryd.func21, Tryd.ntmps21
  go_wp2_with (fail)
  refine HSl.out.mono ?_
  rintro e w1 ⟨vs, rfl, hR, hb⟩
  obtain ⟨sl, hsl⟩ : ∃ sl, sl = sealV mk r := ⟨_, rfl⟩
  rw [← hsl] at hR HSn HJl
  have HSe := Aside0.mk hsl
  obtain ⟨As, cs, rfl⟩ := Kd.R_slice hR
  have HS := Aside0.mk hR
  have HB1 := Aside0.mk hb
  clear hR hb hm hsl
  have HW1 : Aside0 (Below w.heap.size w w1.drew) := ⟨below_drew HB1.out⟩
  have HH1 : Aside0 (StAt w1.drew B g vl (.slice Am mk.length cm) vb rs mk bs) := ⟨(HH.out.below HB1.out).below (below_drew (Below.refl _ _))⟩
  have HS1 : Aside0 (kB.R 5 w1.drew B (fun k => some k ≠ vb.ownBlock) (.slice As sl.length cs) sl) := ⟨Kd.R_drew (Kd.R_lower (Kd.R_mono (Kd.R_bound HS.out) (fun k hk => Kd.fresh_ok HH.out.2.2.2.2 k hk.2.1)) HB.out)⟩
  have HCl := Aside0.mk (Clone.clone_calls A n c r w1.drew (HC.out _ (Kept.of_below HW1.out _)) (by have := HN.out; omega))
  go_upto_region 6 with (fail)
  refine start_ (n := 7) (S := fun w' => True) (ds := []) #[false, false, false, false, false, false, false] (by kernel_rfl) rfl rfl trivial (fun hHeld => ?_)
  refine pure_ (i := 0) (N := some 20) (v := ?_) (a' := ?_) #[true, false, false, false, false, false, false] rfl rfl (by kernel_rfl) (fun _ _ _ h => h) (Or.inl ⟨by rfl, ?_⟩) ?_ ?_
  rotate_left
  · intro w'
    go_simp
    with_reducible rfl
  rotate_left
  · simp only [Act.put, List.setIfInBounds_toArray, List.set_cons_zero, List.set_cons_succ]
    rfl
  refine pure_ (i := 1) (N := some 21) (v := ?_) (a' := ?_) #[true, true, false, false, false, false, false] rfl rfl (by kernel_rfl) (fun _ _ _ h => h) (Or.inl ⟨by rfl, ?_⟩) ?_ ?_
  rotate_left
  · intro w'
    go_simp
    with_reducible rfl
  rotate_left
  · simp only [Act.put, List.setIfInBounds_toArray, List.set_cons_zero, List.set_cons_succ]
    rfl
  refine pure_ (i := 2) (N := some 22) (v := ?_) (a' := ?_) #[true, true, true, false, false, false, false] rfl rfl (by kernel_rfl) (fun _ _ _ h => h) (Or.inl ⟨by rfl, ?_⟩) ?_ ?_
  rotate_left
  · intro w'
    go_simp
    with_reducible rfl
  rotate_left
  · simp only [Act.put, List.setIfInBounds_toArray, List.set_cons_zero, List.set_cons_succ]
    rfl
  refine pure_ (i := 3) (N := some 23) (v := ?_) (a' := ?_) #[true, true, true, true, false, false, false] rfl rfl (by kernel_rfl) (fun _ _ _ h => h) (Or.inl ⟨by rfl, ?_⟩) ?_ ?_
  rotate_left
  · intro w'
    go_simp
    with_reducible rfl
  rotate_left
  · simp only [Act.put, List.setIfInBounds_toArray, List.set_cons_zero, List.set_cons_succ]
    rfl
  refine pure_ (i := 5) (N := some 25) (v := ?_) (a' := ?_) #[true, true, true, true, false, true, false] rfl rfl (by kernel_rfl) (fun _ _ _ h => h) (Or.inl ⟨by rfl, ?_⟩) ?_ ?_
  rotate_left
  · intro w'
    go_simp
    with_reducible rfl
  rotate_left
  · simp only [Act.put, List.setIfInBounds_toArray, List.set_cons_zero, List.set_cons_succ]
    rfl
  refine one_ (i := 4) (N := some 24) #[true, true, true, true, true, true, false] rfl rfl (by kernel_rfl) (by decide) (fun K hK => ?_)
  refine goes_ Tryd.func27 (by kernel_rfl) rfl #[.slice A n c] (by rfl) rfl rfl (by simp only [List.map_toArray, List.map_cons, List.map_nil]; rfl) ?_
  with_reducible refine (HCl.out).mono ?_
  rintro e w2 ⟨vx, rfl, hRx, hb2⟩
  refine ⟨_, rfl, ?_⟩
  have HB2 : Aside0 (Below w.heap.size w w2) := ⟨below_step HW1.out hb2⟩
  have HH2 := Aside0.mk (HH1.out.below hb2)
  have HS2 := Aside0.mk (Kd.R_below HS1.out hb2)
  have HX2 : Aside0 (kB.R 5 w2 B (fun k => some k ≠ vb.ownBlock) vx r) := ⟨Kd.R_lower (Kd.R_mono (Kd.R_bound hRx) (fun k hk => Kd.fresh_ok HH1.out.2.2.2.2 k hk.2.1)) (Nat.le_trans HB.out HW1.out.size)⟩
  clear hRx hb2
  obtain ⟨Ax, cx, rfl⟩ := Kd.R_slice HX2.out
  refine hK.out _ _ trivial (fun hHeld => ?_)
  clear hK K
  refine norm_ (a' := ?_) ?_ ?_
  rotate_left
  · show Act.put _ (some 24) _ = _
    simp only [Act.put, List.setIfInBounds_toArray, List.set_cons_zero, List.set_cons_succ]
    rfl
  refine one_ (i := 6) (N := some 26) #[true, true, true, true, true, true, true] rfl rfl (by kernel_rfl) (by decide) (fun K hK => ?_)
  refine goes_ Tryd.func31 (by kernel_rfl) rfl #[.pointer (some ⟨g, 0, none⟩), .slice Ax r.length cx, .slice As sl.length cs] (by rfl) rfl rfl (by simp only [List.map_toArray, List.map_cons, List.map_nil]; rfl) ?_
  with_reducible refine (add_calls (.slice Ax r.length cx) (.slice As sl.length cs) r sl HH2.out (Nat.le_trans HB.out HB2.out.size) HX2.out HS2.out HRs.out).mono ?_
  rintro e w3 ⟨rfl, ⟨v1, hS3⟩, hb3, hk3⟩
  refine ⟨_, rfl, ?_⟩
  have HH3 := Aside0.mk hS3
  have HB3 : Aside0 (Below B w w3) := ⟨((Below.mono HB2.out HB.out)).trans hb3⟩
  have HK3 : Aside0 (Kept w w3.drew (Touch g vl vb)) := ⟨((Kept.of_below HB2.out _).then_ hk3 (fun k hk => .inl hk)).drew⟩
  clear hS3 hb3 hk3
  refine hK.out _ _ trivial (fun hHeld => ?_)
  clear hK K
  refine norm_ (a' := ?_) ?_ ?_
  rotate_left
  · show Act.put _ (some 26) _ = _
    simp only [Act.put, List.setIfInBounds_toArray, List.set_cons_zero, List.set_cons_succ]
    rfl
  refine done_ (by kernel_rfl) ?_
  clear hHeld HCl HS HS1 HH1 HW1 HB1
  obtain ⟨Al, cl, hvl⟩ := Kd.R_slice HH3.out.2.2.1
  obtain ⟨Ab, cb, hvb⟩ := Kd.R_slice HH3.out.2.2.2.2
  subst hvl hvb
  have HS3 := Aside0.mk (Kd.R_reads' HH3.out.2.2.2.1)
  have HJ : Aside0 (Calls Tryd.prog 24 #[.slice (some ⟨w3.heap.size, 0, none⟩) 2 2] (w3.alloc (.cells #[.slice A n c, .slice As sl.length cs] 22)).drew fun e w' => ∃ v, e = .returned v ∧ Kd.R (Kd.int .u8) 5 w' (w3.alloc (.cells #[.slice A n c, .slice As sl.length cs] 22)).drew.heap.size (fun _ => True) v (joinL [r, sl]) ∧ Below (w3.alloc (.cells #[.slice A n c, .slice As sl.length cs] 22)).drew.heap.size (w3.alloc (.cells #[.slice A n c, .slice As sl.length cs] 22)).drew w') := ⟨join2 A n c r As sl.length cs sl w3.drew (HC.out _ HK3.out) HCc.out (Kd.C_below HS3.out.2.2 (below_drew (Below.refl _ _))) HS3.out.2.1 (by have := HRl.out; have := HN.out; have := HSn.out; omega)⟩
  have HBa : Aside0 (Below w3.drew.heap.size w3.drew (w3.alloc (.cells #[.slice A n c, .slice As sl.length cs] 22)).drew) := ⟨bel_alloc (Below.refl _ _) _⟩
  have HB4 : Aside0 (Below B w w3.drew) := ⟨below_drew HB3.out⟩
  have HH4 : Aside0 (StAt w3.drew B g (.slice Al (rs ++ [r]).length cl) (.slice As sl.length cs) (.slice Ab bs.length cb) (rs ++ [r]) sl bs) := ⟨HH3.out.below (below_drew (Below.refl _ _))⟩
  have k2 : w3.drew.cell? ⟨g, 2, none⟩ = some (.slice Ab bs.length cb) := st2 HH4.out
  go_upto_region 7 with (fail)
  refine start_ (n := 13) (S := fun w' => w'.cell? ⟨g, 2, none⟩ = some (.slice Ab bs.length cb)) (ds := [12]) #[false, false, false, false, false, false, false, false, false, false, false, false, false] (by kernel_rfl) rfl rfl (k2) (fun hHeld => ?_)
  refine pure_ (i := 0) (N := some 27) (v := ?_) (a' := ?_) #[true, false, false, false, false, false, false, false, false, false, false, false, false] rfl rfl (by kernel_rfl) (fun _ _ _ h => h) (Or.inl ⟨by rfl, ?_⟩) ?_ ?_
  rotate_left
  · intro w'
    go_simp
    with_reducible rfl
  rotate_left
  · simp only [Act.put, List.setIfInBounds_toArray, List.set_cons_zero, List.set_cons_succ]
    rfl
  refine pure_ (i := 1) (N := some 28) (v := ?_) (a' := ?_) #[true, true, false, false, false, false, false, false, false, false, false, false, false] rfl rfl (by kernel_rfl) (fun _ _ _ h => h) (Or.inl ⟨by rfl, ?_⟩) ?_ ?_
  rotate_left
  · intro w'
    go_simp
    with_reducible rfl
  rotate_left
  · simp only [Act.put, List.setIfInBounds_toArray, List.set_cons_zero, List.set_cons_succ]
    rfl
  refine pure_ (i := 2) (N := some 29) (v := ?_) (a' := ?_) #[true, true, true, false, false, false, false, false, false, false, false, false, false] rfl rfl (by kernel_rfl) (fun _ _ _ h => h) (Or.inl ⟨by rfl, ?_⟩) ?_ ?_
  rotate_left
  · intro w'
    go_simp
    with_reducible rfl
  rotate_left
  · simp only [Act.put, List.setIfInBounds_toArray, List.set_cons_zero, List.set_cons_succ]
    rfl
  refine pure_ (i := 3) (N := some 30) (v := ?_) (a' := ?_) #[true, true, true, true, false, false, false, false, false, false, false, false, false] rfl rfl (by kernel_rfl) (fun _ _ _ h => h) (Or.inl ⟨by rfl, ?_⟩) ?_ ?_
  rotate_left
  · intro w'
    go_simp
    with_reducible rfl
  rotate_left
  · simp only [Act.put, List.setIfInBounds_toArray, List.set_cons_zero, List.set_cons_succ]
    rfl
  refine pure_ (i := 5) (N := some 32) (v := ?_) (a' := ?_) #[true, true, true, true, false, true, false, false, false, false, false, false, false] rfl rfl (by kernel_rfl) (fun _ _ _ h => h) (Or.inl ⟨by rfl, ?_⟩) ?_ ?_
  rotate_left
  · intro w'
    go_simp
    with_reducible rfl
  rotate_left
  · simp only [Act.put, List.setIfInBounds_toArray, List.set_cons_zero, List.set_cons_succ]
    rfl
  refine pure_ (i := 6) (N := some 33) (v := ?_) (a' := ?_) #[true, true, true, true, false, true, true, false, false, false, false, false, false] rfl rfl (by kernel_rfl) (fun _ _ _ h => h) (Or.inl ⟨by rfl, ?_⟩) ?_ ?_
  rotate_left
  · intro w'
    go_simp
    with_reducible rfl
  rotate_left
  · simp only [Act.put, List.setIfInBounds_toArray, List.set_cons_zero, List.set_cons_succ]
    rfl
  refine take_ (i := 4) (N := some 31) (v := ?_) (a' := ?_) #[true, true, true, true, true, true, true, false, false, false, false, false, false] rfl rfl (by kernel_rfl) (fun _ _ _ h => h) (Or.inl ⟨by rfl, ?_⟩) hHeld ?_ ?_
  rotate_left
  · intro w' s0
    go_simp
    with_reducible rfl
  rotate_left
  · simp only [Act.put, List.setIfInBounds_toArray, List.set_cons_zero, List.set_cons_succ]
    rfl
  refine one_ (i := 7) (N := some 34) #[true, true, true, true, true, true, true, true, false, false, false, false, false] rfl rfl (by kernel_rfl) (by decide) (fun K hK => ?_)
  refine value_ (w1 := ?_) (v := ?_) (by rfl) rfl ?_ ?_
  rotate_left 2
  · go_simp
    constructor
    · rfl
    · rfl
  refine hK.out _ _ (cell_keep (bel_alloc (Below.refl _ _) _) k2) (fun hHeld => ?_)
  clear hK K
  refine norm_ (a' := ?_) ?_ ?_
  rotate_left
  · show Act.put _ (some 34) _ = _
    simp only [Act.put, List.setIfInBounds_toArray, List.set_cons_zero, List.set_cons_succ]
    rfl
  refine one_ (i := 8) (N := some 35) #[true, true, true, true, true, true, true, true, true, false, false, false, false] rfl rfl (by kernel_rfl) (by decide) (fun K hK => ?_)
  refine goes_ Tryd.func24 (by kernel_rfl) rfl #[.slice (some ⟨w3.heap.size, 0, none⟩) 2 2] (by rfl) rfl rfl (by simp only [List.map_toArray, List.map_cons, List.map_nil]; rfl) ?_
  with_reducible refine (HJ.out).mono ?_
  rintro e w4 ⟨vj, rfl, hRj, hb4⟩
  refine ⟨_, rfl, ?_⟩
  have HB5 : Aside0 (Below w3.drew.heap.size w3.drew w4) := ⟨below_step HBa.out hb4⟩
  obtain ⟨Aj, cj, rfl⟩ := Kd.R_slice hRj
  have HJ5 := Aside0.mk (Kd.R_reads' hRj).2.2
  have HH5 := Aside0.mk (HH4.out.below HB5.out)
  have HB6 : Aside0 (Below B w w4) := ⟨HB4.out.trans (Below.mono HB5.out (Nat.le_trans HB.out HB4.out.size))⟩
  have HK5 : Aside0 (Kept w w4 (Touch g vl (.slice Ab bs.length cb))) := ⟨HK3.out.below HB5.out⟩
  clear hRj hb4
  refine hK.out _ _ (cell_keep HB5.out k2) (fun hHeld => ?_)
  clear hK K
  refine norm_ (a' := ?_) ?_ ?_
  rotate_left
  · show Act.put _ (some 35) _ = _
    simp only [Act.put, List.setIfInBounds_toArray, List.set_cons_zero, List.set_cons_succ]
    rfl
  refine one_ (i := 9) (N := some 36) #[true, true, true, true, true, true, true, true, true, true, false, false, false] rfl rfl (by kernel_rfl) (by decide) (fun K hK => ?_)
  refine Kd.R_append_rows_step kB (w0 := w) (W := w4) B (by rfl) (.tmp 31) (.tmp 35) 22 5 (.int .u8 0) 1 rfl Tryd.underlying22 info_u8 rfl (by decide) (by decide) (.slice Ab bs.length cb) bs (joinL [r, sl]) Aj (joinL [r, sl]).length cj (fun _ => True) (fun _ => False) rfl rfl HH5.out.2.2.2.2 HJ5.out (fun _ _ h => h) (fun _ h => h.elim) (fun _ _ => trivial) HB6.out (Nat.le_trans HB.out HB6.out.size) (by have := HBs.out; have := HJl.out; omega) ?_
  intro v1 w5 ho hb hg hat
  have HLd := Aside0.mk (HH5.out.laid hg hat ho)
  have HB7 := Aside0.mk hb
  have HK7 : Aside0 (Kept w w5 (Touch g vl (.slice Ab bs.length cb))) := ⟨HK5.out.of_grown hg (fun k hk => .inl (.inr (.inr hk)))⟩
  obtain ⟨A1, c1, rfl⟩ := Kd.R_slice ho
  have j2 : w5.cell? ⟨g, 2, none⟩ = some (.slice Ab bs.length cb) := blk_cell HLd.out.1 2
  have f2 : w5.frozen? ⟨g, 2, none⟩ = false := blk_frozen HLd.out.1 2
  clear ho hb hg hat
  refine hK.out _ _ (j2) (fun hHeld => ?_)
  clear hK K
  refine norm_ (a' := ?_) ?_ ?_
  rotate_left
  · show Act.put _ (some 36) _ = _
    simp only [Act.put, List.setIfInBounds_toArray, List.set_cons_zero, List.set_cons_succ]
    rfl
  refine pure_ (i := 10) (N := some 37) (v := ?_) (a' := ?_) #[true, true, true, true, true, true, true, true, true, true, true, false, false] rfl rfl (by kernel_rfl) (fun _ _ _ h => h) (Or.inl ⟨by rfl, ?_⟩) ?_ ?_
  rotate_left
  · intro w'
    go_simp
    with_reducible rfl
  rotate_left
  · simp only [Act.put, List.setIfInBounds_toArray, List.set_cons_zero, List.set_cons_succ]
    rfl
  refine pure_ (i := 11) (N := some 38) (v := ?_) (a' := ?_) #[true, true, true, true, true, true, true, true, true, true, true, true, false] rfl rfl (by kernel_rfl) (fun _ _ _ h => h) (Or.inl ⟨by rfl, ?_⟩) ?_ ?_
  rotate_left
  · intro w'
    go_simp
    with_reducible rfl
  rotate_left
  · simp only [Act.put, List.setIfInBounds_toArray, List.set_cons_zero, List.set_cons_succ]
    rfl
  refine last_ (i := 12) (N := none) #[true, true, true, true, true, true, true, true, true, true, true, true, true] rfl rfl (by kernel_rfl) (by decide) (fun K hK => ?_)
  refine skip_ (w1 := ?_) (by rfl) rfl ?_ ?_
  rotate_left
  · go_simp
    rfl
  refine hK.out _ _ ?_
  clear hK K
  refine done_ (by kernel_rfl) ?_
  have hS := HLd.out.2
  rw [List.length_append] at hS
  have HH6 := Aside0.mk hS
  have HB8 : Aside0 (Below B w (w5.setCell ⟨g, 2, none⟩ (.slice A1 (bs.length + (joinL [r, sl]).length) c1))) := ⟨HB7.out.setCell HLd.out.2.1 _⟩
  have HK8 : Aside0 (Kept w (w5.setCell ⟨g, 2, none⟩ (.slice A1 (bs.length + (joinL [r, sl]).length) c1)) (Touch g vl (.slice Ab bs.length cb))) := ⟨HK7.out.setCell (.inl (.inl rfl)) _⟩
  clear hS
  go_wp2
  go_ret
  exact ⟨rfl, ⟨_, _, _, by rw [← HSe.out]; exact HH6.out⟩, HB8.out, HK8.out⟩
end
end Go.Proofs.YtpndobhakmjglaaDoor.Store
