/- Texts put together: ShaWrite, Clone, ShaNew, ShaSum, ShaTop, LamP, RegInv. -/
import Derived.Test.YtpdficnjjmapmaaDoorRRRBunL1
import Derived.Deep.LoopGhost
import Derived.Laws.Tables
import Derived.Laws.CopyOwn
import Derived.Deep.MidRow
import Derived.Deep.WholeRow
import Derived.StillTail
set_option linter.unusedVariables false
set_option linter.unusedSimpArgs false
namespace Go.Proofs.YtpdficnjjmapmaaDoorRRR.Sha
open Go.RowKit Go.Proofs.YtpdficnjjmapmaaDoorRRRW.PrintWords Go.Proofs.YtpdficnjjmapmaaDoorRRRW.PrintLast Go.Proofs.YtpdficnjjmapmaaDoorRRRW.PrintMore Go.Proofs.YtpdficnjjmapmaaDoorRRR.K
set_option linter.unusedVariables false
def hCells (s : St) (v : Value) (n : Int) : Array Value := #[.int .u32 (wi s.a), .int .u32 (wi s.b), .int .u32 (wi s.c), .int .u32 (wi s.d), .int .u32 (wi s.e), .int .u32 (wi s.f), .int .u32 (wi s.g), .int .u32 (wi s.h), v, .int .i64 n]
/-- A hash at block g: its state, what it has not turned yet (row v), how many bytes it has taken. -/
def HashAt (W : World) (B g : Nat) (v : Value) (s : St) (r : List Int) (n : Int) : Prop :=
  B ≤ g ∧ W.heap[g]? = some (.cells (hCells s v n) 63 (0, 0)) ∧ Kd.Q (Kd.int .u8) 5 W B (fun _ => True) v r
theorem HashAt.below {W W1 : World} {B g : Nat} {v : Value} {s : St} {r : List Int} {n : Int} (h : HashAt W B g v s r n) (hb : Below W.heap.size W W1) : HashAt W1 B g v s r n :=
  ⟨h.1, (hb.block _ (blk_lt h.2.1)).trans h.2.1, Kd.Q_below h.2.2 hb⟩
/-- The row is no part of the hash's own block. -/
theorem HashAt.apart {W : World} {B g : Nat} {v : Value} {s : St} {r : List Int} {n : Int} (h : HashAt W B g v s r n) : some g ≠ v.ownBlock :=
  Kd.Q_ne h.2.2 h.2.1 (by decide)
theorem HashAt.set {W : World} {B g : Nat} {v : Value} {s : St} {r : List Int} {n : Int} (h : HashAt W B g v s r n) (i : Nat) (u : Value) : Kd.Q (Kd.int .u8) 5 (W.setCell ⟨g, i, none⟩ u) B (fun _ => True) v r :=
  Kd.Q_set h.2.2 h.2.1 (by intro q hq; have : q = 5 := by simpa [Kd.int, Kd.scalar] using hq
                           subst this; decide) i u
theorem HashAt.setN {W : World} {B g : Nat} {v : Value} {s : St} {r : List Int} {n : Int} (h : HashAt W B g v s r n) (m : Int) : HashAt (W.setCell ⟨g, 9, none⟩ (.int .i64 m)) B g v s r m :=
  ⟨h.1, blk_set h.2.1 9 _, h.set 9 _⟩
theorem HashAt.setS {W : World} {B g : Nat} {v : Value} {s : St} {r : List Int} {n : Int} (h : HashAt W B g v s r n) (t : St) :
    HashAt ((((((((W.setCell ⟨g, 0, none⟩ (.int .u32 (wi t.a))).setCell ⟨g, 1, none⟩ (.int .u32 (wi t.b))).setCell ⟨g, 2, none⟩ (.int .u32 (wi t.c))).setCell ⟨g, 3, none⟩ (.int .u32 (wi t.d))).setCell ⟨g, 4, none⟩ (.int .u32 (wi t.e))).setCell ⟨g, 5, none⟩ (.int .u32 (wi t.f))).setCell ⟨g, 6, none⟩ (.int .u32 (wi t.g))).setCell ⟨g, 7, none⟩ (.int .u32 (wi t.h))) B g v t r n := by
  have h1 : HashAt (W.setCell ⟨g, 0, none⟩ (.int .u32 (wi t.a))) B g v { s with a := t.a } r n := ⟨h.1, blk_set h.2.1 0 _, h.set 0 _⟩
  have h2 : HashAt _ B g v { s with a := t.a, b := t.b } r n := ⟨h1.1, blk_set h1.2.1 1 _, h1.set 1 _⟩
  have h3 : HashAt _ B g v { s with a := t.a, b := t.b, c := t.c } r n := ⟨h2.1, blk_set h2.2.1 2 _, h2.set 2 _⟩
  have h4 : HashAt _ B g v { s with a := t.a, b := t.b, c := t.c, d := t.d } r n := ⟨h3.1, blk_set h3.2.1 3 _, h3.set 3 _⟩
  have h5 : HashAt _ B g v { s with a := t.a, b := t.b, c := t.c, d := t.d, e := t.e } r n := ⟨h4.1, blk_set h4.2.1 4 _, h4.set 4 _⟩
  have h6 : HashAt _ B g v { s with a := t.a, b := t.b, c := t.c, d := t.d, e := t.e, f := t.f } r n := ⟨h5.1, blk_set h5.2.1 5 _, h5.set 5 _⟩
  have h7 : HashAt _ B g v { s with a := t.a, b := t.b, c := t.c, d := t.d, e := t.e, f := t.f, g := t.g } r n := ⟨h6.1, blk_set h6.2.1 6 _, h6.set 6 _⟩
  exact ⟨h7.1, blk_set h7.2.1 7 _, h7.set 7 _⟩
theorem HashAt.setR {W : World} {B g : Nat} {v v1 : Value} {s : St} {r r1 : List Int} {n : Int} (h : HashAt W B g v s r n) (h1 : Kd.Q (Kd.int .u8) 5 W B (fun _ => True) v1 r1) : HashAt (W.setCell ⟨g, 8, none⟩ v1) B g v1 s r1 n :=
  ⟨h.1, blk_set h.2.1 8 _, Kd.Q_set h1 h.2.1 (by intro q hq; have : q = 5 := by simpa [Kd.int, Kd.scalar] using hq
                                                 subst this; decide) 8 v1⟩
/-- What a hash has done to the world: its own block and its row's, and what is new. -/
def HTouch (g : Nat) (v : Value) (k : Nat) : Prop := k = g ∨ some k = v.ownBlock
theorem not_u8 (s : St) (A : Option Addr) (a b : Nat) (n : Int) (j : Nat) (x : Int) : (hCells s (.slice A a b) n)[j]? ≠ some (.int .u8 x) := by
  intro h
  have hj : j < 10 := by
    have := (Array.getElem?_eq_some_iff.1 h).1
    simpa [hCells] using this
  match j, hj with
  | 0, _ => simp [hCells] at h
  | 1, _ => simp [hCells] at h
  | 2, _ => simp [hCells] at h
  | 3, _ => simp [hCells] at h
  | 4, _ => simp [hCells] at h
  | 5, _ => simp [hCells] at h
  | 6, _ => simp [hCells] at h
  | 7, _ => simp [hCells] at h
  | 8, _ => simp [hCells] at h
  | 9, _ => simp [hCells] at h
theorem C_far {k : IntKind} {W : World} {g t : Nat} {cs : Array Value} {fr : Nat × Nat} (h : W.heap[g]? = some (.cells cs t fr)) (hne : ∀ (j : Nat) (x : Int), cs[j]? ≠ some (Value.int k x)) {A : Option Addr} {n : Nat} {xs : List Int} (hC : Kd.C (Kd.int k) W A n xs) (i : Nat) (u : Value) :
    Kd.C (Kd.int k) (W.setCell ⟨g, i, none⟩ u) A n xs := by
  have hr := reads_int hC
  refine C_int ⟨hr.1, hr.2.1, fun hn => ?_⟩
  obtain ⟨ad, e, hc⟩ := hr.2.2 hn
  refine ⟨ad, e, fun j hj => ?_⟩
  have h1 := hc j hj
  rw [World.cell?_setCell_far _ _ _ _ (fun he => ?_)]
  · exact h1
  · have he' : (ad.add j).block = g := he.symm
    unfold World.cell? at h1
    rw [he', h] at h1
    simp only at h1
    split at h1
    · cases h1
    · exact hne _ _ h1
/-- The row behind an append, laid into the hash. -/
theorem HashAt.laid {W w1 : World} {B g : Nat} {v v1 : Value} {s : St} {r r1 : List Int} {n : Int} (h : HashAt W B g v s r n) (hg : W.grownBy w1 v.ownBlock) (h1 : Kd.Q (Kd.int .u8) 5 w1 B (fun _ => True) v1 r1) :
    w1.heap[g]? = some (.cells (hCells s v n) 63 (0, 0)) ∧ HashAt (w1.setCell ⟨g, 8, none⟩ v1) B g v1 s r1 n := by
  have h2 := blk_grown h.2.1 hg h.apart
  exact ⟨h2, h.1, blk_set h2 8 _, Kd.Q_set h1 h2 (by intro q hq; have : q = 5 := by simpa [Kd.int, Kd.scalar] using hq
                                                     subst this; decide) 8 v1⟩
theorem HashAt.cut {W : World} {B g : Nat} {A : Option Addr} {a c : Nat} {s : St} {r : List Int} {n : Int} (h : HashAt W B g (.slice A a c) s r n) (k : Nat) (hk : k ≤ r.length) :
    HashAt (W.setCell ⟨g, 8, none⟩ (.slice (if c = k then A else A.map (·.add k)) (a - k) (c - k))) B g (.slice (if c = k then A else A.map (·.add k)) (a - k) (c - k)) s (r.drop k) n := by
  have h1 := Kd.Q_drop h.2.2 hk
  rw [show k * (Kd.int .u8).sz = k from Nat.mul_one k] at h1
  exact h.setR h1
theorem run_cut {P : Program} (t e : TypeId) (ht : P.underlying t = some (.slice e)) {z : Option Value} {by_ : Nat} (hinfo : (P.info? e).map (fun i => (i.zero, i.size, i.bytes)) = some (z, 1, by_)) (A : Option Addr) (n c m : Nat) (hm : m ≤ n) (W : World) :
    (Instr.slice t (.slice A n c) (some (.int .i64 (m : Int))) none none).run P W = .ok (.slice (if c = m then A else A.map (·.add m)) (n - m) (c - m)) W := by
  obtain ⟨i, hi, hzz⟩ := Option.map_eq_some_iff.1 hinfo
  simp only [Prod.mk.injEq] at hzz
  have hel : P.elem t = e := by simp [Program.elem, ht]
  have hu : P.underlying t = some (.slice (P.elem t)) := by rw [hel]; exact ht
  rw [run_slice_l W t A n c hu .i64 (m : Int) (Int.natCast_nonneg _) (by omega), hel]
  simp [sizeOf, typeInfo, hi, hzz.2.1, sliced, Result.andThen]
theorem HTouch.kept8 {w w1 : World} {g : Nat} {v : Value} (h : Kept w w1 (HTouch g v)) (a b c d e f x y : Value) :
    Kept w ((((((((w1.setCell ⟨g, 0, none⟩ a).setCell ⟨g, 1, none⟩ b).setCell ⟨g, 2, none⟩ c).setCell ⟨g, 3, none⟩ d).setCell ⟨g, 4, none⟩ e).setCell ⟨g, 5, none⟩ f).setCell ⟨g, 6, none⟩ x).setCell ⟨g, 7, none⟩ y) (HTouch g v) :=
  (((((((h.setCell (.inl (.inl rfl)) _).setCell (.inl (.inl rfl)) _).setCell (.inl (.inl rfl)) _).setCell (.inl (.inl rfl)) _).setCell (.inl (.inl rfl)) _).setCell (.inl (.inl rfl)) _).setCell (.inl (.inl rfl)) _).setCell (.inl (.inl rfl)) _
theorem below8 {B : Nat} {w w1 : World} {g : Nat} (hg : B ≤ g) (h : Below B w w1) (a b c d e f x y : Value) :
    Below B w ((((((((w1.setCell ⟨g, 0, none⟩ a).setCell ⟨g, 1, none⟩ b).setCell ⟨g, 2, none⟩ c).setCell ⟨g, 3, none⟩ d).setCell ⟨g, 4, none⟩ e).setCell ⟨g, 5, none⟩ f).setCell ⟨g, 6, none⟩ x).setCell ⟨g, 7, none⟩ y) :=
  (((((((h.setCell hg _).setCell hg _).setCell hg _).setCell hg _).setCell hg _).setCell hg _).setCell hg _).setCell hg _

/-- The same, its state's numbers written out. -/
theorem turn_lit (sa sb sc sd se sf sg sh : W32) (A : Option Addr) (c : Nat) (b : List Int) (w : World) (hb : Kd.C (Kd.int .u8) w A b.length b) (hbl : b.length = 64) (hc : 64 ≤ c) (hby : ∀ x ∈ b, 0 ≤ x ∧ x < 256) (hL : LaidAt w 1 constA) :
    Calls Tryd.prog 33 #[.agg #[.int .u32 (wi sa), .int .u32 (wi sb), .int .u32 (wi sc), .int .u32 (wi sd), .int .u32 (wi se), .int .u32 (wi sf), .int .u32 (wi sg), .int .u32 (wi sh)], .slice A 64 c] w fun e w' => ∃ t : St, t = turnV ⟨sa, sb, sc, sd, se, sf, sg, sh⟩ b ∧ e = .returned (.agg #[.int .u32 (wi t.a), .int .u32 (wi t.b), .int .u32 (wi t.c), .int .u32 (wi t.d), .int .u32 (wi t.e), .int .u32 (wi t.f), .int .u32 (wi t.g), .int .u32 (wi t.h)]) ∧ Below w.heap.size w w' :=
  (turn_calls ⟨sa, sb, sc, sd, se, sf, sg, sh⟩ A c b w hb hbl hc hby hL).mono fun e w' ⟨he, h⟩ => ⟨_, rfl, he, h⟩

def WroteTo (w : World) (B g : Nat) (v : Value) (s : St) (r : List Int) (n : Int) (e : Ending) (w' : World) : Prop :=
  e = .returned (.tuple #[]) ∧ ∃ v', HashAt w' B g v' s r n ∧ (v'.ownBlock = v.ownBlock ∨ ∃ b, v'.ownBlock = some b ∧ w.heap.size ≤ b) ∧ Kept w w' (HTouch g v) ∧ Below B w w'
def HLoop (w : World) (B g : Nat) (v : Value) (s0 : St) (r0 : List Int) (n : Int) (k : Nat) (wr : World) : Prop :=
  ∃ (v1 : Value) (s : St) (r : List Int), HashAt wr B g v1 s r n ∧ absorb s r = absorb s0 r0 ∧ r.length ≤ k ∧ (∀ x ∈ r, 0 ≤ x ∧ x < 256) ∧ (v1.ownBlock = v.ownBlock ∨ ∃ b, v1.ownBlock = some b ∧ w.heap.size ≤ b) ∧ Kept w wr (HTouch g v) ∧ Below B w wr
set_option maxHeartbeats 4000000 in
set_option maxRecDepth 100000 in
theorem write_calls (B g : Nat) (v : Value) (s : St) (r : List Int) (n : Int) (A : Option Addr) (m c : Nat) (l : List Int) (w : World) (hH : HashAt w B g v s r n) (hB : B ≤ w.heap.size) (hl : Kd.C (Kd.int .u8) w A m l)
    (hby : ∀ x ∈ r ++ l, 0 ≤ x ∧ x < 256) (hlen : r.length + m ≤ 140737488355328) (hn0 : 0 ≤ n) (hn : n + m ≤ 9223372036854775807) (hg : 1 < B) (hL : LaidAt w 1 constA) :
    Calls Tryd.prog 24 #[.pointer (some ⟨g, 0, none⟩), .slice A m c] w (WroteTo w B g v (absorb s (r ++ l)).1 (absorb s (r ++ l)).2 (n + m)) := by
  have HH := Aside0.mk hH
  have HB := Aside0.mk hB
  have HC := Aside0.mk hl
  have HBy := Aside0.mk hby
  have HLen := Aside0.mk hlen
  have HL := Aside0.mk hL
  have HG := Aside0.mk hg
  have h9 : w.cell? ⟨g, 9, none⟩ = some (.int .i64 n) := blk_cell hH.2.1 9
  have h8 : w.cell? ⟨g, 8, none⟩ = some v := blk_cell hH.2.1 8
  have f9 : w.frozen? ⟨g, 9, none⟩ = false := blk_frozen hH.2.1 9
  have f8 : w.frozen? ⟨g, 8, none⟩ = false := blk_frozen hH.2.1 8
  obtain ⟨Av, cv, rfl, hcv⟩ := Kd.Q_slice hH.2.2
  clear hH hB hl hby hlen hg hL
  go_enter Tryd.func24, Tryd.ntmps24
  go_wp2
  go_step3
  have HB0 : Aside0 (Below B w (w.setCell ⟨g, 9, none⟩ (.int .i64 (n + m)))) := ⟨(Below.refl _ _).setCell HH.out.1 _⟩
  have HK0 : Aside0 (Kept w (w.setCell ⟨g, 9, none⟩ (.int .i64 (n + m))) (HTouch g (.slice Av r.length cv))) := ⟨(Kept.refl _ _).setCell (.inl (.inl rfl)) _⟩
  have HH0 := Aside0.mk (HH.out.setN (n + m))
  have HC0 := Aside0.mk (C_far HH.out.2.1 (not_u8 s Av r.length cv n) HC.out 9 (.int .i64 (n + m)))
  go_wp2_with (at_builtin; refine append_q (w0 := w) (W := w.setCell ⟨g, 9, none⟩ (.int .i64 (n + m))) B rfl (.tmp 19) (.tmp 20) 38 5 .u8 1 rfl Tryd.underlying38 info_u8 (by decide) (.slice Av r.length cv) r l A m c rfl rfl HH0.out.2.2 HC0.out HB0.out (by rw [World.size_setCell]; exact HB.out) (by have := HLen.out; omega) ?_; intro v1 w1 hq hb1 hg1 hat1; have HQ1 := Aside0.mk hq; have HB1 := Aside0.mk hb1; have HG1 := Aside0.mk hg1; have HA1 := Aside0.mk hat1; clear hq hb1 hg1 hat1; obtain ⟨A1, c1, rfl, hc1⟩ := Kd.Q_slice HQ1.out; have HLd := Aside0.mk (HH0.out.laid HG1.out HQ1.out); have h81 : w1.cell? ⟨g, 8, none⟩ = some (.slice Av r.length cv) := blk_cell HLd.out.1 8; have f81 : w1.frozen? ⟨g, 8, none⟩ = false := blk_frozen HLd.out.1 8)
  have HI : Aside0 (HLoop w B g (.slice Av r.length cv) s (r ++ l) (n + m) (r.length + l.length) (w1.setCell ⟨g, 8, none⟩ (.slice A1 (r.length + l.length) c1))) := ⟨by
    have e : (r ++ l).length = r.length + l.length := List.length_append
    have h2 := HLd.out.2
    have h3 := HA1.out
    rw [e] at h2 h3
    exact ⟨_, s, r ++ l, h2, rfl, Nat.le_of_eq e, HBy.out, h3.imp id (fun ⟨b, hb, hle⟩ => ⟨b, hb, by rw [World.size_setCell] at hle; exact hle⟩),
      ((HK0.out.of_grown HG1.out (fun k hk => .inl (.inr hk.symm))).setCell (.inl (.inl rfl)) _), HB1.out.setCell HH.out.1 _⟩⟩
  generalize w1.setCell ⟨g, 8, none⟩ (.slice A1 (r.length + l.length) c1) = w2 at *
  clear h9 h8 f9 f8 h81 f81 hc1 hcv
  clear HB0 HK0 HH0 HC0 HQ1 HB1 HG1 HA1 HLd HC
  go_step3
  go_wp2
  go_loopg [] (r.length + l.length) (fun k wr => Aside0 (HLoop w B g (.slice Av r.length cv) s (r ++ l) (n + m) k wr))
  case atStart => exact HI
  case round =>
    obtain ⟨v1, ⟨sa, sb, sc, sd, se, sf, sg, sh⟩, rl, hH1, he1, hk1, hby1, ho1, hK1, hB1⟩ := hrel.out
    clear hrel HI
    obtain ⟨A1, c1, rfl, hc1⟩ := Kd.Q_slice hH1.2.2
    have HH1 := Aside0.mk hH1
    have HE1 := Aside0.mk he1
    have HBy1 := Aside0.mk hby1
    have HO1 := Aside0.mk ho1
    have HK1 := Aside0.mk hK1
    have HB1 := Aside0.mk hB1
    have HLk := Aside0.mk hk1
    clear hH1 he1 hby1 ho1 hK1 hB1 hk1
    have hm1 : rl.length ≤ 9223372036854775807 := (Kd.Q_reads' HH1.out.2.2).2.2.2.1
    have h8 : wr.cell? ⟨g, 8, none⟩ = some (.slice A1 rl.length c1) := blk_cell HH1.out.2.1 8
    by_cases hlt : rl.length < 64
    · have HAb : Aside0 (absorb s (r ++ l) = (⟨sa, sb, sc, sd, se, sf, sg, sh⟩, rl)) := ⟨by rw [← HE1.out, absorb_lt hlt]⟩
      go_wp2
      rw [Exit.noGoto_normal]
      go_end0
      rw [HAb.out]
      exact ⟨rfl, _, HH1.out, HO1.out, HK1.out, HB1.out⟩
    · have h64 : 64 ≤ rl.length := by omega
      have hltD : decide ((rl.length : Int) < 64) = false := by simp; omega
      have h64I : (64 : Int) ≤ rl.length := by omega
      have hc64 : 64 ≤ c1 := by omega
      have hc64I : (64 : Int) ≤ c1 := by omega
      obtain ⟨ad, rfl, hx0'⟩ := int_at (Kd.Q_reads' HH1.out.2.2).2.2 0 (by omega)
      have HAb : Aside0 (absorb (turnV ⟨sa, sb, sc, sd, se, sf, sg, sh⟩ (rl.take 64)) (rl.drop 64) = absorb s (r ++ l)) := ⟨by rw [← HE1.out, absorb_ge hlt]⟩
      have HT : Aside0 ((rl.take 64).length = 64) := ⟨by rw [List.length_take]; omega⟩
      have HTb : Aside0 (∀ x ∈ rl.take 64, 0 ≤ x ∧ x < 256) := ⟨fun x hx => HBy1.out x (List.mem_of_mem_take hx)⟩
      have HDb : Aside0 (∀ x ∈ rl.drop 64, 0 ≤ x ∧ x < 256) := ⟨fun x hx => HBy1.out x (List.mem_of_mem_drop hx)⟩
      have HDl : Aside0 ((rl.drop 64).length = rl.length - 64) := ⟨List.length_drop⟩
      clear hx0' hlt
      have h0 : wr.cell? ⟨g, 0, none⟩ = some (.int .u32 (wi sa)) := blk_cell HH1.out.2.1 0
      have h1 : wr.cell? ⟨g, 1, none⟩ = some (.int .u32 (wi sb)) := blk_cell HH1.out.2.1 1
      have h2 : wr.cell? ⟨g, 2, none⟩ = some (.int .u32 (wi sc)) := blk_cell HH1.out.2.1 2
      have h3 : wr.cell? ⟨g, 3, none⟩ = some (.int .u32 (wi sd)) := blk_cell HH1.out.2.1 3
      have h4 : wr.cell? ⟨g, 4, none⟩ = some (.int .u32 (wi se)) := blk_cell HH1.out.2.1 4
      have h5 : wr.cell? ⟨g, 5, none⟩ = some (.int .u32 (wi sf)) := blk_cell HH1.out.2.1 5
      have h6 : wr.cell? ⟨g, 6, none⟩ = some (.int .u32 (wi sg)) := blk_cell HH1.out.2.1 6
      have h7 : wr.cell? ⟨g, 7, none⟩ = some (.int .u32 (wi sh)) := blk_cell HH1.out.2.1 7
      go_wp2
      have HC2 : Aside0 (∀ W : World, Kd.C (Kd.int .u8) wr.drew (some ad) (rl.take 64).length (rl.take 64)) := ⟨fun _ => by
        have h1 := (Kd.Q_reads' HH1.out.2.2).2.2
        have h2 := take_int 64 (by omega) h1
        rw [HT.out]
        exact Kd.C_drewN h2 1⟩
      have HLd : Aside0 (∀ W : World, LaidAt wr.drew 1 constA) := ⟨fun _ => by
        obtain ⟨t0, fr0, h1⟩ := HL.out
        exact ⟨t0, fr0, (HB1.out.block _ HG.out).trans h1⟩⟩
      refine start_ (n := 14) (S := fun w' => w'.cell? ⟨g, 0, none⟩ = some (.int .u32 (wi sa)) ∧ w'.cell? ⟨g, 1, none⟩ = some (.int .u32 (wi sb)) ∧ w'.cell? ⟨g, 2, none⟩ = some (.int .u32 (wi sc)) ∧ w'.cell? ⟨g, 3, none⟩ = some (.int .u32 (wi sd)) ∧ w'.cell? ⟨g, 4, none⟩ = some (.int .u32 (wi se)) ∧ w'.cell? ⟨g, 5, none⟩ = some (.int .u32 (wi sf)) ∧ w'.cell? ⟨g, 6, none⟩ = some (.int .u32 (wi sg)) ∧ w'.cell? ⟨g, 7, none⟩ = some (.int .u32 (wi sh)) ∧ w'.cell? ⟨g, 8, none⟩ = some (.slice (some ad) rl.length c1)) (ds := [13]) #[false, false, false, false, false, false, false, false, false, false, false, false, false, false] (by kernel_rfl) rfl rfl ⟨h0, h1, h2, h3, h4, h5, h6, h7, h8⟩ (fun hHeld => ?_)
      refine pure_ (i := 0) (N := some 30) (v := ?_) (a' := ?_) #[true, false, false, false, false, false, false, false, false, false, false, false, false, false] rfl rfl (by kernel_rfl) (fun _ _ _ h => h) (Or.inl ⟨by rfl, ?_⟩) ?_ ?_
      rotate_left
      · intro w'
        go_simp
        with_reducible rfl
      rotate_left
      · simp only [Act.put, List.setIfInBounds_toArray, List.set_cons_zero, List.set_cons_succ]
        rfl
      refine pure_ (i := 1) (N := some 31) (v := ?_) (a' := ?_) #[true, true, false, false, false, false, false, false, false, false, false, false, false, false] rfl rfl (by kernel_rfl) (fun _ _ _ h => h) (Or.inl ⟨by rfl, ?_⟩) ?_ ?_
      rotate_left
      · intro w'
        go_simp
        with_reducible rfl
      rotate_left
      · simp only [Act.put, List.setIfInBounds_toArray, List.set_cons_zero, List.set_cons_succ]
        rfl
      refine pure_ (i := 2) (N := some 32) (v := ?_) (a' := ?_) #[true, true, true, false, false, false, false, false, false, false, false, false, false, false] rfl rfl (by kernel_rfl) (fun _ _ _ h => h) (Or.inl ⟨by rfl, ?_⟩) ?_ ?_
      rotate_left
      · intro w'
        go_simp
        with_reducible rfl
      rotate_left
      · simp only [Act.put, List.setIfInBounds_toArray, List.set_cons_zero, List.set_cons_succ]
        rfl
      refine pure_ (i := 3) (N := some 33) (v := ?_) (a' := ?_) #[true, true, true, true, false, false, false, false, false, false, false, false, false, false] rfl rfl (by kernel_rfl) (fun _ _ _ h => h) (Or.inl ⟨by rfl, ?_⟩) ?_ ?_
      rotate_left
      · intro w'
        go_simp
        with_reducible rfl
      rotate_left
      · simp only [Act.put, List.setIfInBounds_toArray, List.set_cons_zero, List.set_cons_succ]
        rfl
      refine pure_ (i := 5) (N := some 35) (v := ?_) (a' := ?_) #[true, true, true, true, false, true, false, false, false, false, false, false, false, false] rfl rfl (by kernel_rfl) (fun _ _ _ h => h) (Or.inl ⟨by rfl, ?_⟩) ?_ ?_
      rotate_left
      · intro w'
        go_simp
        with_reducible rfl
      rotate_left
      · simp only [Act.put, List.setIfInBounds_toArray, List.set_cons_zero, List.set_cons_succ]
        rfl
      refine pure_ (i := 6) (N := some 36) (v := ?_) (a' := ?_) #[true, true, true, true, false, true, true, false, false, false, false, false, false, false] rfl rfl (by kernel_rfl) (fun _ _ _ h => h) (Or.inl ⟨by rfl, ?_⟩) ?_ ?_
      rotate_left
      · intro w'
        go_simp
        with_reducible rfl
      rotate_left
      · simp only [Act.put, List.setIfInBounds_toArray, List.set_cons_zero, List.set_cons_succ]
        rfl
      refine pure_ (i := 7) (N := some 37) (v := ?_) (a' := ?_) #[true, true, true, true, false, true, true, true, false, false, false, false, false, false] rfl rfl (by kernel_rfl) (fun _ _ _ h => h) (Or.inl ⟨by rfl, ?_⟩) ?_ ?_
      rotate_left
      · intro w'
        go_simp
        with_reducible rfl
      rotate_left
      · simp only [Act.put, List.setIfInBounds_toArray, List.set_cons_zero, List.set_cons_succ]
        rfl
      refine take_ (i := 4) (N := some 34) (v := ?_) (a' := ?_) #[true, true, true, true, true, true, true, true, false, false, false, false, false, false] rfl rfl (by kernel_rfl) (fun _ _ _ h => h) (Or.inl ⟨by rfl, ?_⟩) hHeld ?_ ?_
      rotate_left
      · rintro w' ⟨s0, s1, s2, s3, s4, s5, s6, s7, s8⟩
        go_simp
        with_reducible rfl
      rotate_left
      · simp only [Act.put, List.setIfInBounds_toArray, List.set_cons_zero, List.set_cons_succ]
        rfl
      refine take_ (i := 8) (N := some 38) (v := ?_) (a' := ?_) #[true, true, true, true, true, true, true, true, true, false, false, false, false, false] rfl rfl (by kernel_rfl) (fun _ _ _ h => h) (Or.inl ⟨by rfl, ?_⟩) hHeld ?_ ?_
      rotate_left
      · rintro w' ⟨s0, s1, s2, s3, s4, s5, s6, s7, s8⟩
        go_simp
        with_reducible rfl
      rotate_left
      · simp only [Act.put, List.setIfInBounds_toArray, List.set_cons_zero, List.set_cons_succ]
        rfl
      refine pure_ (i := 9) (N := some 39) (v := ?_) (a' := ?_) #[true, true, true, true, true, true, true, true, true, true, false, false, false, false] rfl rfl (by kernel_rfl) (fun _ _ _ h => h) (Or.inl ⟨by rfl, ?_⟩) ?_ ?_
      rotate_left
      · intro w'
        go_simp
        with_reducible rfl
      rotate_left
      · simp only [Act.put, List.setIfInBounds_toArray, List.set_cons_zero, List.set_cons_succ]
        rfl
      refine one_ (i := 10) (N := some 40) #[true, true, true, true, true, true, true, true, true, true, true, false, false, false] rfl rfl (by kernel_rfl) (by decide) (fun K hK => ?_)
      refine goes_ Tryd.func33 (by kernel_rfl) rfl #[.agg #[.int .u32 (wi sa), .int .u32 (wi sb), .int .u32 (wi sc), .int .u32 (wi sd), .int .u32 (wi se), .int .u32 (wi sf), .int .u32 (wi sg), .int .u32 (wi sh)], .slice (some ad) 64 64] (by rfl) rfl rfl (by simp only [List.map_toArray, List.map_cons, List.map_nil]; rfl) ?_
      with_reducible refine (turn_lit sa sb sc sd se sf sg sh (some ad) 64 (rl.take 64) _ (HC2.out wr) HT.out (by decide) HTb.out (HLd.out wr)).mono ?_
      rintro e w3 ⟨t, ht, rfl, hb⟩
      refine ⟨_, rfl, ?_⟩
      have HH3 : Aside0 (HashAt w3 B g (.slice (some ad) rl.length c1) ⟨sa, sb, sc, sd, se, sf, sg, sh⟩ rl (n + m)) := ⟨(HH1.out.below (pw_below_drewN (Below.refl _ _) 1)).below hb⟩
      have HB3 := Aside0.mk hb
      have HTt := Aside0.mk ht
      clear hb ht
      have f0 : w3.frozen? ⟨g, 0, none⟩ = false := blk_frozen HH3.out.2.1 0
      have f1 : w3.frozen? ⟨g, 1, none⟩ = false := blk_frozen HH3.out.2.1 1
      have f2 : w3.frozen? ⟨g, 2, none⟩ = false := blk_frozen HH3.out.2.1 2
      have f3 : w3.frozen? ⟨g, 3, none⟩ = false := blk_frozen HH3.out.2.1 3
      have f4 : w3.frozen? ⟨g, 4, none⟩ = false := blk_frozen HH3.out.2.1 4
      have f5 : w3.frozen? ⟨g, 5, none⟩ = false := blk_frozen HH3.out.2.1 5
      have f6 : w3.frozen? ⟨g, 6, none⟩ = false := blk_frozen HH3.out.2.1 6
      have f7 : w3.frozen? ⟨g, 7, none⟩ = false := blk_frozen HH3.out.2.1 7
      have f8 : w3.frozen? ⟨g, 8, none⟩ = false := blk_frozen HH3.out.2.1 8
      have g0 : w3.cell? ⟨g, 0, none⟩ = some (.int .u32 (wi sa)) := blk_cell HH3.out.2.1 0
      have g1 : w3.cell? ⟨g, 1, none⟩ = some (.int .u32 (wi sb)) := blk_cell HH3.out.2.1 1
      have g2 : w3.cell? ⟨g, 2, none⟩ = some (.int .u32 (wi sc)) := blk_cell HH3.out.2.1 2
      have g3 : w3.cell? ⟨g, 3, none⟩ = some (.int .u32 (wi sd)) := blk_cell HH3.out.2.1 3
      have g4 : w3.cell? ⟨g, 4, none⟩ = some (.int .u32 (wi se)) := blk_cell HH3.out.2.1 4
      have g5 : w3.cell? ⟨g, 5, none⟩ = some (.int .u32 (wi sf)) := blk_cell HH3.out.2.1 5
      have g6 : w3.cell? ⟨g, 6, none⟩ = some (.int .u32 (wi sg)) := blk_cell HH3.out.2.1 6
      have g7 : w3.cell? ⟨g, 7, none⟩ = some (.int .u32 (wi sh)) := blk_cell HH3.out.2.1 7
      have g8 : w3.cell? ⟨g, 8, none⟩ = some (.slice (some ad) rl.length c1) := blk_cell HH3.out.2.1 8
      refine hK.out _ _ ⟨g0, g1, g2, g3, g4, g5, g6, g7, g8⟩ (fun hHeld => ?_)
      clear hK K
      refine norm_ (a' := ?_) ?_ ?_
      rotate_left
      · show Act.put _ (some 40) _ = _
        simp only [Act.put, List.setIfInBounds_toArray, List.set_cons_zero, List.set_cons_succ]
        rfl
      refine pure_ (i := 11) (N := some 41) (v := ?_) (a' := ?_) #[true, true, true, true, true, true, true, true, true, true, true, true, false, false] rfl rfl (by kernel_rfl) (fun _ _ _ h => h) (Or.inl ⟨by rfl, ?_⟩) ?_ ?_
      rotate_left
      · intro w'
        go_simp
        with_reducible rfl
      rotate_left
      · simp only [Act.put, List.setIfInBounds_toArray, List.set_cons_zero, List.set_cons_succ]
        rfl
      refine pure_ (i := 12) (N := some 42) (v := ?_) (a' := ?_) #[true, true, true, true, true, true, true, true, true, true, true, true, true, false] rfl rfl (by kernel_rfl) (fun _ _ _ h => h) (Or.inl ⟨by rfl, ?_⟩) ?_ ?_
      rotate_left
      · intro w'
        go_simp
        with_reducible rfl
      rotate_left
      · simp only [Act.put, List.setIfInBounds_toArray, List.set_cons_zero, List.set_cons_succ]
        rfl
      refine last_ (i := 13) (N := none) #[true, true, true, true, true, true, true, true, true, true, true, true, true, true] rfl rfl (by kernel_rfl) (by decide) (fun K hK => ?_)
      refine skip_ (w1 := ?_) (by rfl) rfl ?_ ?_
      rotate_left
      · go_simp
        rfl
      refine hK.out _ _ ?_
      clear hK K
      refine done_ (by kernel_rfl) ?_
      have HH4 := Aside0.mk (HH3.out.setS t)
      have HK4 := Aside0.mk (HTouch.kept8 ((HK1.out.drewN 1).below HB3.out) (.int .u32 (wi t.a)) (.int .u32 (wi t.b)) (.int .u32 (wi t.c)) (.int .u32 (wi t.d)) (.int .u32 (wi t.e)) (.int .u32 (wi t.f)) (.int .u32 (wi t.g)) (.int .u32 (wi t.h)))
      have HB4 := Aside0.mk (below8 HH3.out.1 (below_then (pw_below_drewN HB1.out 1) (Nat.le_trans HB.out HK1.out.1) HB3.out) (.int .u32 (wi t.a)) (.int .u32 (wi t.b)) (.int .u32 (wi t.c)) (.int .u32 (wi t.d)) (.int .u32 (wi t.e)) (.int .u32 (wi t.f)) (.int .u32 (wi t.g)) (.int .u32 (wi t.h)))
      clear h0 h1 h2 h3 h4 h5 h6 h7 h8 g0 g1 g2 g3 g4 g5 g6 g7 g8 f0 f1 f2 f3 f4 f5 f6 f7 f8 hHeld
      generalize ((((((((w3.setCell ⟨g, 0, none⟩ (.int .u32 (wi t.a))).setCell ⟨g, 1, none⟩ (.int .u32 (wi t.b))).setCell ⟨g, 2, none⟩ (.int .u32 (wi t.c))).setCell ⟨g, 3, none⟩ (.int .u32 (wi t.d))).setCell ⟨g, 4, none⟩ (.int .u32 (wi t.e))).setCell ⟨g, 5, none⟩ (.int .u32 (wi t.f))).setCell ⟨g, 6, none⟩ (.int .u32 (wi t.g))).setCell ⟨g, 7, none⟩ (.int .u32 (wi t.h))) = w4 at *
      have h8 : w4.cell? ⟨g, 8, none⟩ = some (.slice (some ad) rl.length c1) := blk_cell HH4.out.2.1 8
      have f8 : w4.frozen? ⟨g, 8, none⟩ = false := blk_frozen HH4.out.2.1 8
      have hcut : ∀ W : World, (Instr.slice 38 (.slice (some ad) rl.length c1) (some (.int .i64 64)) none none).run Tryd.prog W = .ok (.slice (if c1 = 64 then (some ad) else (some ad).map (·.add 64)) (rl.length - 64) (c1 - 64)) W := fun W => run_cut 38 5 Tryd.underlying38 info_u8 (some ad) rl.length c1 64 h64 W
      have HH5 := Aside0.mk (HH4.out.cut 64 h64)
      obtain ⟨A5, hA5⟩ : ∃ A5, A5 = (if c1 = 64 then (some ad) else (some ad).map (·.add 64)) := ⟨_, rfl⟩
      rw [← hA5] at hcut HH5
      have hO5 : Aside0 ((Value.slice A5 (rl.length - 64) (c1 - 64)).ownBlock = (Value.slice (some ad) rl.length c1).ownBlock) := ⟨by
        rw [hA5]
        split
        · simp [Value.ownBlock]
        · simp [Value.ownBlock, Addr.add]⟩
      clear hA5
      go_wp2
      go_roundg (rl.length - 64)
      case measure => have := HLk.out; omega
      case rel => exact ⟨⟨_, t, rl.drop 64, HH5.out, by rw [HTt.out]; exact HAb.out, by rw [HDl.out]; exact Nat.le_refl _, HDb.out, by rw [hO5.out]; exact HO1.out, HK4.out.setCell (.inl (.inl rfl)) _, HB4.out.setCell HH4.out.1 _⟩⟩
end Go.Proofs.YtpdficnjjmapmaaDoorRRR.Sha
namespace Go.Proofs.YtpdficnjjmapmaaDoorRRR.Clone
open Go.RowKit Go.Proofs.YtpdficnjjmapmaaDoorRRRW.PrintWords Go.Proofs.YtpdficnjjmapmaaDoorRRRW.PrintLast Go.Proofs.YtpdficnjjmapmaaDoorRRRW.PrintMore Go.Proofs.YtpdficnjjmapmaaDoorRRR.K
theorem info_u8 : (Tryd.prog.info? 5).map (fun i => (i.zero, i.size, i.bytes)) = some (some (.int .u8 0), 1, 1) := by kernel_rfl
set_option maxHeartbeats 400000 in
theorem clone_calls (A : Option Addr) (n c : Nat) (l : List Int) (w : World) (hr0 : Kd.C (Kd.int .u8) w A n l) (hb : n ≤ 140737488355328) :
    Calls Tryd.prog 34 #[.slice A n c] w fun e w' => ∃ v0_ : Value, e = .returned (v0_) ∧ Kd.R (Kd.int .u8) 5 w' w.heap.size (fun _ => True) v0_ l ∧ Below w.heap.size w w' := by
  have HR0 := Aside0.mk (reads_int hr0)
  have HN := Aside0.mk (C_len hr0)
  have HL := Aside0.mk hb
  clear hr0 hb
  cases A with
  | none =>
    have h0 : l = [] := by
      have h1 := HR0.out
      have h2 := HN.out
      rcases Nat.eq_zero_or_pos n with h | h
      · exact List.eq_nil_of_length_eq_zero (by omega)
      · obtain ⟨_, h3, _⟩ := h1.2.2 h
        cases h3
    subst h0
    have hnil := fun (w : World) => Lib.run_eql_slice_nil (P := Tryd.prog) w 38 5 none n c 0 0 Tryd.underlying38
    go_enter Tryd.func34, Tryd.ntmps34
    go_wp2
    go_ret
    exact ⟨_, rfl, R_int (own_nil _ _ _ _), Below.refl _ _⟩
  | some a =>
    have hnil := fun (w : World) => Lib.run_eql_slice_nil (P := Tryd.prog) w 38 5 (some a) n c 0 0 Tryd.underlying38
    go_enter Tryd.func34, Tryd.ntmps34
    go_wp2_with (at_builtin; refine print_append_row (w0 := w) w.heap.size rfl (.tmp 5) (.tmp 6) 38 5 .u8 1 rfl Tryd.underlying38 info_u8 (by decide) (.slice (some ⟨w.heap.size, 0, none⟩) 0 0) [] l (some a) n c rfl rfl (own_lit w w.heap.size 5 .u8 [] (Nat.le_refl _) (by decide)) ((HR0.out).below (bel_alloc (Below.refl _ _) _)) (bel_alloc (Below.refl _ _) _) (bel_size (Below.refl _ _) _) (by have := HL.out; simp; omega) ?_; intro v1 w1 ho hb hg hat; have HO1 := Aside0.mk ho; have HB1 := Aside0.mk hb; clear ho hb hg hat)
    go_ret
    exact ⟨_, rfl, R_int (by simpa using HO1.out), HB1.out⟩
end Go.Proofs.YtpdficnjjmapmaaDoorRRR.Clone
namespace Go.Proofs.YtpdficnjjmapmaaDoorRRR.Sha
open Go.RowKit Go.Proofs.YtpdficnjjmapmaaDoorRRRW.PrintWords Go.Proofs.YtpdficnjjmapmaaDoorRRRW.PrintLast Go.Proofs.YtpdficnjjmapmaaDoorRRRW.PrintMore Go.Proofs.YtpdficnjjmapmaaDoorRRR.K
set_option linter.unusedVariables false
def firstA : Array Value := sArr init.l
theorem firstA_lit : firstA = #[.int .u32 (wi init.a), .int .u32 (wi init.b), .int .u32 (wi init.c), .int .u32 (wi init.d), .int .u32 (wi init.e), .int .u32 (wi init.f), .int .u32 (wi init.g), .int .u32 (wi init.h)] := rfl
set_option maxHeartbeats 1000000 in
theorem new_calls (w : World) (hL : LaidAt w 0 firstA) :
    Calls Tryd.prog 23 #[] w fun e w' => e = .returned (.pointer (some ⟨w.heap.size, 0, none⟩)) ∧ w' = w.alloc (.cells (hCells init (.slice none 0 0) 0) 63) := by
  obtain ⟨lt, lfr, hblk⟩ := hL
  rw [firstA_lit] at hblk
  have HBk := Aside0.mk hblk
  unfold hCells
  clear hblk
  generalize wi init.a = a at *
  generalize wi init.b = b at *
  generalize wi init.c = c at *
  generalize wi init.d = d at *
  generalize wi init.e = e at *
  generalize wi init.f = f at *
  generalize wi init.g = g at *
  generalize wi init.h = h at *
  go_enter Tryd.func23, Tryd.ntmps23
  go_wp2_with (with_reducible refine wpList_load_row rfl 61 (.global 0) rfl 0 rfl lt _ lfr _ HBk.out Tryd.underlying61 rfl (by kernel_rfl) ?_)
  go_ret
  exact ⟨rfl, rfl⟩
theorem HashAt.new (w : World) (B : Nat) (hB : B ≤ w.heap.size) : HashAt (w.alloc (.cells (hCells init (.slice none 0 0) 0) 63)) B w.heap.size (.slice none 0 0) init [] 0 :=
  ⟨hB, heap_alloc_new _ _, Kd.Q_nil _ _ _ _ _⟩
set_option maxHeartbeats 1000000 in
theorem write_nil_calls (A : Option Addr) (m c : Nat) (w : World) :
    Calls Tryd.prog 24 #[.pointer none, .slice A m c] w fun e w' => e = .returned (.tuple #[]) ∧ w = w' := by
  go_enter Tryd.func24, Tryd.ntmps24
  go_wp2
  go_step3
  go_wp2

  rw [Exit.noGoto_ret]
  refine bodyPost_ret (results_none rfl _ _ _) rfl ?_
  exact ⟨rfl, rfl⟩
end Go.Proofs.YtpdficnjjmapmaaDoorRRR.Sha
namespace Go.Proofs.YtpdficnjjmapmaaDoorRRR.Sha
open Go.RowKit Go.Proofs.YtpdficnjjmapmaaDoorRRRW.PrintWords Go.Proofs.YtpdficnjjmapmaaDoorRRRW.PrintLast Go.Proofs.YtpdficnjjmapmaaDoorRRRW.PrintMore Go.Proofs.YtpdficnjjmapmaaDoorRRR.K
set_option linter.unusedVariables false
theorem be8_byte (q : Int) : ∀ x ∈ be8 q, 0 ≤ x ∧ x < 256 := by
  intro x hx
  simp only [be8, List.mem_cons, List.not_mem_nil, or_false] at hx
  rcases hx with rfl | rfl | rfl | rfl | rfl | rfl | rfl | rfl <;> omega
def dA (d : List Int) : Array Value := (nums .u8 d).toArray
theorem dA_size (d : List Int) : (dA d).size = d.length := by simp [dA, nums]
theorem dA_one (d : List Int) : (dA d).all (·.oneCell') = true := by
  rw [Array.all_eq_true_iff_forall_mem]
  intro v hv
  simp only [dA, nums, List.mem_toArray, List.mem_map] at hv
  obtain ⟨x, _, rfl⟩ := hv
  rfl
theorem dA_get (d : List Int) (i : Nat) (h : i < d.length) : (dA d)[i]? = some (.int .u8 (d.getD i 0)) := by
  simp [dA, nums, List.getElem?_eq_getElem h, List.getD_eq_getElem?_getD]
theorem dA_set (d : List Int) (i : Nat) (x : Int) : (dA d).setIfInBounds i (.int .u8 x) = dA (d.set i x) := by
  apply Array.ext'
  simp [dA, nums, List.map_set]
/-- The digest's byte j. -/
def db (s : St) (j : Nat) : Int := (be4 (s.l.getD (j / 4) 0).toNat).getD (j % 4) 0
def digP (s : St) (i : Nat) : List Int := (List.range 32).map fun j => if j < 4 * i then db s j else 0
theorem digP_end (s : St) : digP s 8 = digL s := rfl
theorem digP_length (s : St) (i : Nat) : (digP s i).length = 32 := by simp [digP]
theorem db_at (s : St) (i k : Nat) (hk : k < 4) : db s (4 * i + k) = (be4 (s.l.getD i 0).toNat).getD k 0 := by
  unfold db
  rw [show (4 * i + k) / 4 = i by omega, show (4 * i + k) % 4 = k by omega]
theorem digP_step (s : St) (i : Nat) (hi : i < 8) :
    ((((digP s i).set (4 * i) (wi (s.l.getD i 0) / 16777216 % 256)).set (4 * i + 1) (wi (s.l.getD i 0) / 65536 % 256)).set (4 * i + 2) (wi (s.l.getD i 0) / 256 % 256)).set (4 * i + 3) (wi (s.l.getD i 0) % 256) = digP s (i + 1) := by
  have e0 : db s (4 * i) = wi (s.l.getD i 0) / 16777216 % 256 := db_at s i 0 (by decide)
  have e1 : db s (4 * i + 1) = wi (s.l.getD i 0) / 65536 % 256 := db_at s i 1 (by decide)
  have e2 : db s (4 * i + 2) = wi (s.l.getD i 0) / 256 % 256 := db_at s i 2 (by decide)
  have e3 : db s (4 * i + 3) = wi (s.l.getD i 0) % 256 := db_at s i 3 (by decide)
  rw [← e0, ← e1, ← e2, ← e3]
  refine List.ext_getElem (by simp [digP]) fun j h1 h2 => ?_
  simp only [digP, List.getElem_set, List.getElem_map, List.getElem_range]
  by_cases h3 : 4 * i + 3 = j
  · subst h3
    rw [if_pos rfl, if_pos (by omega)]
  · rw [if_neg h3]
    by_cases h4 : 4 * i + 2 = j
    · subst h4
      rw [if_pos rfl, if_pos (by omega)]
    · rw [if_neg h4]
      by_cases h5 : 4 * i + 1 = j
      · subst h5
        rw [if_pos rfl, if_pos (by omega)]
      · rw [if_neg h5]
        by_cases h6 : 4 * i = j
        · subst h6
          rw [if_pos rfl, if_pos (by omega)]
        · rw [if_neg h6]
          by_cases h7 : j < 4 * i
          · rw [if_pos h7, if_pos (by omega)]
          · rw [if_neg h7, if_neg (by omega)]
/-- The digest's block (go), being filled; the result's block. -/
def OutL (w : World) (z : Array Value) (go : Nat) (d : List Int) (wr : World) : Prop :=
  wr.heap[go]? = some (.cells (dA d) 23 (0, 0)) ∧ wr.heap[w.heap.size]? = some (.cells z 23 (0, 0)) ∧ Below w.heap.size w wr ∧ w.heap.size < go
theorem OutL.set {w : World} {z : Array Value} {go : Nat} {d : List Int} {wr : World} (h : OutL w z go d wr) (j : Nat) (x : Int) : OutL w z go (d.set j x) (wr.setCell ⟨go, j, none⟩ (.int .u8 x)) :=
  ⟨by rw [← dA_set]; exact blk_set h.1 j _, blk_far h.2.1 (by have := h.2.2.2; show w.heap.size ≠ go; omega) _, h.2.2.1.setCell (Nat.le_of_lt h.2.2.2) _, h.2.2.2⟩
def OutW (w : World) (z : Array Value) (go : Nat) (s : St) (i : Nat) (wr : World) : Prop := OutL w z go (digP s i) wr
theorem OutW.cell {w : World} {z : Array Value} {go : Nat} {s : St} {i : Nat} {wr : World} (h : OutW w z go s i wr) (j : Nat) (hj : j < 32) : wr.cell? ⟨go, j, none⟩ = some (.int .u8 ((digP s i).getD j 0)) :=
  (blk_cell h.1 j).trans (dA_get _ _ (by rw [digP_length]; exact hj))
theorem OutW.set {w : World} {z : Array Value} {go : Nat} {s : St} {i : Nat} {wr : World} (h : OutW w z go s i wr) (j : Nat) (x : Int) : OutL w z go ((digP s i).set j x) (wr.setCell ⟨go, j, none⟩ (.int .u8 x)) := OutL.set h j x
set_option maxHeartbeats 4000000 in
set_option maxRecDepth 100000 in
theorem hsum_calls (B g : Nat) (v : Value) (s : St) (r : List Int) (n : Nat) (w : World) (hH : HashAt w B g v s r n) (hB : B ≤ w.heap.size) (hby : ∀ x ∈ r, 0 ≤ x ∧ x < 256) (hr : r.length < 64) (hrn : r.length = n % 64) (hn : n ≤ 1125899906842624)
    (hg : 1 < B) (hL : LaidAt w 1 constA) :
    Calls Tryd.prog 25 #[.pointer (some ⟨g, 0, none⟩)] w fun e w' => e = .returned (.agg (dA (sumOf s r n))) ∧ Below w.heap.size w w' := by
  have HH0 := Aside0.mk hH
  have HB := Aside0.mk hB
  have HBy := Aside0.mk hby
  have HR64 := Aside0.mk hr
  have HRn := Aside0.mk hrn
  have HN := Aside0.mk hn
  have HG := Aside0.mk hg
  have HL := Aside0.mk hL
  obtain ⟨Av, cv, rfl, hcv⟩ := Kd.Q_slice hH.2.2
  obtain ⟨sa, sb, sc, sd, se, sf, sg, sh⟩ := s
  clear hH hB hby hrn hg hL hcv
  go_enter Tryd.func25, Tryd.ntmps25
  go_wp2
  obtain ⟨z32, hz⟩ : ∃ z : Array Value, z = (nums .u8 (List.replicate 32 0)).toArray := ⟨_, rfl⟩
  have HW1 : Aside0 (∃ w1, w1 = w.alloc (.cells z32 23)) := ⟨_, rfl⟩
  obtain ⟨w1, hw1⟩ := HW1.out
  clear HW1
  rw [show (w.alloc (.cells #[.int .u8 0, .int .u8 0, .int .u8 0, .int .u8 0, .int .u8 0, .int .u8 0, .int .u8 0, .int .u8 0, .int .u8 0, .int .u8 0, .int .u8 0, .int .u8 0, .int .u8 0, .int .u8 0, .int .u8 0, .int .u8 0, .int .u8 0, .int .u8 0, .int .u8 0, .int .u8 0, .int .u8 0, .int .u8 0, .int .u8 0, .int .u8 0, .int .u8 0, .int .u8 0, .int .u8 0, .int .u8 0, .int .u8 0, .int .u8 0, .int .u8 0, .int .u8 0] 23)) = w1 by rw [hw1, hz]; rfl]
  have HH : Aside0 (HashAt w1 B g (.slice Av r.length cv) ⟨sa, sb, sc, sd, se, sf, sg, sh⟩ r n) := ⟨by rw [hw1]; exact HH0.out.below (bel_alloc (Below.refl _ _) _)⟩
  have HB1 : Aside0 (Below w.heap.size w w1) := ⟨by rw [hw1]; exact bel_alloc (Below.refl _ _) _⟩
  have HR1 : Aside0 (w1.heap[w.heap.size]? = some (.cells z32 23 (0, 0))) := ⟨by rw [hw1]; exact heap_alloc_new _ _⟩
  have HS1 : Aside0 (w1.heap.size = w.heap.size + 1) := ⟨by rw [hw1, World.size_alloc]⟩
  have HZ := Aside0.mk hz
  clear hw1 hz HH0
  have HC : Aside0 (Kd.C (Kd.int .u8) w1.drew Av r.length r) := ⟨Kd.C_drewN (Kd.Q_reads' HH.out.2.2).2.2 1⟩
  have h0 : w1.cell? ⟨g, 0, none⟩ = some (.int .u32 (wi sa)) := blk_cell HH.out.2.1 0
  have h1 : w1.cell? ⟨g, 1, none⟩ = some (.int .u32 (wi sb)) := blk_cell HH.out.2.1 1
  have h2 : w1.cell? ⟨g, 2, none⟩ = some (.int .u32 (wi sc)) := blk_cell HH.out.2.1 2
  have h3 : w1.cell? ⟨g, 3, none⟩ = some (.int .u32 (wi sd)) := blk_cell HH.out.2.1 3
  have h4 : w1.cell? ⟨g, 4, none⟩ = some (.int .u32 (wi se)) := blk_cell HH.out.2.1 4
  have h5 : w1.cell? ⟨g, 5, none⟩ = some (.int .u32 (wi sf)) := blk_cell HH.out.2.1 5
  have h6 : w1.cell? ⟨g, 6, none⟩ = some (.int .u32 (wi sg)) := blk_cell HH.out.2.1 6
  have h7 : w1.cell? ⟨g, 7, none⟩ = some (.int .u32 (wi sh)) := blk_cell HH.out.2.1 7
  have h8 : w1.cell? ⟨g, 8, none⟩ = some (.slice Av r.length cv) := blk_cell HH.out.2.1 8
  go_wp2
  refine start_ (n := 12) (S := fun w' => w'.cell? ⟨g, 0, none⟩ = some (.int .u32 (wi sa)) ∧ w'.cell? ⟨g, 1, none⟩ = some (.int .u32 (wi sb)) ∧ w'.cell? ⟨g, 2, none⟩ = some (.int .u32 (wi sc)) ∧ w'.cell? ⟨g, 3, none⟩ = some (.int .u32 (wi sd)) ∧ w'.cell? ⟨g, 4, none⟩ = some (.int .u32 (wi se)) ∧ w'.cell? ⟨g, 5, none⟩ = some (.int .u32 (wi sf)) ∧ w'.cell? ⟨g, 6, none⟩ = some (.int .u32 (wi sg)) ∧ w'.cell? ⟨g, 7, none⟩ = some (.int .u32 (wi sh)) ∧ w'.cell? ⟨g, 8, none⟩ = some (.slice Av r.length cv)) (ds := []) #[false, false, false, false, false, false, false, false, false, false, false, false] (by kernel_rfl) rfl rfl ⟨h0, h1, h2, h3, h4, h5, h6, h7, h8⟩ (fun hHeld => ?_)
  refine pure_ (i := 0) (N := some 15) (v := ?_) (a' := ?_) #[true, false, false, false, false, false, false, false, false, false, false, false] rfl rfl (by kernel_rfl) (fun _ _ _ h => h) (Or.inl ⟨by rfl, ?_⟩) ?_ ?_
  rotate_left
  · intro w'
    go_simp
    with_reducible rfl
  rotate_left
  · simp only [Act.put, List.setIfInBounds_toArray, List.set_cons_zero, List.set_cons_succ]
    rfl
  refine pure_ (i := 1) (N := some 16) (v := ?_) (a' := ?_) #[true, true, false, false, false, false, false, false, false, false, false, false] rfl rfl (by kernel_rfl) (fun _ _ _ h => h) (Or.inl ⟨by rfl, ?_⟩) ?_ ?_
  rotate_left
  · intro w'
    go_simp
    with_reducible rfl
  rotate_left
  · simp only [Act.put, List.setIfInBounds_toArray, List.set_cons_zero, List.set_cons_succ]
    rfl
  refine pure_ (i := 2) (N := some 17) (v := ?_) (a' := ?_) #[true, true, true, false, false, false, false, false, false, false, false, false] rfl rfl (by kernel_rfl) (fun _ _ _ h => h) (Or.inl ⟨by rfl, ?_⟩) ?_ ?_
  rotate_left
  · intro w'
    go_simp
    with_reducible rfl
  rotate_left
  · simp only [Act.put, List.setIfInBounds_toArray, List.set_cons_zero, List.set_cons_succ]
    rfl
  refine pure_ (i := 4) (N := some 19) (v := ?_) (a' := ?_) #[true, true, true, false, true, false, false, false, false, false, false, false] rfl rfl (by kernel_rfl) (fun _ _ _ h => h) (Or.inl ⟨by rfl, ?_⟩) ?_ ?_
  rotate_left
  · intro w'
    go_simp
    with_reducible rfl
  rotate_left
  · simp only [Act.put, List.setIfInBounds_toArray, List.set_cons_zero, List.set_cons_succ]
    rfl
  refine pure_ (i := 5) (N := some 20) (v := ?_) (a' := ?_) #[true, true, true, false, true, true, false, false, false, false, false, false] rfl rfl (by kernel_rfl) (fun _ _ _ h => h) (Or.inl ⟨by rfl, ?_⟩) ?_ ?_
  rotate_left
  · intro w'
    go_simp
    with_reducible rfl
  rotate_left
  · simp only [Act.put, List.setIfInBounds_toArray, List.set_cons_zero, List.set_cons_succ]
    rfl
  refine pure_ (i := 6) (N := some 21) (v := ?_) (a' := ?_) #[true, true, true, false, true, true, true, false, false, false, false, false] rfl rfl (by kernel_rfl) (fun _ _ _ h => h) (Or.inl ⟨by rfl, ?_⟩) ?_ ?_
  rotate_left
  · intro w'
    go_simp
    with_reducible rfl
  rotate_left
  · simp only [Act.put, List.setIfInBounds_toArray, List.set_cons_zero, List.set_cons_succ]
    rfl
  refine take_ (i := 3) (N := some 18) (v := ?_) (a' := ?_) #[true, true, true, true, true, true, true, false, false, false, false, false] rfl rfl (by kernel_rfl) (fun _ _ _ h => h) (Or.inl ⟨by rfl, ?_⟩) hHeld ?_ ?_
  rotate_left
  · rintro w' ⟨s0, s1, s2, s3, s4, s5, s6, s7, s8⟩
    go_simp
    with_reducible rfl
  rotate_left
  · simp only [Act.put, List.setIfInBounds_toArray, List.set_cons_zero, List.set_cons_succ]
    rfl
  refine take_ (i := 7) (N := some 22) (v := ?_) (a' := ?_) #[true, true, true, true, true, true, true, true, false, false, false, false] rfl rfl (by kernel_rfl) (fun _ _ _ h => h) (Or.inl ⟨by rfl, ?_⟩) hHeld ?_ ?_
  rotate_left
  · rintro w' ⟨s0, s1, s2, s3, s4, s5, s6, s7, s8⟩
    go_simp
    with_reducible rfl
  rotate_left
  · simp only [Act.put, List.setIfInBounds_toArray, List.set_cons_zero, List.set_cons_succ]
    rfl
  refine one_ (i := 8) (N := some 23) #[true, true, true, true, true, true, true, true, true, false, false, false] rfl rfl (by kernel_rfl) (by decide) (fun K hK => ?_)
  refine goes_ Tryd.func34 (by kernel_rfl) rfl #[.slice Av r.length cv] (by rfl) rfl rfl (by simp only [List.map_toArray, List.map_cons, List.map_nil]; rfl) ?_
  with_reducible refine (Clone.clone_calls Av r.length cv r _ HC.out (by have := HR64.out; omega)).mono ?_
  rintro e w3 ⟨ve, rfl, hR, hb⟩
  refine ⟨_, rfl, ?_⟩
  have HRe := Aside0.mk hR
  have HBe := Aside0.mk hb
  clear hR
  obtain ⟨Ae, ce, rfl⟩ := Kd.R_slice HRe.out
  have g0 : w3.cell? ⟨g, 0, none⟩ = some (.int .u32 (wi sa)) := cell_keep hb h0
  have g1 : w3.cell? ⟨g, 1, none⟩ = some (.int .u32 (wi sb)) := cell_keep hb h1
  have g2 : w3.cell? ⟨g, 2, none⟩ = some (.int .u32 (wi sc)) := cell_keep hb h2
  have g3 : w3.cell? ⟨g, 3, none⟩ = some (.int .u32 (wi sd)) := cell_keep hb h3
  have g4 : w3.cell? ⟨g, 4, none⟩ = some (.int .u32 (wi se)) := cell_keep hb h4
  have g5 : w3.cell? ⟨g, 5, none⟩ = some (.int .u32 (wi sf)) := cell_keep hb h5
  have g6 : w3.cell? ⟨g, 6, none⟩ = some (.int .u32 (wi sg)) := cell_keep hb h6
  have g7 : w3.cell? ⟨g, 7, none⟩ = some (.int .u32 (wi sh)) := cell_keep hb h7
  have g8 : w3.cell? ⟨g, 8, none⟩ = some (.slice Av r.length cv) := cell_keep hb h8
  clear hb
  refine hK.out _ _ ⟨g0, g1, g2, g3, g4, g5, g6, g7, g8⟩ (fun hHeld => ?_)
  clear hK K
  refine norm_ (a' := ?_) ?_ ?_
  rotate_left
  · show Act.put _ (some 23) _ = _
    simp only [Act.put, List.setIfInBounds_toArray, List.set_cons_zero, List.set_cons_succ]
    rfl
  refine pure_ (i := 9) (N := some 24) (v := ?_) (a' := ?_) #[true, true, true, true, true, true, true, true, true, true, false, false] rfl rfl (by kernel_rfl) (fun _ _ _ h => h) (Or.inl ⟨by rfl, ?_⟩) ?_ ?_
  rotate_left
  · intro w'
    go_simp
    with_reducible rfl
  rotate_left
  · simp only [Act.put, List.setIfInBounds_toArray, List.set_cons_zero, List.set_cons_succ]
    rfl
  refine one_ (i := 10) (N := some 25) #[true, true, true, true, true, true, true, true, true, true, true, false] rfl rfl (by kernel_rfl) (by decide) (fun K hK => ?_)
  refine value_ (w1 := ?_) (v := ?_) (by rfl) rfl ?_ ?_
  rotate_left 2
  · go_simp
    constructor
    · rfl
    · rfl
  refine hK.out _ _ ⟨cell_keep (bel_alloc (Below.refl _ _) _) g0, cell_keep (bel_alloc (Below.refl _ _) _) g1, cell_keep (bel_alloc (Below.refl _ _) _) g2, cell_keep (bel_alloc (Below.refl _ _) _) g3, cell_keep (bel_alloc (Below.refl _ _) _) g4, cell_keep (bel_alloc (Below.refl _ _) _) g5, cell_keep (bel_alloc (Below.refl _ _) _) g6, cell_keep (bel_alloc (Below.refl _ _) _) g7, cell_keep (bel_alloc (Below.refl _ _) _) g8⟩ (fun hHeld => ?_)
  clear hK K
  refine norm_ (a' := ?_) ?_ ?_
  rotate_left
  · show Act.put _ (some 25) _ = _
    simp only [Act.put, List.setIfInBounds_toArray, List.set_cons_zero, List.set_cons_succ]
    rfl
  refine pure_ (i := 11) (N := some 3) (v := ?_) (a' := ?_) #[true, true, true, true, true, true, true, true, true, true, true, true] rfl rfl (by kernel_rfl) (fun _ _ _ h => h) (Or.inl ⟨by rfl, ?_⟩) ?_ ?_
  rotate_left
  · intro w'
    go_simp
    with_reducible rfl
  rotate_left
  · simp only [Act.put, List.setIfInBounds_toArray, List.set_cons_zero, List.set_cons_succ]
    rfl
  refine done_ (by kernel_rfl) ?_
  have HE : Aside0 (HashAt (w3.alloc (.cells #[.int .u32 (wi sa), .int .u32 (wi sb), .int .u32 (wi sc), .int .u32 (wi sd), .int .u32 (wi se), .int .u32 (wi sf), .int .u32 (wi sg), .int .u32 (wi sh), .slice Ae r.length ce, .int .i64 0] 63)) w.heap.size w3.heap.size (.slice Ae r.length ce) ⟨sa, sb, sc, sd, se, sf, sg, sh⟩ r 0) :=
    ⟨⟨Nat.le_trans HB1.out.size HBe.out.size, heap_alloc_new _ _, Kd.Q_alloc (Kd.Q_of_R (Kd.R_lower HRe.out HB1.out.size)) _⟩⟩
  have HBW := Aside0.mk (below_step (below_step HB1.out (pw_below_drewN (Below.refl _ _) 1)) (bel_alloc HBe.out (.cells #[.int .u32 (wi sa), .int .u32 (wi sb), .int .u32 (wi sc), .int .u32 (wi sd), .int .u32 (wi se), .int .u32 (wi sf), .int .u32 (wi sg), .int .u32 (wi sh), .slice Ae r.length ce, .int .i64 0] 63)))
  have HR4 := Aside0.mk (((bel_alloc HBe.out (.cells #[.int .u32 (wi sa), .int .u32 (wi sb), .int .u32 (wi sc), .int .u32 (wi sd), .int .u32 (wi se), .int .u32 (wi sf), .int .u32 (wi sg), .int .u32 (wi sh), .slice Ae r.length ce, .int .i64 0] 63)).block w.heap.size (show w.heap.size < w1.drew.heap.size by rw [show w1.drew.heap.size = w1.heap.size from rfl, HS1.out]; omega)).trans HR1.out)
  have h9 : (w3.alloc (.cells #[.int .u32 (wi sa), .int .u32 (wi sb), .int .u32 (wi sc), .int .u32 (wi sd), .int .u32 (wi se), .int .u32 (wi sf), .int .u32 (wi sg), .int .u32 (wi sh), .slice Ae r.length ce, .int .i64 0] 63)).cell? ⟨g, 9, none⟩ = some (.int .i64 (n : Int)) :=
    cell_keep (bel_alloc HBe.out _) (show w1.drew.cell? ⟨g, 9, none⟩ = some (.int .i64 (n : Int)) from blk_cell HH.out.2.1 9)
  have hge : w.heap.size < w3.heap.size := by
    have h1 := HBe.out.size
    have h2 : w1.drew.heap.size = w.heap.size + 1 := HS1.out
    omega
  clear h0 h1 h2 h3 h4 h5 h6 h7 h8 g0 g1 g2 g3 g4 g5 g6 g7 g8 hHeld HC HH HB1 HR1 HS1 HBe HRe
  generalize w3.alloc (.cells #[.int .u32 (wi sa), .int .u32 (wi sb), .int .u32 (wi sc), .int .u32 (wi sd), .int .u32 (wi se), .int .u32 (wi sf), .int .u32 (wi sg), .int .u32 (wi sh), .slice Ae r.length ce, .int .i64 0] 63) = w4 at *
  generalize w3.heap.size = ge at *
  have e8 : w4.cell? ⟨ge, 8, none⟩ = some (.slice Ae r.length ce) := blk_cell HE.out.2.1 8
  have hu1 : IntKind.u64.wrap (n : Int) = (n : Int) := by have := HN.out; rw [IntKind.wrap_u64]; omega
  obtain ⟨q, hq⟩ : ∃ q : Nat, q = 8 * n := ⟨_, rfl⟩
  have hu2 : IntKind.u64.wrap ((n : Int) * 8) = (q : Int) := by have := HN.out; rw [IntKind.wrap_u64]; omega
  have HQ := Aside0.mk hq
  clear hq
  have hrI : (r.length : Int) < 64 := by omega
  have HL4 : Aside0 (LaidAt w4 1 constA) := ⟨by
    obtain ⟨t0, fr0, h1⟩ := HL.out
    exact ⟨t0, fr0, (HBW.out.block _ (Nat.lt_of_lt_of_le HG.out HB.out)).trans h1⟩⟩
  have HT1 : Aside0 ([128] ++ List.replicate ((119 - (r.length : Int)) % 64).toNat 0 = tail1 n) := ⟨by
    have h1 := HRn.out
    rw [show ((119 - (r.length : Int)) % 64).toNat = (119 - n % 64) % 64 by omega]
    rfl⟩
  have HTb : Aside0 (∀ x ∈ r ++ tail1 n, 0 ≤ x ∧ x < 256) := ⟨fun x hx => by
    rcases List.mem_append.1 hx with h1 | h1
    · exact HBy.out x h1
    · unfold tail1 at h1
      rcases List.mem_cons.1 h1 with rfl | h2
      · decide
      · rw [(List.mem_replicate.1 h2).2]
        decide⟩
  have HTl : Aside0 ((tail1 n).length ≤ 64) := ⟨by
    unfold tail1
    simp only [List.length_cons, List.length_replicate]
    omega⟩
  obtain ⟨zn, hzn⟩ : ∃ zn : Int, zn = (119 - (r.length : Int)) % 64 := ⟨_, rfl⟩
  have hzn0 : 0 ≤ zn := by omega
  rw [← hzn] at HT1
  have HZn := Aside0.mk hzn
  clear hzn hr
  go_wp2_with (first
    | (at_builtin; refine Kd.R_append_zeros (Kd.int .u8) (w0 := w4) (W := w4.alloc (.cells #[.int .u8 128] 5)) w4.heap.size rfl (.tmp 40) (.tmp 41) 38 3 5 (.int .u8 0) 1 rfl Tryd.underlying38 Tryd.underlying3 info_u8 rfl (by decide) (by decide) (.slice (some ⟨w4.heap.size, 0, none⟩) 1 1) [128] (0 : Int) (kx := .i64) zn (fun _ => True) rfl (by rw [HZn.out]; rfl) rfl (fun _ _ => trivial) (R_int (own_lit w4 w4.heap.size 5 .u8 [128] (Nat.le_refl _) (by decide))) hzn0 (bel_alloc (Below.refl _ _) _) (bel_size (Below.refl _ _) _) (by have := HZn.out; simp; omega) ?_; intro v5 w5 hv5 hb5 _ _; rw [HT1.out] at hv5; obtain ⟨A5, c5, rfl⟩ := Kd.R_slice hv5; have HV5 := Aside0.mk (Kd.R_reads' hv5).2.2; have HB5 := Aside0.mk hb5; clear hv5 hb5)
    | (fail))
  refine (write_calls w.heap.size ge (.slice Ae r.length ce) ⟨sa, sb, sc, sd, se, sf, sg, sh⟩ r 0 A5 (tail1 n).length c5 (tail1 n) w5 (HE.out.below HB5.out) (Nat.le_trans HBW.out.size HB5.out.size) HV5.out HTb.out (by have := HTl.out; have := HR64.out; omega) (by decide) (by have := HTl.out; omega) (Nat.lt_of_lt_of_le HG.out HB.out) (HL4.out.below HB5.out)).mono ?_
  intro e w6 hw6
  obtain ⟨rfl, v6, hH6, hO6, hK6, hb6⟩ := hw6
  have HH6 := Aside0.mk hH6
  have HB6 : Aside0 (Below w.heap.size w5 w6) := ⟨hb6⟩
  have HB6' : Aside0 (Below w.heap.size w w6) := ⟨(below_step HBW.out HB5.out).trans hb6⟩
  have HR6 : Aside0 (w6.heap[w.heap.size]? = some (.cells z32 23 (0, 0))) := ⟨by
    have h5 := (HB5.out.block w.heap.size (blk_lt HR4.out)).trans HR4.out
    refine (hK6.2 w.heap.size (blk_lt h5) ?_).trans h5
    rintro (h1 | h1)
    · omega
    · have h2 := Kd.Q_ne (Kd.Q_below HE.out.2.2 HB5.out) h5 (by decide)
      exact h2 h1⟩
  have HS6 : Aside0 (w.heap.size < w6.heap.size) := ⟨blk_lt HR6.out⟩
  have HL6 : Aside0 (LaidAt w6 1 constA) := ⟨by
    obtain ⟨t0, fr0, h1⟩ := HL.out
    exact ⟨t0, fr0, (HB6'.out.block _ (Nat.lt_of_lt_of_le HG.out HB.out)).trans h1⟩⟩
  have HAb : Aside0 (∀ y, absorb ⟨sa, sb, sc, sd, se, sf, sg, sh⟩ (r ++ (tail1 n ++ y)) = absorb (absorb ⟨sa, sb, sc, sd, se, sf, sg, sh⟩ (r ++ tail1 n)).1 ((absorb ⟨sa, sb, sc, sd, se, sf, sg, sh⟩ (r ++ tail1 n)).2 ++ y)) := ⟨fun y => by rw [← List.append_assoc]; exact absorb_append _ _ _ _ (Nat.le_refl _)⟩
  have HBy6 : Aside0 (∀ x ∈ (absorb ⟨sa, sb, sc, sd, se, sf, sg, sh⟩ (r ++ tail1 n)).2, 0 ≤ x ∧ x < 256) := ⟨(absorb_rest _ _ _ (Nat.le_refl _)).2 HTb.out⟩
  have HLn6 : Aside0 ((absorb ⟨sa, sb, sc, sd, se, sf, sg, sh⟩ (r ++ tail1 n)).2.length < 64) := ⟨by rw [(absorb_rest _ _ _ (Nat.le_refl _)).1]; omega⟩
  obtain ⟨s6, r6, h6⟩ : ∃ s6 r6, absorb ⟨sa, sb, sc, sd, se, sf, sg, sh⟩ (r ++ tail1 n) = (s6, r6) := ⟨_, _, rfl⟩
  rw [h6] at HH6 HAb HBy6 HLn6
  clear hH6 hO6 hK6 hb6 h6 HE HBW HR4 HL4 HB5 HV5 HTb HT1 h9 e8 HB6
  go_wp2
  refine wp_loop_rounds 9 ?_
  rw [rounds_succ]
  go_wp2
  rw [rounds_succ]
  go_wp2
  rw [rounds_succ]
  go_wp2
  rw [rounds_succ]
  go_wp2
  rw [rounds_succ]
  go_wp2
  rw [rounds_succ]
  go_wp2
  rw [rounds_succ]
  go_wp2
  rw [rounds_succ]
  go_wp2
  rw [rounds_succ]
  go_wp2_with (fail)
  have HB7 : Aside0 (Below w6.heap.size w6 (w6.alloc (.cells (nums .u8 (be8 q)).toArray 66))) := ⟨bel_alloc (Below.refl _ _) _⟩
  refine (write_calls w.heap.size ge v6 s6 r6 (0 + ((tail1 n).length : Nat)) (some ⟨w6.heap.size, 0, none⟩) 8 8 (be8 q) _ (HH6.out.below HB7.out) (Nat.le_trans (Nat.le_of_lt HS6.out) HB7.out.size) (C_int (reads_lit w6 .u8 66 (be8 q) (by simp [be8]))) (fun x hx => by
    rcases List.mem_append.1 hx with h1 | h1
    · exact HBy6.out x h1
    · exact be8_byte q x h1) (by have := HLn6.out; omega) (by omega) (by have := HTl.out; omega) (Nat.lt_of_lt_of_le HG.out HB.out) (HL6.out.below HB7.out)).mono ?_
  intro e w8 hw8
  obtain ⟨rfl, v8, hH8, hO8, hK8, hb8⟩ := hw8
  have HH8 := Aside0.mk hH8
  have HB8 : Aside0 (Below w.heap.size w w8) := ⟨(HB6'.out.trans (bel_alloc (Below.refl _ _) _ |>.mono (Nat.le_of_lt HS6.out))).trans hb8⟩
  have HR8 : Aside0 (w8.heap[w.heap.size]? = some (.cells z32 23 (0, 0))) := ⟨by
    have h5 := (HB7.out.block w.heap.size (blk_lt HR6.out)).trans HR6.out
    refine (hK8.2 w.heap.size (blk_lt h5) ?_).trans h5
    rintro (h1 | h1)
    · omega
    · have h2 := Kd.Q_ne (HH6.out.below HB7.out).2.2 h5 (by decide)
      exact h2 h1⟩
  have HV : Aside0 (sumOf ⟨sa, sb, sc, sd, se, sf, sg, sh⟩ r n = digL (absorb s6 (r6 ++ be8 q)).1) := ⟨by
    unfold sumOf
    rw [HAb.out, HQ.out]
    rfl⟩
  clear hH8 hO8 hK8 hb8 HB7 HH6 HR6 HL6 HS6 HAb HBy6 HLn6 HB6'
  generalize (absorb s6 (r6 ++ be8 q)).1 = t at *
  generalize (absorb s6 (r6 ++ be8 q)).2 = r8 at *
  obtain ⟨m8, hm8⟩ : ∃ m8 : Int, m8 = 0 + ((tail1 n).length : Int) + (8 : Nat) := ⟨_, rfl⟩
  rw [← hm8] at HH8
  clear hm8
  obtain ⟨p0, p1, p2, p3, p4, p5, p6, p7⟩ := t
  have h0 : ∀ o : Obj, (w8.alloc o).cell? ⟨ge, 0, none⟩ = some (.int .u32 (wi p0)) := fun o => cell_keep (bel_alloc (Below.refl _ _) _) (blk_cell HH8.out.2.1 0)
  have h1 : ∀ o : Obj, (w8.alloc o).cell? ⟨ge, 1, none⟩ = some (.int .u32 (wi p1)) := fun o => cell_keep (bel_alloc (Below.refl _ _) _) (blk_cell HH8.out.2.1 1)
  have h2 : ∀ o : Obj, (w8.alloc o).cell? ⟨ge, 2, none⟩ = some (.int .u32 (wi p2)) := fun o => cell_keep (bel_alloc (Below.refl _ _) _) (blk_cell HH8.out.2.1 2)
  have h3 : ∀ o : Obj, (w8.alloc o).cell? ⟨ge, 3, none⟩ = some (.int .u32 (wi p3)) := fun o => cell_keep (bel_alloc (Below.refl _ _) _) (blk_cell HH8.out.2.1 3)
  have h4 : ∀ o : Obj, (w8.alloc o).cell? ⟨ge, 4, none⟩ = some (.int .u32 (wi p4)) := fun o => cell_keep (bel_alloc (Below.refl _ _) _) (blk_cell HH8.out.2.1 4)
  have h5 : ∀ o : Obj, (w8.alloc o).cell? ⟨ge, 5, none⟩ = some (.int .u32 (wi p5)) := fun o => cell_keep (bel_alloc (Below.refl _ _) _) (blk_cell HH8.out.2.1 5)
  have h6 : ∀ o : Obj, (w8.alloc o).cell? ⟨ge, 6, none⟩ = some (.int .u32 (wi p6)) := fun o => cell_keep (bel_alloc (Below.refl _ _) _) (blk_cell HH8.out.2.1 6)
  have h7 : ∀ o : Obj, (w8.alloc o).cell? ⟨ge, 7, none⟩ = some (.int .u32 (wi p7)) := fun o => cell_keep (bel_alloc (Below.refl _ _) _) (blk_cell HH8.out.2.1 7)
  go_wp2
  obtain ⟨go, hgo⟩ : ∃ go, go = w8.heap.size := ⟨_, rfl⟩
  have HO9 : Aside0 (OutW w z32 go ⟨p0, p1, p2, p3, p4, p5, p6, p7⟩ 0 (w8.alloc (.cells (dA (digP ⟨p0, p1, p2, p3, p4, p5, p6, p7⟩ 0)) 23))) := ⟨by
    rw [hgo]
    exact ⟨heap_alloc_new _ _, ((bel_alloc (Below.refl _ _) _).block _ (blk_lt HR8.out)).trans HR8.out, below_step HB8.out (bel_alloc (Below.refl _ _) _), blk_lt HR8.out⟩⟩
  rw [← hgo]
  clear h0 h1 h2 h3 h4 h5 h6 h7 hgo HH8
  go_loopw [63] (fun v63 wr => ∃ i : Nat, i ≤ 8 ∧ v63 = .int .i64 i ∧ Aside0 (OutW w z32 go ⟨p0, p1, p2, p3, p4, p5, p6, p7⟩ i wr)) (fun v63 _ => 8 - (intOf v63).toNat)
  case atStart => exact ⟨0, Nat.zero_le _, rfl, HO9⟩
  case round =>
    obtain ⟨i, hi, rfl, HO⟩ := hrel
    by_cases hlt : i < 8
    · have hix : ∀ W : World, (Instr.index 61 (.agg #[.int .u32 (wi p0), .int .u32 (wi p1), .int .u32 (wi p2), .int .u32 (wi p3), .int .u32 (wi p4), .int .u32 (wi p5), .int .u32 (wi p6), .int .u32 (wi p7)]) (.int .i64 (i : Int))).run Tryd.prog W = .ok (.int .u32 (wi ([p0, p1, p2, p3, p4, p5, p6, p7].getD i 0))) W := fun W =>
        run_index_int 61 60 8 _ .i64 .u32 i Tryd.underlying61 Tryd.underlying60 info_u32 hlt _ (sArr_get [p0, p1, p2, p3, p4, p5, p6, p7] i hlt) W
      have HS := Aside0.mk (digP_step ⟨p0, p1, p2, p3, p4, p5, p6, p7⟩ i hlt)
      obtain ⟨y, hy⟩ : ∃ y, y = wi ([p0, p1, p2, p3, p4, p5, p6, p7].getD i 0) := ⟨_, rfl⟩
      have HS2 : Aside0 (((((digP ⟨p0, p1, p2, p3, p4, p5, p6, p7⟩ i).set (4 * i) (y / 16777216 % 256)).set (4 * i + 1) (y / 65536 % 256)).set (4 * i + 2) (y / 256 % 256)).set (4 * i + 3) (y % 256) = digP ⟨p0, p1, p2, p3, p4, p5, p6, p7⟩ (i + 1)) := ⟨by rw [hy]; exact HS.out⟩
      rw [← hy] at hix
      clear hy HS
      have c0 : ∃ u, wr.cell? ⟨go, 4 * i, none⟩ = some u := ⟨_, HO.out.cell (4 * i) (by omega)⟩
      have c1 : ∃ u, wr.cell? ⟨go, 4 * i + 1, none⟩ = some u := ⟨_, HO.out.cell (4 * i + 1) (by omega)⟩
      have c2 : ∃ u, wr.cell? ⟨go, 4 * i + 2, none⟩ = some u := ⟨_, HO.out.cell (4 * i + 2) (by omega)⟩
      have c3 : ∃ u, wr.cell? ⟨go, 4 * i + 3, none⟩ = some u := ⟨_, HO.out.cell (4 * i + 3) (by omega)⟩
      obtain ⟨u0, c0⟩ := c0
      obtain ⟨u1, c1⟩ := c1
      obtain ⟨u2, c2⟩ := c2
      obtain ⟨u3, c3⟩ := c3
      have f0 : wr.frozen? ⟨go, 4 * i, none⟩ = false := blk_frozen HO.out.1 _
      have f1 : wr.frozen? ⟨go, 4 * i + 1, none⟩ = false := blk_frozen HO.out.1 _
      have f2 : wr.frozen? ⟨go, 4 * i + 2, none⟩ = false := blk_frozen HO.out.1 _
      have f3 : wr.frozen? ⟨go, 4 * i + 3, none⟩ = false := blk_frozen HO.out.1 _
      go_wp2
      refine wp_loop_rounds 5 ?_
      rw [rounds_succ]
      go_wp2
      rw [rounds_succ]
      go_wp2
      rw [rounds_succ]
      go_wp2
      rw [rounds_succ]
      go_wp2
      rw [rounds_succ]
      go_wp2
      go_roundw
      case measure => simp [intOf]; omega
      case rel => exact ⟨i + 1, by omega, by go_num, ⟨by rw [OutW, ← HS2.out]; exact ((((HO.out.set (4 * i) _).set (4 * i + 1) _).set (4 * i + 2) _).set (4 * i + 3) _)⟩⟩
    · obtain rfl : i = 8 := by omega
      have HD : Aside0 (digP ⟨p0, p1, p2, p3, p4, p5, p6, p7⟩ 8 = sumOf ⟨sa, sb, sc, sd, se, sf, sg, sh⟩ r n) := ⟨by rw [HV.out, digP_end]⟩
      have HO' : Aside0 (wr.heap[go]? = some (.cells (dA (digP ⟨p0, p1, p2, p3, p4, p5, p6, p7⟩ 8)) 23 (0, 0)) ∧ wr.heap[w.heap.size]? = some (.cells z32 23 (0, 0)) ∧ Below w.heap.size w wr) := ⟨⟨HO.out.1, HO.out.2.1, HO.out.2.2.1⟩⟩
      rw [HD.out] at HO'
      have HLd : Aside0 ((sumOf ⟨sa, sb, sc, sd, se, sf, sg, sh⟩ r n).length = 32) := ⟨digL_length _⟩
      clear HO HV HD hlt hi
      have HI1 : Aside0 ((Tryd.prog.info? 23).map (·.size) = some (dA (sumOf ⟨sa, sb, sc, sd, se, sf, sg, sh⟩ r n)).size) := ⟨by rw [dA_size, HLd.out]; kernel_rfl⟩
      have HI2 : Aside0 (z32.size = (dA (sumOf ⟨sa, sb, sc, sd, se, sf, sg, sh⟩ r n)).size) := ⟨by rw [dA_size, HLd.out, HZ.out]; rfl⟩
      have HI3 := Aside0.mk (dA_one (sumOf ⟨sa, sb, sc, sd, se, sf, sg, sh⟩ r n))
      obtain ⟨d, hd⟩ : ∃ d, d = sumOf ⟨sa, sb, sc, sd, se, sf, sg, sh⟩ r n := ⟨_, rfl⟩
      rw [← hd] at HO' HI1 HI2 HI3
      have Hd := Aside0.mk hd
      clear hd HLd
      go_wp2_with (first
        | (with_reducible refine wpList_load_row rfl 23 (.tmp 8) rfl go rfl 23 (dA d) (0, 0) _ HO'.out.1 Tryd.underlying23 rfl HI1.out ?_)
        | (with_reducible refine wpList_store_row rfl 23 (.tmp 2) (.tmp 83) rfl w.heap.size (dA d) rfl rfl 23 z32 HO'.out.2.1 HI1.out HI2.out HI3.out ?_))
      exact bodyPost_ret (results_cell_row Tryd.results25 _ _ w.heap.size 23 (dA d) (0, 0) _ rfl (setRow_heap _ _ _ _ _ _ HO'.out.2.1) Tryd.underlying23 rfl HI1.out) rfl ⟨by rw [Hd.out], below_setRow HO'.out.2.2 (Nat.le_refl _) _⟩
end Go.Proofs.YtpdficnjjmapmaaDoorRRR.Sha
namespace Go.Proofs.YtpdficnjjmapmaaDoorRRR.Sha
open Go.RowKit Go.Proofs.YtpdficnjjmapmaaDoorRRRW.PrintWords Go.Proofs.YtpdficnjjmapmaaDoorRRRW.PrintLast Go.Proofs.YtpdficnjjmapmaaDoorRRRW.PrintMore Go.Proofs.YtpdficnjjmapmaaDoorRRR.K
set_option linter.unusedVariables false
theorem z32_lit : (#[.int .u8 0, .int .u8 0, .int .u8 0, .int .u8 0, .int .u8 0, .int .u8 0, .int .u8 0, .int .u8 0, .int .u8 0, .int .u8 0, .int .u8 0, .int .u8 0, .int .u8 0, .int .u8 0, .int .u8 0, .int .u8 0, .int .u8 0, .int .u8 0, .int .u8 0, .int .u8 0, .int .u8 0, .int .u8 0, .int .u8 0, .int .u8 0, .int .u8 0, .int .u8 0, .int .u8 0, .int .u8 0, .int .u8 0, .int .u8 0, .int .u8 0, .int .u8 0] : Array Value) = dA (List.replicate 32 0) := rfl
theorem dig_info {d : List Int} (h : d.length = 32) : (Tryd.prog.info? 23).map (·.size) = some (dA d).size := by rw [dA_size, h]; kernel_rfl
set_option maxHeartbeats 4000000 in
set_option maxRecDepth 100000 in
theorem sum_calls (A : Option Addr) (m c : Nat) (l : List Int) (w : World) (hl : Kd.C (Kd.int .u8) w A m l) (hby : ∀ x ∈ l, 0 ≤ x ∧ x < 256) (hm : m ≤ 140737488355328)
    (hLf : LaidAt w 0 firstA) (hL : LaidAt w 1 constA) :
    Calls Tryd.prog 13 #[.slice A m c] w fun e w' => e = .returned (.agg (dA (shaV l))) ∧ Below w.heap.size w w' := by
  have HC := Aside0.mk hl
  have HBy := Aside0.mk hby
  have HM := Aside0.mk hm
  have HLf := Aside0.mk hLf
  have HL := Aside0.mk hL
  have HG : Aside0 (1 < w.heap.size) := ⟨by obtain ⟨_, _, h⟩ := hL; exact blk_lt h⟩
  have HN : Aside0 (l.length = m) := ⟨hl.1⟩
  have HD1 := Aside0.mk (dig_info (shaV_length l))
  have HD2 : Aside0 ((dA (List.replicate 32 0)).size = (dA (shaV l)).size) := ⟨by rw [dA_size, dA_size, shaV_length]; rfl⟩
  clear hl hby hm hLf hL
  go_enter Tryd.func13, Tryd.ntmps13
  go_wp2_with (fail)
  rw [z32_lit]
  have HB1 : Aside0 (Below w.heap.size w (w.alloc (.cells (dA (List.replicate 32 0)) 23))) := ⟨bel_alloc (Below.refl _ _) _⟩
  have HR1 : Aside0 ((w.alloc (.cells (dA (List.replicate 32 0)) 23)).heap[w.heap.size]? = some (.cells (dA (List.replicate 32 0)) 23 (0, 0))) := ⟨heap_alloc_new _ _⟩
  generalize w.alloc (.cells (dA (List.replicate 32 0)) 23) = w1 at *
  refine (new_calls w1 (HLf.out.below HB1.out)).mono ?_
  rintro e w2 ⟨rfl, hw2⟩
  have HH2 : Aside0 (HashAt w2 w.heap.size w1.heap.size (.slice none 0 0) init [] 0) := ⟨by rw [hw2]; exact HashAt.new w1 _ HB1.out.size⟩
  have HB2 : Aside0 (Below w1.heap.size w1 w2) := ⟨by rw [hw2]; exact bel_alloc (Below.refl _ _) _⟩
  have hge : w.heap.size < w1.heap.size := blk_lt HR1.out
  clear hw2
  generalize w1.heap.size = ge at *
  go_wp2_with (fail)
  have HB2' : Aside0 (Below w.heap.size w w2) := ⟨HB1.out.trans (HB2.out.mono (Nat.le_of_lt hge))⟩
  refine (write_calls w.heap.size ge (.slice none 0 0) init [] 0 A m c l w2 HH2.out HB2'.out.size (Kd.C_below HC.out HB2'.out) (by simpa using HBy.out) (by have := HM.out; simp; omega) (by decide) (by have := HM.out; omega) HG.out (HL.out.below HB2'.out)).mono ?_
  intro e w3 hw3
  obtain ⟨rfl, v3, hH3, hO3, hK3, hb3⟩ := hw3
  have HH3 : Aside0 (HashAt w3 w.heap.size ge v3 (absorb init l).1 (absorb init l).2 (m : Int)) := ⟨by
    rw [show ([] ++ l : List Int) = l from rfl, show (0 : Int) + (m : Int) = (m : Int) by omega] at hH3
    exact hH3⟩
  have HB3 : Aside0 (Below w.heap.size w w3) := ⟨HB2'.out.trans hb3⟩
  have HR3 : Aside0 (w3.heap[w.heap.size]? = some (.cells (dA (List.replicate 32 0)) 23 (0, 0))) := ⟨by
    have h5 := (HB2.out.block w.heap.size hge).trans HR1.out
    refine (hK3.2 w.heap.size (blk_lt h5) ?_).trans h5
    rintro (h1 | h1)
    · omega
    · simp [Value.ownBlock] at h1⟩
  have HRest := Aside0.mk (absorb_rest l.length init l (Nat.le_refl _))
  have HV : Aside0 (sumOf (absorb init l).1 (absorb init l).2 m = shaV l) := ⟨by rw [← HN.out]; exact sumOf_absorb l⟩
  clear hH3 hO3 hK3 hb3 HH2 HB2 HB2' HR1 HB1
  go_wp2_with (fail)
  refine (hsum_calls w.heap.size ge v3 (absorb init l).1 (absorb init l).2 m w3 HH3.out HB3.out.size (HRest.out.2 HBy.out) (by rw [HRest.out.1]; omega) (by rw [HRest.out.1, HN.out]) (by have := HM.out; omega) HG.out (HL.out.below HB3.out)).mono ?_
  rintro e w4 ⟨rfl, hb4⟩
  have HB4 : Aside0 (Below w.heap.size w w4) := ⟨below_step HB3.out hb4⟩
  have HR4 : Aside0 (w4.heap[w.heap.size]? = some (.cells (dA (List.replicate 32 0)) 23 (0, 0))) := ⟨(hb4.block _ (blk_lt HR3.out)).trans HR3.out⟩
  rw [HV.out]
  clear hb4 HH3 HB3 HR3 HRest HV
  obtain ⟨d, hd⟩ : ∃ d, d = shaV l := ⟨_, rfl⟩
  rw [← hd] at HD1 HD2 ⊢
  have Hd := Aside0.mk hd
  clear hd
  have HI3 := Aside0.mk (dA_one d)
  go_wp2_with (with_reducible refine wpList_store_row rfl 23 (.tmp 2) (.tmp 9) rfl w.heap.size (dA d) rfl rfl 23 _ HR4.out HD1.out HD2.out HI3.out ?_)
  exact bodyPost_ret (results_cell_row Tryd.results13 _ _ w.heap.size 23 (dA d) (0, 0) _ rfl (setRow_heap _ _ _ _ _ _ HR4.out) Tryd.underlying23 rfl HD1.out) rfl ⟨by rw [Hd.out], below_setRow HB4.out (Nat.le_refl _) _⟩
set_option maxHeartbeats 4000000 in
set_option maxRecDepth 100000 in
theorem hsum_nil_calls (w : World) (hLf : LaidAt w 0 firstA) (hL : LaidAt w 1 constA) :
    Calls Tryd.prog 25 #[.pointer none] w fun e w' => e = .returned (.agg (dA (shaV []))) ∧ Below w.heap.size w w' := by
  have HLf := Aside0.mk hLf
  have HL := Aside0.mk hL
  have HD1 := Aside0.mk (dig_info (shaV_length []))
  have HD2 : Aside0 ((dA (List.replicate 32 0)).size = (dA (shaV [])).size) := ⟨by rw [dA_size, dA_size, shaV_length]; rfl⟩
  clear hLf hL
  go_enter Tryd.func25, Tryd.ntmps25
  go_wp2_with (fail)
  rw [z32_lit]
  have HB1 : Aside0 (Below w.heap.size w (w.alloc (.cells (dA (List.replicate 32 0)) 23))) := ⟨bel_alloc (Below.refl _ _) _⟩
  have HR1 : Aside0 ((w.alloc (.cells (dA (List.replicate 32 0)) 23)).heap[w.heap.size]? = some (.cells (dA (List.replicate 32 0)) 23 (0, 0))) := ⟨heap_alloc_new _ _⟩
  generalize w.alloc (.cells (dA (List.replicate 32 0)) 23) = w1 at *
  refine (sum_calls none 0 0 [] w1 (Kd.C_nil _ _) (fun x hx => by cases hx) (by decide) (HLf.out.below HB1.out) (HL.out.below HB1.out)).mono ?_
  rintro e w4 ⟨rfl, hb4⟩
  have HB4 : Aside0 (Below w.heap.size w w4) := ⟨below_step HB1.out hb4⟩
  have HR4 : Aside0 (w4.heap[w.heap.size]? = some (.cells (dA (List.replicate 32 0)) 23 (0, 0))) := ⟨(hb4.block _ (blk_lt HR1.out)).trans HR1.out⟩
  clear hb4 HB1 HR1
  obtain ⟨d, hd⟩ : ∃ d, d = shaV [] := ⟨_, rfl⟩
  rw [← hd] at HD1 HD2 ⊢
  have Hd := Aside0.mk hd
  clear hd
  have HI3 := Aside0.mk (dA_one d)
  go_wp2_with (with_reducible refine wpList_store_row rfl 23 (.tmp 2) (.tmp 14) rfl w.heap.size (dA d) rfl rfl 23 _ HR4.out HD1.out HD2.out HI3.out ?_)
  exact bodyPost_ret (results_cell_row Tryd.results25 _ _ w.heap.size 23 (dA d) (0, 0) _ rfl (setRow_heap _ _ _ _ _ _ HR4.out) Tryd.underlying23 rfl HD1.out) rfl ⟨by rw [Hd.out], below_setRow HB4.out (Nat.le_refl _) _⟩
end Go.Proofs.YtpdficnjjmapmaaDoorRRR.Sha
namespace Go.Proofs.YtpdficnjjmapmaaDoorRRR.Lam
open Go.RowKit Go.Proofs.YtpdficnjjmapmaaDoorRRRW.PrintWords Go.Proofs.YtpdficnjjmapmaaDoorRRRW.PrintLast Go.Proofs.YtpdficnjjmapmaaDoorRRRW.PrintMore Go.Proofs.YtpdficnjjmapmaaDoorRRR.K Go.Proofs.YtpdficnjjmapmaaDoorRRR.Sha
set_option linter.unusedVariables false
/-- The bit at a place. -/
def bitV (d : List Int) (i : Nat) : Nat := (d.getD (i / 8) 0).toNat / 2 ^ (7 - i % 8) % 2
theorem bitV_lt (d : List Int) (i : Nat) : bitV d i < 2 := Nat.mod_lt _ (by decide)
def secV (s : List Int) (i b : Nat) : List Int := shaV (joinL [s, numsL [(i : Int), (b : Int)]])
theorem secV_len (s : List Int) (i b : Nat) : (secV s i b).length = 32 := shaV_length _
theorem secV_byte (s : List Int) (i b : Nat) : ∀ x ∈ secV s i b, 0 ≤ x ∧ x < 256 := shaV_byte _
def spread (f : Nat → List Int) : Nat → List Int
  | 0 => []
  | n + 1 => spread f n ++ f n
theorem spread_len {f : Nat → List Int} {m : Nat} (h : ∀ i, (f i).length = m) : ∀ n, (spread f n).length = m * n
  | 0 => rfl
  | n + 1 => by rw [spread, List.length_append, spread_len h n, h, Nat.mul_succ]
theorem spread_cut {f : Nat → List Int} {m : Nat} (h : ∀ i, (f i).length = m) : ∀ n i, i < n → ((spread f n).drop (m * i)).take m = f i
  | 0, i, hi => absurd hi (Nat.not_lt_zero i)
  | n + 1, i, hi => by
    have hl := spread_len h n
    rcases Nat.lt_or_ge i n with h1 | h1
    · have h2 : m * (i + 1) ≤ m * n := Nat.mul_le_mul_left m h1
      rw [Nat.mul_succ] at h2
      rw [spread, List.drop_append_of_le_length (by omega), List.take_append_of_le_length (by rw [List.length_drop]; omega)]
      exact spread_cut h n i h1
    · obtain rfl : i = n := by omega
      rw [spread, ← hl, List.drop_left, List.take_of_length_le (by rw [h]; exact Nat.le_refl _)]
theorem spread_byte {f : Nat → List Int} (h : ∀ i, ∀ x ∈ f i, 0 ≤ x ∧ x < 256) : ∀ n, ∀ x ∈ spread f n, 0 ≤ x ∧ x < 256
  | 0, x, hx => by cases hx
  | n + 1, x, hx => by
    rcases List.mem_append.1 hx with h1 | h1
    · exact spread_byte h n x h1
    · exact h n x h1
theorem spread_congr {f g : Nat → List Int} : ∀ n, (∀ i, i < n → f i = g i) → spread f n = spread g n
  | 0, _ => rfl
  | n + 1, h => by rw [spread, spread, spread_congr n (fun i hi => h i (by omega)), h n (Nat.lt_succ_self n)]
/-- The digest of digests, place by place. -/
def pairs (T : Nat → Nat → List Int) (n : Nat) : List Int := spread (fun i => T i 0 ++ T i 1) n
def keyV (T : Nat → Nat → List Int) : List Int := shaV (pairs T 256)
theorem keyV_congr {T U : Nat → Nat → List Int} (h : ∀ i b, i < 256 → b < 2 → T i b = U i b) : keyV T = keyV U := by
  unfold keyV pairs
  rw [spread_congr 256 (fun i hi => by rw [h i 0 hi (by decide), h i 1 hi (by decide)])]
def pubV (s : List Int) : List Int := keyV fun i b => shaV (secV s i b)
def openF (s m : List Int) (i : Nat) : List Int := secV s i (bitV m i)
def restF (s m : List Int) (i : Nat) : List Int := shaV (secV s i (1 - bitV m i))
theorem openF_len (s m : List Int) (i : Nat) : (openF s m i).length = 32 := secV_len _ _ _
theorem restF_len (s m : List Int) (i : Nat) : (restF s m i).length = 32 := shaV_length _
theorem openF_byte (s m : List Int) (i : Nat) : ∀ x ∈ openF s m i, 0 ≤ x ∧ x < 256 := secV_byte _ _ _
theorem restF_byte (s m : List Int) (i : Nat) : ∀ x ∈ restF s m i, 0 ≤ x ∧ x < 256 := shaV_byte _
/-- A signature while it is made: j digests of Open, k of Rest. -/
def sgL (f g : Nat → List Int) (j k : Nat) : List Int := (spread f j ++ List.replicate (8192 - 32 * j) 0) ++ (spread g k ++ List.replicate (8192 - 32 * k) 0)
def sigV (s m : List Int) : List Int := spread (openF s m) 256 ++ spread (restF s m) 256
/-- The digest at a place of a signature. -/
def openA (S : List Int) (i : Nat) : List Int := (S.drop (32 * i)).take 32
def restA (S : List Int) (i : Nat) : List Int := (S.drop (8192 + 32 * i)).take 32
def keyOf (m S : List Int) : List Int := keyV fun i b => if b = bitV m i then shaV (openA S i) else restA S i
theorem sigV_len (s m : List Int) : (sigV s m).length = 16384 := by
  rw [sigV, List.length_append, spread_len (openF_len s m), spread_len (restF_len s m)]
theorem openA_sig (s m : List Int) (i : Nat) (hi : i < 256) : openA (sigV s m) i = openF s m i := by
  have hl := spread_len (openF_len s m) 256
  rw [openA, sigV, List.drop_append_of_le_length (by omega), List.take_append_of_le_length (by rw [List.length_drop]; omega)]
  exact spread_cut (openF_len s m) 256 i hi
theorem restA_sig (s m : List Int) (i : Nat) (hi : i < 256) : restA (sigV s m) i = restF s m i := by
  have hl := spread_len (openF_len s m) 256
  rw [restA, sigV, ← List.drop_drop, show (8192 : Nat) = (spread (openF s m) 256).length by omega, List.drop_left]
  exact spread_cut (restF_len s m) 256 i hi
/-- Key of a digest's own signature is the public key. -/
theorem keyOf_sig (s m : List Int) : keyOf m (sigV s m) = pubV s := by
  refine keyV_congr fun i b hi hb => ?_
  have hv := bitV_lt m i
  by_cases h : b = bitV m i
  · subst h
    rw [if_pos rfl, openA_sig s m i hi]
    rfl
  · rw [if_neg h, restA_sig s m i hi, restF, show 1 - bitV m i = b by omega]
theorem sgL_zero (f g : Nat → List Int) : sgL f g 0 0 = List.replicate 16384 0 := by
  show (([] : List Int) ++ List.replicate 8192 0) ++ ([] ++ List.replicate 8192 0) = _
  rw [List.nil_append, List.replicate_append_replicate]
theorem sgL_end (s m : List Int) : sgL (openF s m) (restF s m) 256 256 = sigV s m := by
  show (spread _ 256 ++ []) ++ (spread _ 256 ++ []) = _
  rw [List.append_nil, List.append_nil]
  rfl
/-- A row into which others are laid. -/
def spl (L : List Int) (o : Nat) (D : List Int) : List Int := L.take o ++ D ++ L.drop (o + D.length)
theorem spl_mid (A Z B D : List Int) (h : Z.length = D.length) : spl (A ++ (Z ++ B)) A.length D = A ++ (D ++ B) := by
  rw [spl, List.take_left, List.drop_append, ← h, List.append_assoc]
  simp
theorem spl_len (L : List Int) (o : Nat) (D : List Int) (h : o + D.length ≤ L.length) : (spl L o D).length = L.length := by
  simp only [spl, List.length_append, List.length_take, List.length_drop]
  omega
theorem zeros_split (k : Nat) (hk : k < 256) : List.replicate (8192 - 32 * k) (0 : Int) = List.replicate 32 0 ++ List.replicate (8192 - 32 * (k + 1)) 0 := by
  rw [List.replicate_append_replicate]
  congr 1
  omega
theorem sgL_len {f g : Nat → List Int} (hf : ∀ i, (f i).length = 32) (hg : ∀ i, (g i).length = 32) (j k : Nat) (hj : j ≤ 256) (hk : k ≤ 256) : (sgL f g j k).length = 16384 := by
  simp only [sgL, List.length_append, List.length_replicate, spread_len hf, spread_len hg]
  omega
theorem sgL_open {f g : Nat → List Int} (hf : ∀ i, (f i).length = 32) (j k : Nat) (hj : j < 256) : spl (sgL f g j k) (32 * j) (f j) = sgL f g (j + 1) k := by
  have h := spl_mid (spread f j) (List.replicate 32 0) (List.replicate (8192 - 32 * (j + 1)) 0 ++ (spread g k ++ List.replicate (8192 - 32 * k) 0)) (f j) (by rw [hf]; rfl)
  rw [spread_len hf] at h
  rw [sgL, zeros_split j hj, List.append_assoc, List.append_assoc, h, sgL, spread]
  simp only [List.append_assoc]
theorem sgL_rest {f g : Nat → List Int} (hf : ∀ i, (f i).length = 32) (hg : ∀ i, (g i).length = 32) (j k : Nat) (hj : j ≤ 256) (hk : k < 256) : spl (sgL f g j k) (8192 + 32 * k) (g k) = sgL f g j (k + 1) := by
  have h := spl_mid (spread f j ++ List.replicate (8192 - 32 * j) 0 ++ spread g k) (List.replicate 32 0) (List.replicate (8192 - 32 * (k + 1)) 0) (g k) (by rw [hg, List.length_replicate])
  have hl : (spread f j ++ List.replicate (8192 - 32 * j) (0 : Int) ++ spread g k).length = 8192 + 32 * k := by
    simp only [List.length_append, List.length_replicate, spread_len hf, spread_len hg]
    omega
  rw [hl] at h
  rw [sgL, zeros_split k hk, ← List.append_assoc, h, sgL, spread]
  simp only [List.append_assoc]
/-- Many cells at once, in a block that is known whole. -/
theorem blk_spl : ∀ (D : List Int) {w : World} {g t : Nat} {L : List Int} (o : Nat), w.heap[g]? = some (.cells (dA L) t (0, 0)) → o + D.length ≤ L.length →
    (w.setCells g o (nums .u8 D)).heap[g]? = some (.cells (dA (spl L o D)) t (0, 0))
  | [], w, g, t, L, o, h, ho => by
    rw [spl, List.length_nil, Nat.add_zero, List.append_nil, List.take_append_drop]
    exact h
  | x :: D, w, g, t, L, o, h, ho => by
    simp only [List.length_cons] at ho
    have h1 := blk_set h o (.int .u8 x)
    rw [dA_set] at h1
    have h2 := blk_spl D (o + 1) h1 (by rw [List.length_set]; omega)
    rw [show spl L o (x :: D) = spl (L.set o x) (o + 1) D from by
      simp only [spl, List.length_cons]
      rw [show o + 1 + D.length = o + (D.length + 1) by omega, List.drop_set_of_lt (by omega), List.take_succ_eq_append_getElem (by rw [List.length_set]; omega), List.getElem_set_self, List.take_set_of_le (Nat.le_refl _)]
      simp only [List.append_assoc, List.cons_append, List.nil_append]]
    exact h2
theorem dA_range {w : World} {g t : Nat} {fr : Nat × Nat} {S : List Int} (h : w.heap[g]? = some (.cells (dA S) t fr)) (o n : Nat) : w.rangeAt g o (nums .u8 ((S.drop o).take n)) := by
  have := World.rangeAt_of_block h o n
  rwa [show ((dA S).extract o (o + n)).toList = nums .u8 ((S.drop o).take n) from by
    simp [dA, nums, List.extract_eq_take_drop, List.map_drop, List.map_take, Nat.add_sub_cancel_left]] at this
theorem dA_there {w : World} {g t : Nat} {S : List Int} (h : w.heap[g]? = some (.cells (dA S) t (0, 0))) (o n : Nat) (hn : o + n ≤ S.length) : w.there g o n := fun j hj =>
  ⟨by rw [show w.cell? ⟨g, o + j, none⟩ = _ from blk_cell h (o + j), dA_get S (o + j) (by omega)]; rfl, blk_frozen h (o + j)⟩
theorem dA_cells {w : World} {g t : Nat} {fr : Nat × Nat} {S : List Int} (h : w.heap[g]? = some (.cells (dA S) t fr)) (o n : Nat) (hn : o + n ≤ S.length) (hm : n ≤ 9223372036854775807) : Kd.C (Kd.int .u8) w (some ⟨g, o, none⟩) n ((S.drop o).take n) := by
  refine C_int ⟨by rw [List.length_take, List.length_drop]; omega, hm, fun _ => ⟨_, rfl, fun j hj => ?_⟩⟩
  rw [Addr.add_mid]
  refine dA_range h o n j _ ?_
  rw [nums, List.getElem?_map, List.getElem?_eq_getElem (by rw [List.length_take, List.length_drop]; omega), Option.map_some, List.getD_eq_getElem?_getD, List.getElem?_eq_getElem (by rw [List.length_take, List.length_drop]; omega)]
  rfl
end Go.Proofs.YtpdficnjjmapmaaDoorRRR.Lam
namespace Go.Proofs.YtpdficnjjmapmaaDoorRRR.RI
open Go.Proofs.YtpdficnjjmapmaaDoorRRRW.PrintWords Go.Proofs.YtpdficnjjmapmaaDoorRRRW.PrintLast Go.Proofs.YtpdficnjjmapmaaDoorRRR.K
set_option linter.unusedVariables false
section
variable {P : Program} {ops : Array Oper} {Q : Exit → Act → World → Prop}
/-- Each operation waits for earlier ones alone. -/
def backB (ops : Array Oper) : Bool := (List.range ops.size).all fun j => match ops[j]? with
  | some o => o.after.all fun e => !Region.binds .any e || decide (e.on < j)
  | none => true
theorem backB_spec (hb : backB ops = true) {j : Nat} {o : Oper} (ho : ops[j]? = some o) : ∀ e ∈ o.after, Region.binds .any e = true → e.on < j := by
  intro e he hbe
  have hlt : j < ops.size := (Array.getElem?_eq_some_iff.1 ho).1
  have h1 := List.all_eq_true.1 hb j (List.mem_range.2 hlt)
  simp only [ho] at h1
  have h2 := Array.all_eq_true_iff_forall_mem.1 h1 e he
  simpa [hbe] using h2
theorem ready_empty (hb : backB ops = true) {l : Array Bool} (hl : l.size = ops.size) (hr : Region.ready .any ops l = []) : ∀ j, j < ops.size → l.getD j false = true := by
  intro j
  induction j using Nat.strongRecOn with
  | ind j ih =>
    intro hj
    cases hc : l.getD j false with
    | true => rfl
    | false =>
      exfalso
      have ho : ops[j]? = some ops[j] := Array.getElem?_eq_getElem hj
      have h1 : l.getD j true = false := by
        simp only [Array.getD_eq_getD_getElem?, Array.getElem?_eq_getElem (show j < l.size by omega), Option.getD_some] at hc ⊢
        exact hc
      have hm : j ∈ Region.ready .any ops l := mem_ready.2 ⟨h1, _, ho, fun e he hbe => ih e.on (backB_spec hb ho e he hbe) (by have := backB_spec hb ho e he hbe; omega)⟩
      rw [hr] at hm
      cases hm
theorem wpAny_all (hb : backB ops = true) (I : Array Bool → Act → World → Prop)
    (step : ∀ (l : Array Bool) a w i o, l.size = ops.size → ListedClosed .any ops l → I l a w → ops[i]? = some o → l.getD i true = false → (∀ e ∈ o.after, Region.binds .any e = true → l.getD e.on false = true) →
      ∀ K : Act → World → Prop, (∀ a' w', I (l.setIfInBounds i true) a' w' → K a' w') → if Region.wanted o (yielded ops a.tmps) = true then (Oper.wp P o a w K Q ∨ (o.asks P a w ∧ LetsOut Q)) else K (a.put o.dst undef) w)
    (fin : ∀ l a w, I l a w → (∀ j, j < ops.size → l.getD j false = true) → Q .normal a w) :
    ∀ (fuel : Nat) (l : Array Bool) (a : Act) (w : World), l.size = ops.size → l.toList.count false ≤ fuel → ListedClosed .any ops l → I l a w → wpAny P .any ops Q fuel l a w := by
  intro fuel
  induction fuel with
  | zero =>
    intro l a w hs hc hcl hI
    have hr : Region.ready .any ops l = [] := by
      refine List.eq_nil_iff_forall_not_mem.2 fun j hj => ?_
      obtain ⟨h1, o, ho, _⟩ := mem_ready.1 hj
      have hlt : j < l.size := by rw [hs]; exact (Array.getElem?_eq_some_iff.1 ho).1
      have h2 : l[j] = false := by simpa [Array.getD_eq_getD_getElem?, Array.getElem?_eq_getElem hlt] using h1
      have h3 : false ∈ l.toList := by rw [← h2]; exact Array.mem_toList_iff.2 (Array.getElem_mem hlt)
      have h4 : 0 < l.toList.count false := List.count_pos_iff.2 h3
      omega
    exact ⟨hr, fin l a w hI (ready_empty hb hs hr)⟩
  | succ fuel ih =>
    intro l a w hs hc hcl hI
    refine ⟨fun hr => fin l a w hI (ready_empty hb hs hr), fun i hi => ?_⟩
    have hcl' := hcl.set hi
    obtain ⟨h1, o, ho, hd⟩ := mem_ready.1 hi
    have hlt : i < l.size := by rw [hs]; exact (Array.getElem?_eq_some_iff.1 ho).1
    have h2 : l.toList[i]'(by simpa using hlt) = false := by simpa [Array.getD_eq_getD_getElem?, Array.getElem?_eq_getElem hlt] using h1
    have hcnt : (l.setIfInBounds i true).toList.count false ≤ fuel := by
      have h3 : 0 < l.toList.count false := List.count_pos_iff.2 (by rw [← h2]; exact List.getElem_mem _)
      rw [Array.toList_setIfInBounds, List.count_set (h := by simpa using hlt), h2]
      show l.toList.count false - 1 + 0 ≤ fuel
      omega
    have := step l a w i o hs hcl hI ho h1 hd (wpAny P .any ops Q fuel (l.setIfInBounds i true)) (fun a' w' h => ih _ _ _ (by simpa using hs) hcnt hcl' h)
    unfold wpOp
    rw [ho]
    show if Region.wanted o (yielded ops a.tmps) = true then _ else _
    split
    · rename_i hw; rw [if_pos hw] at this; exact this
    · rename_i hw; rw [if_neg hw] at this; exact this
/-! ### The frame: the slots that a region writes are variables. -/
def fillL : List Value → List Bool → (Nat → Value) → Nat → List Value
  | [], _, _, _ => []
  | x :: xs, [], _, _ => x :: xs
  | _ :: xs, true :: bs, v, k => v k :: fillL xs bs v (k + 1)
  | x :: xs, false :: bs, v, k => x :: fillL xs bs v (k + 1)
def fillA (a0 : Act) (m : List Bool) (v : Nat → Value) : Act := { a0 with tmps := (fillL a0.tmps.toList m v 0).toArray }
def upv (v : Nat → Value) (d : Nat) (x : Value) : Nat → Value := fun k => if k = d then x else v k
theorem upv_same (v : Nat → Value) (d : Nat) (x : Value) : upv v d x d = x := if_pos rfl
theorem upv_ne {v : Nat → Value} {d k : Nat} {x : Value} (h : k ≠ d) : upv v d x k = v k := if_neg h
theorem fillL_congr {v v' : Nat → Value} : ∀ (xs : List Value) (m : List Bool) (k : Nat), (∀ j, k ≤ j → v j = v' j) → fillL xs m v k = fillL xs m v' k
  | [], _, _, _ => by simp only [fillL]
  | _ :: _, [], _, _ => by simp only [fillL]
  | x :: xs, true :: bs, k, h => by simp only [fillL]; rw [h k (Nat.le_refl _), fillL_congr xs bs (k + 1) (fun j hj => h j (by omega))]
  | x :: xs, false :: bs, k, h => by simp only [fillL]; rw [fillL_congr xs bs (k + 1) (fun j hj => h j (by omega))]
theorem fillL_set {v : Nat → Value} {x : Value} : ∀ (xs : List Value) (m : List Bool) (k d : Nat), m.getD d false = true → (fillL xs m v k).set d x = fillL xs m (upv v (k + d) x) k
  | [], _, _, _, _ => by simp only [fillL, List.set_nil]
  | _ :: _, [], _, _, h => by simp at h
  | y :: xs, true :: bs, k, 0, _ => by
    simp only [fillL, List.set_cons_zero, Nat.add_zero, upv_same]
    rw [fillL_congr xs bs (k + 1) (v' := upv v k x) (fun j hj => (upv_ne (by omega)).symm)]
  | y :: xs, false :: bs, k, 0, h => by simp at h
  | y :: xs, true :: bs, k, d + 1, h => by
    simp only [fillL, List.set_cons_succ]
    rw [fillL_set xs bs (k + 1) d (by simpa using h), show k + 1 + d = k + (d + 1) by omega, upv_ne (by omega)]
  | y :: xs, false :: bs, k, d + 1, h => by
    simp only [fillL, List.set_cons_succ]
    rw [fillL_set xs bs (k + 1) d (by simpa using h), show k + 1 + d = k + (d + 1) by omega]
theorem fill_put {a0 : Act} {m : List Bool} {v : Nat → Value} {d : Nat} {x : Value} (h : m.getD d false = true) : (fillA a0 m v).put (some d) x = fillA a0 m (upv v d x) := by
  have := fillL_set (v := v) (x := x) a0.tmps.toList m 0 d h
  rw [Nat.zero_add] at this
  simp only [fillA, Act.put, List.setIfInBounds_toArray, this]
theorem fillL_start : ∀ (xs ys : List Value) (m : List Bool) (k : Nat), (∀ j, xs[j]? = ys[k + j]?) → fillL xs m (fun j => (ys[j]?).getD undef) k = xs
  | [], _, _, _, _ => by simp only [fillL]
  | _ :: _, _, [], _, _ => by simp only [fillL]
  | x :: xs, ys, true :: bs, k, h => by
    have h0 := h 0
    simp only [List.getElem?_cons_zero, Nat.add_zero] at h0
    simp only [fillL, ← h0, Option.getD_some]
    rw [fillL_start xs ys bs (k + 1) (fun j => by have := h (j + 1); simpa [Nat.add_assoc, Nat.add_comm 1 j] using this)]
  | x :: xs, ys, false :: bs, k, h => by
    simp only [fillL]
    rw [fillL_start xs ys bs (k + 1) (fun j => by have := h (j + 1); simpa [Nat.add_assoc, Nat.add_comm 1 j] using this)]
theorem fill_start (a0 : Act) (m : List Bool) : fillA a0 m (fun j => (a0.tmps.toList[j]?).getD undef) = a0 := by
  simp only [fillA, fillL_start a0.tmps.toList a0.tmps.toList m 0 (fun j => by simp)]
/-! ### The steps. -/
def AllOps (p : Nat → Oper → Prop) : List Oper → Nat → Prop
  | [], _ => True
  | o :: os, k => p k o ∧ AllOps p os (k + 1)
theorem AllOps.get {p : Nat → Oper → Prop} : ∀ {os : List Oper} {k : Nat}, AllOps p os k → ∀ {i : Nat} {o : Oper}, os[i]? = some o → p (k + i) o
  | [], _, _, _, _, h => by simp at h
  | x :: os, k, h, 0, o, hi => by
    obtain rfl : x = o := by simpa using hi
    exact h.1
  | x :: os, k, h, i + 1, o, hi => by
    have := AllOps.get h.2 (i := i) (o := o) (by simpa using hi)
    rwa [show k + 1 + i = k + (i + 1) by omega] at this
def StepOk (P : Program) (ops : Array Oper) (Q : Exit → Act → World → Prop) (o : Oper) (a : Act) (W : World) (G : Value → World → Prop) : Prop :=
  ∀ K : Act → World → Prop, (∀ x W', G x W' → K (a.put o.dst x) W') → if Region.wanted o (yielded ops a.tmps) = true then (Oper.wp P o a W K Q ∨ (o.asks P a W ∧ LetsOut Q)) else K (a.put o.dst undef) W
theorem StepOk.mono {o : Oper} {a : Act} {W : World} {G G' : Value → World → Prop} (h : StepOk P ops Q o a W G) (hg : ∀ x W', G x W' → G' x W') : StepOk P ops Q o a W G' := fun K hK => h K (fun x W' hx => hK x W' (hg x W' hx))
theorem wanted_none {o : Oper} (hg : o.guard = none) (y : Nat → Option Bool) : Region.wanted o y = true := by simp [Region.wanted, hg]
theorem step_value {o : Oper} {a : Act} {W W' : World} {x : Value} {G : Value → World → Prop} (hw : Region.wanted o (yielded ops a.tmps) = true) (hrun : (execOp a.eval o).run P W = .ok (.value x) W') (h : G x W') : StepOk P ops Q o a W G := fun K hK => by
  rw [if_pos hw]
  refine .inl ?_
  unfold Oper.wp
  rw [hrun]
  exact hK x W' h
theorem step_skip {o : Oper} {a : Act} {W W' : World} {G : Value → World → Prop} (hw : Region.wanted o (yielded ops a.tmps) = true) (hrun : (execOp a.eval o).run P W = .ok .skip W') (h : G undef W') : StepOk P ops Q o a W G := fun K hK => by
  rw [if_pos hw]
  refine .inl ?_
  unfold Oper.wp
  rw [hrun]
  exact hK undef W' h
theorem step_off {o : Oper} {a : Act} {W : World} {G : Value → World → Prop} (hw : Region.wanted o (yielded ops a.tmps) = false) (h : G undef W) : StepOk P ops Q o a W G := fun K hK => by
  rw [if_neg (by rw [hw]; simp)]
  exact hK undef W h
/-- One operation, as a walk of its own. -/
theorem step_list {o : Oper} {a : Act} {W : World} {G : Value → World → Prop} (h : ∀ K : Act → World → Prop, (∀ x W', G x W' → K (a.put o.dst x) W') → wpList P ops (Exit.then K Q) [o] a W) : StepOk P ops Q o a W G := fun K hK => by
  have h1 := h K hK
  unfold wpList at h1
  split at h1
  · rename_i hw
    rw [if_pos hw]
    refine h1.imp (fun h2 => ?_) (fun h2 => ⟨h2.1, h2.2⟩)
    unfold Oper.wp at *
    generalize (execOp a.eval o).run P W = r at *
    cases r with
    | ok n w' =>
      cases n <;> simp only [Oper.upon] at h2 ⊢ <;>
        first
          | exact h2
          | exact Calls.mono h2 (fun e w'' he => by cases e <;> exact he)
          | exact Rows.mono h2 (fun _ _ he => he)
    | halt x w' => cases x <;> simp only [Oper.upon] at h2 ⊢ <;> exact h2
  · rename_i hw
    rw [if_neg hw]
    exact h1
theorem fill_lit (xs : List Value) (ds : List Deferred) (m : List Bool) (v : Nat → Value) : fillA ⟨xs.toArray, ds⟩ m v = ⟨(fillL xs m v 0).toArray, ds⟩ := by simp only [fillA]
def dstOf (ops : Array Oper) (j : Nat) : Option Nat := (ops[j]?).bind (·.dst)
def valOf (ops : Array Oper) (v : Nat → Value) (j : Nat) : Value := match dstOf ops j with
  | some d => v d
  | none => undef
/-- The region's form: edges go back; its slots are the mask's, each written once; the last operation waits for all others. -/
def regB (ops : Array Oper) (m : List Bool) (z : Nat) : Bool :=
  backB ops && (List.range ops.size).all (fun j => (match dstOf ops j with | some d => m.getD d false | none => true) && (List.range j).all fun i => match dstOf ops i, dstOf ops j with | some d, some e => d != e | _, _ => true)
    && (List.range ops.size).all (fun j => j == z || Region.reachB .any ops j ops.size z) && (z < ops.size)
theorem regB_back {m : List Bool} {z : Nat} (h : regB ops m z = true) : backB ops = true := by
  simp only [regB, Bool.and_eq_true] at h
  exact h.1.1.1
theorem regB_in {m : List Bool} {z : Nat} (h : regB ops m z = true) {j d : Nat} (hj : dstOf ops j = some d) : m.getD d false = true := by
  simp only [regB, Bool.and_eq_true] at h
  have hlt : j < ops.size := by
    rcases Nat.lt_or_ge j ops.size with h' | h'
    · exact h'
    · simp [dstOf, Array.getElem?_eq_none h'] at hj
  have := List.all_eq_true.1 h.1.1.2 j (List.mem_range.2 hlt)
  simp only [hj, Bool.and_eq_true] at this
  exact this.1
theorem regB_ne {m : List Bool} {z : Nat} (h : regB ops m z = true) {i j d e : Nat} (hi : dstOf ops i = some d) (hj : dstOf ops j = some e) (hne : i ≠ j) : d ≠ e := by
  simp only [regB, Bool.and_eq_true] at h
  have lt : ∀ {i d}, dstOf ops i = some d → i < ops.size := fun {i d} hi => by
    rcases Nat.lt_or_ge i ops.size with h' | h'
    · exact h'
    · simp [dstOf, Array.getElem?_eq_none h'] at hi
  have go : ∀ {i j d e : Nat}, dstOf ops i = some d → dstOf ops j = some e → i < j → d ≠ e := fun {i j d e} hi hj hlt => by
    have h1 := List.all_eq_true.1 h.1.1.2 j (List.mem_range.2 (lt hj))
    simp only [Bool.and_eq_true] at h1
    have h2 := List.all_eq_true.1 h1.2 i (List.mem_range.2 hlt)
    simp only [hi, hj] at h2
    simpa using h2
  rcases Nat.lt_or_ge i j with h' | h'
  · exact go hi hj h'
  · exact (go hj hi (by omega)).symm
theorem regB_last {m : List Bool} {z : Nat} (h : regB ops m z = true) {j : Nat} (hj : j < ops.size) (hne : j ≠ z) : Region.reachB .any ops j ops.size z = true := by
  simp only [regB, Bool.and_eq_true] at h
  have := List.all_eq_true.1 h.1.2 j (List.mem_range.2 hj)
  simpa [hne] using this
theorem valOf_up {m : List Bool} {z : Nat} (h : regB ops m z = true) {v : Nat → Value} {i j d : Nat} {x : Value} (hi : dstOf ops i = some d) (hne : j ≠ i) : valOf ops (upv v d x) j = valOf ops v j := by
  unfold valOf
  cases hj : dstOf ops j with
  | none => rfl
  | some e => exact upv_ne (regB_ne h hj hi hne)
/-- A region that draws, with a last operation: each operation from what it waits for. -/
theorem wp_region_mono {id : Nat} {a0 : Act} {w : World} (z : Nat) (m : List Bool) (hm : P.follows .mixedOrders = true) (hr : regB ops m z = true) (B : World → Prop) (M : World → World → Prop) (F : Nat → Value → World → Prop)
    (hM : ∀ i x W W', B W → M W W' → F i x W → F i x W') (hB : B w.drew)
    (step : AllOps (fun i o => ∀ v W, B W → (∀ j, Region.reachB .any ops j ops.size i = true → F j (valOf ops v j) W) →
      StepOk P ops Q o (fillA a0 m v) W (fun x W' => if i = z then Q .normal ((fillA a0 m v).put o.dst x) W' else B W' ∧ M W W' ∧ F i (match o.dst with | some _ => x | none => undef) W')) ops.toList 0) :
    (Code.region id ops true).wp P Q a0 w := by
  refine wp_region_any hm ?_
  refine wpAny_all (regB_back hr) (fun l a W => if l.getD z false = true then Q .normal a W else ∃ v, a = fillA a0 m v ∧ B W ∧ ∀ j, l.getD j false = true → F j (valOf ops v j) W) ?_ ?_ ops.size _ _ _ (by simp) ?_ ?_ ?_
  · intro l a W i o hs hcl hI ho hun hd K hK
    have hlt : i < ops.size := (Array.getElem?_eq_some_iff.1 ho).1
    have hzf : l.getD z false = false := by
      cases hz : l.getD z false with
      | false => rfl
      | true =>
        have hi : l.getD i false = true := by
          by_cases h : i = z
          · rw [h]; exact hz
          · exact Region.reach_listed hcl _ _ (regB_last hr hlt h) hz
        have h1 : l.getD i false = l.getD i true := by
          simp only [Array.getD_eq_getD_getElem?, Array.getElem?_eq_getElem (show i < l.size by omega), Option.getD_some]
        rw [h1, hun] at hi
        cases hi
    rw [if_neg (by rw [hzf]; simp)] at hI
    obtain ⟨v, rfl, hBW, hF⟩ := hI
    have hst := AllOps.get step (i := i) (o := o) (by simpa using ho) v W hBW (fun j hj => hF j (by
      rw [Nat.zero_add] at hj
      have hdone : ListedClosed .any ops (l.setIfInBounds i true) := hcl.set (mem_ready.2 ⟨hun, o, ho, hd⟩)
      have h1 := Region.reach_listed hdone _ _ hj (by
        simp only [Array.getD_eq_getD_getElem?, Array.getElem?_setIfInBounds_self_of_lt (show i < l.size by omega), Option.getD_some])
      by_cases h : j = i
      · subst h
        exfalso
        have back : ∀ (fuel d : Nat), Region.reachB .any ops j fuel d = true → j < d := by
          intro fuel
          induction fuel with
          | zero => intro d h; simp [Region.reachB] at h
          | succ fuel ih =>
            intro d h
            unfold Region.reachB at h
            cases hod : ops[d]? with
            | none => rw [hod] at h; simp at h
            | some od =>
              rw [hod] at h
              obtain ⟨e, he, h1⟩ := Array.any_eq_true'.1 h
              simp only [Bool.and_eq_true, Bool.or_eq_true, beq_iff_eq] at h1
              have h2 := backB_spec (regB_back hr) hod e he h1.1
              rcases h1.2 with h3 | h3
              · omega
              · have := ih _ h3; omega
        have := back _ _ hj
        omega
      · rwa [getD_set_ne false (Ne.symm h)] at h1))
    rw [Nat.zero_add] at hst
    refine hst K fun x W' hg => hK _ _ ?_
    dsimp only at hg
    by_cases hiz : i = z
    · subst hiz
      rw [if_pos (by simp only [Array.getD_eq_getD_getElem?, Array.getElem?_setIfInBounds_self_of_lt (show i < l.size by omega), Option.getD_some])]
      rwa [if_pos rfl] at hg
    · rw [if_neg (by rw [getD_set_ne false hiz, hzf]; simp)]
      rw [if_neg hiz] at hg
      obtain ⟨hB', hMW, hFx⟩ := hg
      cases hdst : o.dst with
      | none =>
        refine ⟨v, rfl, hB', fun j hj => ?_⟩
        by_cases h : j = i
        · subst h
          have hv : valOf ops v j = undef := by simp [valOf, dstOf, ho, hdst]
          rw [hv]
          rw [hdst] at hFx
          exact hFx
        · rw [getD_set_ne false (Ne.symm h)] at hj
          exact hM j _ W W' hBW hMW (hF j hj)
      | some d =>
        have hdo : dstOf ops i = some d := by simp [dstOf, ho, hdst]
        refine ⟨upv v d x, fill_put (regB_in hr hdo), hB', fun j hj => ?_⟩
        by_cases h : j = i
        · subst h
          have hv : valOf ops (upv v d x) j = x := by simp only [valOf, hdo, upv_same]
          rw [hv]
          rw [hdst] at hFx
          exact hFx
        · rw [getD_set_ne false (Ne.symm h)] at hj
          rw [valOf_up hr hdo h]
          exact hM j _ W W' hBW hMW (hF j hj)
  · intro l a W hI hall
    have hz : z < ops.size := by
      simp only [regB, Bool.and_eq_true, decide_eq_true_eq] at hr
      exact hr.2
    rwa [if_pos (hall z hz)] at hI
  · simp
  · intro j oj _ hl
    rw [getD_replicate_false] at hl
    cases hl
  · rw [if_neg (by rw [getD_replicate_false]; simp)]
    exact ⟨_, (fill_start a0 m).symm, hB, fun j hj => by rw [getD_replicate_false] at hj; cases hj⟩
/-- The form of a region without a last operation. -/
def regB0 (ops : Array Oper) (m : List Bool) : Bool :=
  backB ops && (List.range ops.size).all (fun j => (match dstOf ops j with | some d => m.getD d false | none => true) && (List.range j).all fun i => match dstOf ops i, dstOf ops j with | some d, some e => d != e | _, _ => true)
theorem regB0_back {m : List Bool} (h : regB0 ops m = true) : backB ops = true := by
  simp only [regB0, Bool.and_eq_true] at h
  exact h.1
theorem regB0_in {m : List Bool} (h : regB0 ops m = true) {j d : Nat} (hj : dstOf ops j = some d) : m.getD d false = true := by
  simp only [regB0, Bool.and_eq_true] at h
  have hlt : j < ops.size := by
    rcases Nat.lt_or_ge j ops.size with h' | h'
    · exact h'
    · simp [dstOf, Array.getElem?_eq_none h'] at hj
  have := List.all_eq_true.1 h.2 j (List.mem_range.2 hlt)
  simp only [hj, Bool.and_eq_true] at this
  exact this.1
theorem regB0_ne {m : List Bool} (h : regB0 ops m = true) {i j d e : Nat} (hi : dstOf ops i = some d) (hj : dstOf ops j = some e) (hne : i ≠ j) : d ≠ e := by
  simp only [regB0, Bool.and_eq_true] at h
  have lt : ∀ {i d}, dstOf ops i = some d → i < ops.size := fun {i d} hi => by
    rcases Nat.lt_or_ge i ops.size with h' | h'
    · exact h'
    · simp [dstOf, Array.getElem?_eq_none h'] at hi
  have go : ∀ {i j d e : Nat}, dstOf ops i = some d → dstOf ops j = some e → i < j → d ≠ e := fun {i j d e} hi hj hlt => by
    have h1 := List.all_eq_true.1 h.2 j (List.mem_range.2 (lt hj))
    simp only [Bool.and_eq_true] at h1
    have h2 := List.all_eq_true.1 h1.2 i (List.mem_range.2 hlt)
    simp only [hi, hj] at h2
    simpa using h2
  rcases Nat.lt_or_ge i j with h' | h'
  · exact go hi hj h'
  · exact (go hj hi (by omega)).symm
theorem valOf_up0 {m : List Bool} (h : regB0 ops m = true) {v : Nat → Value} {i j d : Nat} {x : Value} (hi : dstOf ops i = some d) (hne : j ≠ i) : valOf ops (upv v d x) j = valOf ops v j := by
  unfold valOf
  cases hj : dstOf ops j with
  | none => rfl
  | some e => exact upv_ne (regB0_ne h hj hi hne)
/-- A region that draws, whatever comes last. -/
theorem wp_region_fin {id : Nat} {a0 : Act} {w : World} (m : List Bool) (hm : P.follows .mixedOrders = true) (hr : regB0 ops m = true) (B : World → Prop) (M : World → World → Prop) (F : Nat → Value → World → Prop)
    (hM : ∀ i x W W', B W → M W W' → F i x W → F i x W') (hB : B w.drew)
    (step : AllOps (fun i o => ∀ v W, B W → (∀ j, Region.reachB .any ops j ops.size i = true → F j (valOf ops v j) W) →
      StepOk P ops Q o (fillA a0 m v) W (fun x W' => B W' ∧ M W W' ∧ F i (match o.dst with | some _ => x | none => undef) W')) ops.toList 0)
    (fin : ∀ v W, B W → (∀ j, j < ops.size → F j (valOf ops v j) W) → Q .normal (fillA a0 m v) W) :
    (Code.region id ops true).wp P Q a0 w := by
  refine wp_region_any hm ?_
  refine wpAny_all (regB0_back hr) (fun l a W => ∃ v, a = fillA a0 m v ∧ B W ∧ ∀ j, l.getD j false = true → F j (valOf ops v j) W) ?_ ?_ ops.size _ _ _ (by simp) ?_ ?_ ?_
  · intro l a W i o hs hcl hI ho hun hd K hK
    have hlt : i < ops.size := (Array.getElem?_eq_some_iff.1 ho).1
    obtain ⟨v, rfl, hBW, hF⟩ := hI
    have hst := AllOps.get step (i := i) (o := o) (by simpa using ho) v W hBW (fun j hj => hF j (by
      rw [Nat.zero_add] at hj
      have hdone : ListedClosed .any ops (l.setIfInBounds i true) := hcl.set (mem_ready.2 ⟨hun, o, ho, hd⟩)
      have h1 := Region.reach_listed hdone _ _ hj (by
        simp only [Array.getD_eq_getD_getElem?, Array.getElem?_setIfInBounds_self_of_lt (show i < l.size by omega), Option.getD_some])
      by_cases h : j = i
      · subst h
        exfalso
        have back : ∀ (fuel d : Nat), Region.reachB .any ops j fuel d = true → j < d := by
          intro fuel
          induction fuel with
          | zero => intro d h; simp [Region.reachB] at h
          | succ fuel ih =>
            intro d h
            unfold Region.reachB at h
            cases hod : ops[d]? with
            | none => rw [hod] at h; simp at h
            | some od =>
              rw [hod] at h
              obtain ⟨e, he, h1⟩ := Array.any_eq_true'.1 h
              simp only [Bool.and_eq_true, Bool.or_eq_true, beq_iff_eq] at h1
              have h2 := backB_spec (regB0_back hr) hod e he h1.1
              rcases h1.2 with h3 | h3
              · omega
              · have := ih _ h3; omega
        have := back _ _ hj
        omega
      · rwa [getD_set_ne false (Ne.symm h)] at h1))
    rw [Nat.zero_add] at hst
    refine hst K fun x W' hg => hK _ _ ?_
    dsimp only at hg
    obtain ⟨hB', hMW, hFx⟩ := hg
    cases hdst : o.dst with
    | none =>
      refine ⟨v, rfl, hB', fun j hj => ?_⟩
      by_cases h : j = i
      · subst h
        have hv : valOf ops v j = undef := by simp [valOf, dstOf, ho, hdst]
        rw [hv]
        rw [hdst] at hFx
        exact hFx
      · rw [getD_set_ne false (Ne.symm h)] at hj
        exact hM j _ W W' hBW hMW (hF j hj)
    | some d =>
      have hdo : dstOf ops i = some d := by simp [dstOf, ho, hdst]
      refine ⟨upv v d x, fill_put (regB0_in hr hdo), hB', fun j hj => ?_⟩
      by_cases h : j = i
      · subst h
        have hv : valOf ops (upv v d x) j = x := by simp only [valOf, hdo, upv_same]
        rw [hv]
        rw [hdst] at hFx
        exact hFx
      · rw [getD_set_ne false (Ne.symm h)] at hj
        rw [valOf_up0 hr hdo h]
        exact hM j _ W W' hBW hMW (hF j hj)
  · intro l a W hI hall
    obtain ⟨v, rfl, hBW, hF⟩ := hI
    exact fin v W hBW (fun j hj => hF j (hall j hj))
  · simp
  · intro j oj _ hl
    rw [getD_replicate_false] at hl
    cases hl
  · exact ⟨_, (fill_start a0 m).symm, hB, fun j hj => by rw [getD_replicate_false] at hj; cases hj⟩
/-- A composite value, by its own run. -/
theorem wpList_build {rest : List Oper} {o : Oper} {a : Act} {w : World} (hg : o.guard = none) (t : TypeId) (ps : Array (Nat × Operand)) (ho : o.op = .build t ps) (vs : Array (Nat × Value)) (hv : (ps.map fun (i, x) => (i, a.eval x)) = vs) (x : Value)
    (hrun : (Instr.build t vs).run P w = .ok x w) (h : wpList P ops Q rest (a.put o.dst x) w) : wpList P ops Q (o :: rest) a w :=
  wpList_plain hg fun K hK => by
    have h1 : (execOp a.eval o).run P w = .ok (.value x) w := by
      unfold execOp
      simp only [ho, hv, Sem.run_bind, Sem.run_pure, Result.andThen_ok, hrun]
    unfold Oper.wp
    rw [h1]
    exact hK _ _ h
end
end Go.Proofs.YtpdficnjjmapmaaDoorRRR.RI
