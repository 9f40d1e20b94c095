/- sha.New, Write, Len: what a hash is, and what it takes. -/
import Derived.Test.YtpndobhakmjglaaDoorShaTurn
import Derived.Test.YtpndobhakmjglaaDoorQueue
import Derived.Deep.LoopGhost
namespace Go.Proofs.YtpndobhakmjglaaDoor.Sha
open Go.RowKit Go.Proofs.YtpndobhakmjglaaDoorW.PrintWords Go.Proofs.YtpndobhakmjglaaDoorW.PrintLast Go.Proofs.YtpndobhakmjglaaDoorW.PrintMore Go.Proofs.YtpndobhakmjglaaDoor.K
set_option linter.unusedVariables false
def hCells (s : St) (v : Value) (n : Int) : Array Value := #[.int .u32 (wi s.a), .int .u32 (wi s.b), .int .u32 (wi s.c), .int .u32 (wi s.d), .int .u32 (wi s.e), .int .u32 (wi s.f), .int .u32 (wi s.g), .int .u32 (wi s.h), v, .int .i64 n]
/-- A hash at block g: its state, what it has not turned yet (row v), how many bytes it has taken. -/
def HashAt (W : World) (B g : Nat) (v : Value) (s : St) (r : List Int) (n : Int) : Prop :=
  B ≤ g ∧ W.heap[g]? = some (.cells (hCells s v n) 76 (0, 0)) ∧ Kd.Q (Kd.int .u8) 5 W B (fun _ => True) v r
theorem HashAt.below {W W1 : World} {B g : Nat} {v : Value} {s : St} {r : List Int} {n : Int} (h : HashAt W B g v s r n) (hb : Below W.heap.size W W1) : HashAt W1 B g v s r n :=
  ⟨h.1, (hb.block _ (blk_lt h.2.1)).trans h.2.1, Kd.Q_below h.2.2 hb⟩
/-- The row is no part of the hash's own block. -/
theorem HashAt.apart {W : World} {B g : Nat} {v : Value} {s : St} {r : List Int} {n : Int} (h : HashAt W B g v s r n) : some g ≠ v.ownBlock :=
  Kd.Q_ne h.2.2 h.2.1 (by decide)
theorem HashAt.set {W : World} {B g : Nat} {v : Value} {s : St} {r : List Int} {n : Int} (h : HashAt W B g v s r n) (i : Nat) (u : Value) : Kd.Q (Kd.int .u8) 5 (W.setCell ⟨g, i, none⟩ u) B (fun _ => True) v r :=
  Kd.Q_set h.2.2 h.2.1 (by intro q hq; have : q = 5 := by simpa [Kd.int, Kd.scalar] using hq
                           subst this; decide) i u
theorem HashAt.setN {W : World} {B g : Nat} {v : Value} {s : St} {r : List Int} {n : Int} (h : HashAt W B g v s r n) (m : Int) : HashAt (W.setCell ⟨g, 9, none⟩ (.int .i64 m)) B g v s r m :=
  ⟨h.1, blk_set h.2.1 9 _, h.set 9 _⟩
theorem HashAt.setS {W : World} {B g : Nat} {v : Value} {s : St} {r : List Int} {n : Int} (h : HashAt W B g v s r n) (t : St) :
    HashAt ((((((((W.setCell ⟨g, 0, none⟩ (.int .u32 (wi t.a))).setCell ⟨g, 1, none⟩ (.int .u32 (wi t.b))).setCell ⟨g, 2, none⟩ (.int .u32 (wi t.c))).setCell ⟨g, 3, none⟩ (.int .u32 (wi t.d))).setCell ⟨g, 4, none⟩ (.int .u32 (wi t.e))).setCell ⟨g, 5, none⟩ (.int .u32 (wi t.f))).setCell ⟨g, 6, none⟩ (.int .u32 (wi t.g))).setCell ⟨g, 7, none⟩ (.int .u32 (wi t.h))) B g v t r n := by
  have h1 : HashAt (W.setCell ⟨g, 0, none⟩ (.int .u32 (wi t.a))) B g v { s with a := t.a } r n := ⟨h.1, blk_set h.2.1 0 _, h.set 0 _⟩
  have h2 : HashAt _ B g v { s with a := t.a, b := t.b } r n := ⟨h1.1, blk_set h1.2.1 1 _, h1.set 1 _⟩
  have h3 : HashAt _ B g v { s with a := t.a, b := t.b, c := t.c } r n := ⟨h2.1, blk_set h2.2.1 2 _, h2.set 2 _⟩
  have h4 : HashAt _ B g v { s with a := t.a, b := t.b, c := t.c, d := t.d } r n := ⟨h3.1, blk_set h3.2.1 3 _, h3.set 3 _⟩
  have h5 : HashAt _ B g v { s with a := t.a, b := t.b, c := t.c, d := t.d, e := t.e } r n := ⟨h4.1, blk_set h4.2.1 4 _, h4.set 4 _⟩
  have h6 : HashAt _ B g v { s with a := t.a, b := t.b, c := t.c, d := t.d, e := t.e, f := t.f } r n := ⟨h5.1, blk_set h5.2.1 5 _, h5.set 5 _⟩
  have h7 : HashAt _ B g v { s with a := t.a, b := t.b, c := t.c, d := t.d, e := t.e, f := t.f, g := t.g } r n := ⟨h6.1, blk_set h6.2.1 6 _, h6.set 6 _⟩
  exact ⟨h7.1, blk_set h7.2.1 7 _, h7.set 7 _⟩
theorem HashAt.setR {W : World} {B g : Nat} {v v1 : Value} {s : St} {r r1 : List Int} {n : Int} (h : HashAt W B g v s r n) (h1 : Kd.Q (Kd.int .u8) 5 W B (fun _ => True) v1 r1) : HashAt (W.setCell ⟨g, 8, none⟩ v1) B g v1 s r1 n :=
  ⟨h.1, blk_set h.2.1 8 _, Kd.Q_set h1 h.2.1 (by intro q hq; have : q = 5 := by simpa [Kd.int, Kd.scalar] using hq
                                                 subst this; decide) 8 v1⟩
/-- What a hash has done to the world: its own block and its row's, and what is new. -/
def HTouch (g : Nat) (v : Value) (k : Nat) : Prop := k = g ∨ some k = v.ownBlock
theorem not_u8 (s : St) (A : Option Addr) (a b : Nat) (n : Int) (j : Nat) (x : Int) : (hCells s (.slice A a b) n)[j]? ≠ some (.int .u8 x) := by
  intro h
  have hj : j < 10 := by
    have := (Array.getElem?_eq_some_iff.1 h).1
    simpa [hCells] using this
  match j, hj with
  | 0, _ => simp [hCells] at h
  | 1, _ => simp [hCells] at h
  | 2, _ => simp [hCells] at h
  | 3, _ => simp [hCells] at h
  | 4, _ => simp [hCells] at h
  | 5, _ => simp [hCells] at h
  | 6, _ => simp [hCells] at h
  | 7, _ => simp [hCells] at h
  | 8, _ => simp [hCells] at h
  | 9, _ => simp [hCells] at h
theorem C_far {k : IntKind} {W : World} {g t : Nat} {cs : Array Value} {fr : Nat × Nat} (h : W.heap[g]? = some (.cells cs t fr)) (hne : ∀ (j : Nat) (x : Int), cs[j]? ≠ some (Value.int k x)) {A : Option Addr} {n : Nat} {xs : List Int} (hC : Kd.C (Kd.int k) W A n xs) (i : Nat) (u : Value) :
    Kd.C (Kd.int k) (W.setCell ⟨g, i, none⟩ u) A n xs := by
  have hr := reads_int hC
  refine C_int ⟨hr.1, hr.2.1, fun hn => ?_⟩
  obtain ⟨ad, e, hc⟩ := hr.2.2 hn
  refine ⟨ad, e, fun j hj => ?_⟩
  have h1 := hc j hj
  rw [World.cell?_setCell_far _ _ _ _ (fun he => ?_)]
  · exact h1
  · have he' : (ad.add j).block = g := he.symm
    unfold World.cell? at h1
    rw [he', h] at h1
    simp only at h1
    split at h1
    · cases h1
    · exact hne _ _ h1
/-- The row behind an append, laid into the hash. -/
theorem HashAt.laid {W w1 : World} {B g : Nat} {v v1 : Value} {s : St} {r r1 : List Int} {n : Int} (h : HashAt W B g v s r n) (hg : W.grownBy w1 v.ownBlock) (h1 : Kd.Q (Kd.int .u8) 5 w1 B (fun _ => True) v1 r1) :
    w1.heap[g]? = some (.cells (hCells s v n) 76 (0, 0)) ∧ HashAt (w1.setCell ⟨g, 8, none⟩ v1) B g v1 s r1 n := by
  have h2 := blk_grown h.2.1 hg h.apart
  exact ⟨h2, h.1, blk_set h2 8 _, Kd.Q_set h1 h2 (by intro q hq; have : q = 5 := by simpa [Kd.int, Kd.scalar] using hq
                                                     subst this; decide) 8 v1⟩
theorem HashAt.cut {W : World} {B g : Nat} {A : Option Addr} {a c : Nat} {s : St} {r : List Int} {n : Int} (h : HashAt W B g (.slice A a c) s r n) (k : Nat) (hk : k ≤ r.length) :
    HashAt (W.setCell ⟨g, 8, none⟩ (.slice (if c = k then A else A.map (·.add k)) (a - k) (c - k))) B g (.slice (if c = k then A else A.map (·.add k)) (a - k) (c - k)) s (r.drop k) n := by
  have h1 := Kd.Q_drop h.2.2 hk
  rw [show k * (Kd.int .u8).sz = k from Nat.mul_one k] at h1
  exact h.setR h1
theorem run_cut {P : Program} (t e : TypeId) (ht : P.underlying t = some (.slice e)) {z : Option Value} {by_ : Nat} (hinfo : (P.info? e).map (fun i => (i.zero, i.size, i.bytes)) = some (z, 1, by_)) (A : Option Addr) (n c m : Nat) (hm : m ≤ n) (W : World) :
    (Instr.slice t (.slice A n c) (some (.int .i64 (m : Int))) none none).run P W = .ok (.slice (if c = m then A else A.map (·.add m)) (n - m) (c - m)) W := by
  obtain ⟨i, hi, hzz⟩ := Option.map_eq_some_iff.1 hinfo
  simp only [Prod.mk.injEq] at hzz
  have hel : P.elem t = e := by simp [Program.elem, ht]
  have hu : P.underlying t = some (.slice (P.elem t)) := by rw [hel]; exact ht
  rw [run_slice_l W t A n c hu .i64 (m : Int) (Int.natCast_nonneg _) (by omega), hel]
  simp [sizeOf, typeInfo, hi, hzz.2.1, sliced, Result.andThen]
theorem HTouch.kept8 {w w1 : World} {g : Nat} {v : Value} (h : Kept w w1 (HTouch g v)) (a b c d e f x y : Value) :
    Kept w ((((((((w1.setCell ⟨g, 0, none⟩ a).setCell ⟨g, 1, none⟩ b).setCell ⟨g, 2, none⟩ c).setCell ⟨g, 3, none⟩ d).setCell ⟨g, 4, none⟩ e).setCell ⟨g, 5, none⟩ f).setCell ⟨g, 6, none⟩ x).setCell ⟨g, 7, none⟩ y) (HTouch g v) :=
  (((((((h.setCell (.inl (.inl rfl)) _).setCell (.inl (.inl rfl)) _).setCell (.inl (.inl rfl)) _).setCell (.inl (.inl rfl)) _).setCell (.inl (.inl rfl)) _).setCell (.inl (.inl rfl)) _).setCell (.inl (.inl rfl)) _).setCell (.inl (.inl rfl)) _
theorem below8 {B : Nat} {w w1 : World} {g : Nat} (hg : B ≤ g) (h : Below B w w1) (a b c d e f x y : Value) :
    Below B w ((((((((w1.setCell ⟨g, 0, none⟩ a).setCell ⟨g, 1, none⟩ b).setCell ⟨g, 2, none⟩ c).setCell ⟨g, 3, none⟩ d).setCell ⟨g, 4, none⟩ e).setCell ⟨g, 5, none⟩ f).setCell ⟨g, 6, none⟩ x).setCell ⟨g, 7, none⟩ y) :=
  (((((((h.setCell hg _).setCell hg _).setCell hg _).setCell hg _).setCell hg _).setCell hg _).setCell hg _).setCell hg _

/-- The same, its state's numbers written out. -/
theorem turn_lit (sa sb sc sd se sf sg sh : W32) (A : Option Addr) (c : Nat) (b : List Int) (w : World) (hb : Kd.C (Kd.int .u8) w A b.length b) (hbl : b.length = 64) (hc : 64 ≤ c) (hby : ∀ x ∈ b, 0 ≤ x ∧ x < 256) (hL : LaidAt w 1 constA) :
    Calls Tryd.prog 43 #[.agg #[.int .u32 (wi sa), .int .u32 (wi sb), .int .u32 (wi sc), .int .u32 (wi sd), .int .u32 (wi se), .int .u32 (wi sf), .int .u32 (wi sg), .int .u32 (wi sh)], .slice A 64 c] w fun e w' => ∃ t : St, t = turnV ⟨sa, sb, sc, sd, se, sf, sg, sh⟩ b ∧ e = .returned (.agg #[.int .u32 (wi t.a), .int .u32 (wi t.b), .int .u32 (wi t.c), .int .u32 (wi t.d), .int .u32 (wi t.e), .int .u32 (wi t.f), .int .u32 (wi t.g), .int .u32 (wi t.h)]) ∧ Below w.heap.size w w' :=
  (turn_calls ⟨sa, sb, sc, sd, se, sf, sg, sh⟩ A c b w hb hbl hc hby hL).mono fun e w' ⟨he, h⟩ => ⟨_, rfl, he, h⟩

def WroteTo (w : World) (B g : Nat) (v : Value) (s : St) (r : List Int) (n : Int) (e : Ending) (w' : World) : Prop :=
  e = .returned (.tuple #[]) ∧ ∃ v', HashAt w' B g v' s r n ∧ (v'.ownBlock = v.ownBlock ∨ ∃ b, v'.ownBlock = some b ∧ w.heap.size ≤ b) ∧ Kept w w' (HTouch g v) ∧ Below B w w'
def HLoop (w : World) (B g : Nat) (v : Value) (s0 : St) (r0 : List Int) (n : Int) (k : Nat) (wr : World) : Prop :=
  ∃ (v1 : Value) (s : St) (r : List Int), HashAt wr B g v1 s r n ∧ absorb s r = absorb s0 r0 ∧ r.length ≤ k ∧ (∀ x ∈ r, 0 ≤ x ∧ x < 256) ∧ (v1.ownBlock = v.ownBlock ∨ ∃ b, v1.ownBlock = some b ∧ w.heap.size ≤ b) ∧ Kept w wr (HTouch g v) ∧ Below B w wr
set_option maxHeartbeats 4000000 in
set_option maxRecDepth 100000 in
theorem write_calls (B g : Nat) (v : Value) (s : St) (r : List Int) (n : Int) (A : Option Addr) (m c : Nat) (l : List Int) (w : World) (hH : HashAt w B g v s r n) (hB : B ≤ w.heap.size) (hl : Kd.C (Kd.int .u8) w A m l)
    (hby : ∀ x ∈ r ++ l, 0 ≤ x ∧ x < 256) (hlen : r.length + m ≤ 140737488355328) (hn0 : 0 ≤ n) (hn : n + m ≤ 9223372036854775807) (hg : 1 < B) (hL : LaidAt w 1 constA) :
    Calls Tryd.prog 38 #[.pointer (some ⟨g, 0, none⟩), .slice A m c] w (WroteTo w B g v (absorb s (r ++ l)).1 (absorb s (r ++ l)).2 (n + m)) := by
  have HH := Aside0.mk hH
  have HB := Aside0.mk hB
  have HC := Aside0.mk hl
  have HBy := Aside0.mk hby
  have HLen := Aside0.mk hlen
  have HL := Aside0.mk hL
  have HG := Aside0.mk hg
  have h9 : w.cell? ⟨g, 9, none⟩ = some (.int .i64 n) := blk_cell hH.2.1 9
  have h8 : w.cell? ⟨g, 8, none⟩ = some v := blk_cell hH.2.1 8
  have f9 : w.frozen? ⟨g, 9, none⟩ = false := blk_frozen hH.2.1 9
  have f8 : w.frozen? ⟨g, 8, none⟩ = false := blk_frozen hH.2.1 8
  obtain ⟨Av, cv, rfl, hcv⟩ := Kd.Q_slice hH.2.2
  clear hH hB hl hby hlen hg hL
  go_enter Tryd.func38, Tryd.ntmps38
  go_wp2
  go_step3
  have HB0 : Aside0 (Below B w (w.setCell ⟨g, 9, none⟩ (.int .i64 (n + m)))) := ⟨(Below.refl _ _).setCell HH.out.1 _⟩
  have HK0 : Aside0 (Kept w (w.setCell ⟨g, 9, none⟩ (.int .i64 (n + m))) (HTouch g (.slice Av r.length cv))) := ⟨(Kept.refl _ _).setCell (.inl (.inl rfl)) _⟩
  have HH0 := Aside0.mk (HH.out.setN (n + m))
  have HC0 := Aside0.mk (C_far HH.out.2.1 (not_u8 s Av r.length cv n) HC.out 9 (.int .i64 (n + m)))
  go_wp2_with (at_builtin; refine append_q (w0 := w) (W := w.setCell ⟨g, 9, none⟩ (.int .i64 (n + m))) B rfl (.tmp 19) (.tmp 20) 22 5 .u8 1 rfl Tryd.underlying22 info_u8 (by decide) (.slice Av r.length cv) r l A m c rfl rfl HH0.out.2.2 HC0.out HB0.out (by rw [World.size_setCell]; exact HB.out) (by have := HLen.out; omega) ?_; intro v1 w1 hq hb1 hg1 hat1; have HQ1 := Aside0.mk hq; have HB1 := Aside0.mk hb1; have HG1 := Aside0.mk hg1; have HA1 := Aside0.mk hat1; clear hq hb1 hg1 hat1; obtain ⟨A1, c1, rfl, hc1⟩ := Kd.Q_slice HQ1.out; have HLd := Aside0.mk (HH0.out.laid HG1.out HQ1.out); have h81 : w1.cell? ⟨g, 8, none⟩ = some (.slice Av r.length cv) := blk_cell HLd.out.1 8; have f81 : w1.frozen? ⟨g, 8, none⟩ = false := blk_frozen HLd.out.1 8)
  have HI : Aside0 (HLoop w B g (.slice Av r.length cv) s (r ++ l) (n + m) (r.length + l.length) (w1.setCell ⟨g, 8, none⟩ (.slice A1 (r.length + l.length) c1))) := ⟨by
    have e : (r ++ l).length = r.length + l.length := List.length_append
    have h2 := HLd.out.2
    have h3 := HA1.out
    rw [e] at h2 h3
    exact ⟨_, s, r ++ l, h2, rfl, Nat.le_of_eq e, HBy.out, h3.imp id (fun ⟨b, hb, hle⟩ => ⟨b, hb, by rw [World.size_setCell] at hle; exact hle⟩),
      ((HK0.out.of_grown HG1.out (fun k hk => .inl (.inr hk.symm))).setCell (.inl (.inl rfl)) _), HB1.out.setCell HH.out.1 _⟩⟩
  generalize w1.setCell ⟨g, 8, none⟩ (.slice A1 (r.length + l.length) c1) = w2 at *
  clear h9 h8 f9 f8 h81 f81 hc1 hcv
  clear HB0 HK0 HH0 HC0 HQ1 HB1 HG1 HA1 HLd HC
  go_step3
  go_wp2
  go_loopg [] (r.length + l.length) (fun k wr => Aside0 (HLoop w B g (.slice Av r.length cv) s (r ++ l) (n + m) k wr))
  case atStart => exact HI
  case round =>
    obtain ⟨v1, ⟨sa, sb, sc, sd, se, sf, sg, sh⟩, rl, hH1, he1, hk1, hby1, ho1, hK1, hB1⟩ := hrel.out
    clear hrel HI
    obtain ⟨A1, c1, rfl, hc1⟩ := Kd.Q_slice hH1.2.2
    have HH1 := Aside0.mk hH1
    have HE1 := Aside0.mk he1
    have HBy1 := Aside0.mk hby1
    have HO1 := Aside0.mk ho1
    have HK1 := Aside0.mk hK1
    have HB1 := Aside0.mk hB1
    have HLk := Aside0.mk hk1
    clear hH1 he1 hby1 ho1 hK1 hB1 hk1
    have hm1 : rl.length ≤ 9223372036854775807 := (Kd.Q_reads' HH1.out.2.2).2.2.2.1
    have h8 : wr.cell? ⟨g, 8, none⟩ = some (.slice A1 rl.length c1) := blk_cell HH1.out.2.1 8
    by_cases hlt : rl.length < 64
    · have HAb : Aside0 (absorb s (r ++ l) = (⟨sa, sb, sc, sd, se, sf, sg, sh⟩, rl)) := ⟨by rw [← HE1.out, absorb_lt hlt]⟩
      go_wp2
      rw [Exit.noGoto_normal]
      go_end0
      rw [HAb.out]
      exact ⟨rfl, _, HH1.out, HO1.out, HK1.out, HB1.out⟩
    · have h64 : 64 ≤ rl.length := by omega
      have hltD : decide ((rl.length : Int) < 64) = false := by simp; omega
      have h64I : (64 : Int) ≤ rl.length := by omega
      have hc64 : 64 ≤ c1 := by omega
      have hc64I : (64 : Int) ≤ c1 := by omega
      obtain ⟨ad, rfl, hx0'⟩ := int_at (Kd.Q_reads' HH1.out.2.2).2.2 0 (by omega)
      have HAb : Aside0 (absorb (turnV ⟨sa, sb, sc, sd, se, sf, sg, sh⟩ (rl.take 64)) (rl.drop 64) = absorb s (r ++ l)) := ⟨by rw [← HE1.out, absorb_ge hlt]⟩
      have HT : Aside0 ((rl.take 64).length = 64) := ⟨by rw [List.length_take]; omega⟩
      have HTb : Aside0 (∀ x ∈ rl.take 64, 0 ≤ x ∧ x < 256) := ⟨fun x hx => HBy1.out x (List.mem_of_mem_take hx)⟩
      have HDb : Aside0 (∀ x ∈ rl.drop 64, 0 ≤ x ∧ x < 256) := ⟨fun x hx => HBy1.out x (List.mem_of_mem_drop hx)⟩
      have HDl : Aside0 ((rl.drop 64).length = rl.length - 64) := ⟨List.length_drop⟩
      clear hx0' hlt
      have h0 : wr.cell? ⟨g, 0, none⟩ = some (.int .u32 (wi sa)) := blk_cell HH1.out.2.1 0
      have h1 : wr.cell? ⟨g, 1, none⟩ = some (.int .u32 (wi sb)) := blk_cell HH1.out.2.1 1
      have h2 : wr.cell? ⟨g, 2, none⟩ = some (.int .u32 (wi sc)) := blk_cell HH1.out.2.1 2
      have h3 : wr.cell? ⟨g, 3, none⟩ = some (.int .u32 (wi sd)) := blk_cell HH1.out.2.1 3
      have h4 : wr.cell? ⟨g, 4, none⟩ = some (.int .u32 (wi se)) := blk_cell HH1.out.2.1 4
      have h5 : wr.cell? ⟨g, 5, none⟩ = some (.int .u32 (wi sf)) := blk_cell HH1.out.2.1 5
      have h6 : wr.cell? ⟨g, 6, none⟩ = some (.int .u32 (wi sg)) := blk_cell HH1.out.2.1 6
      have h7 : wr.cell? ⟨g, 7, none⟩ = some (.int .u32 (wi sh)) := blk_cell HH1.out.2.1 7
      go_wp2
      have HC2 : Aside0 (∀ W : World, Kd.C (Kd.int .u8) wr.drew (some ad) (rl.take 64).length (rl.take 64)) := ⟨fun _ => by
        have h1 := (Kd.Q_reads' HH1.out.2.2).2.2
        have h2 := take_int 64 (by omega) h1
        rw [HT.out]
        exact Kd.C_drewN h2 1⟩
      have HLd : Aside0 (∀ W : World, LaidAt wr.drew 1 constA) := ⟨fun _ => by
        obtain ⟨t0, fr0, h1⟩ := HL.out
        exact ⟨t0, fr0, (HB1.out.block _ HG.out).trans h1⟩⟩
      refine start_ (n := 14) (S := fun w' => w'.cell? ⟨g, 0, none⟩ = some (.int .u32 (wi sa)) ∧ w'.cell? ⟨g, 1, none⟩ = some (.int .u32 (wi sb)) ∧ w'.cell? ⟨g, 2, none⟩ = some (.int .u32 (wi sc)) ∧ w'.cell? ⟨g, 3, none⟩ = some (.int .u32 (wi sd)) ∧ w'.cell? ⟨g, 4, none⟩ = some (.int .u32 (wi se)) ∧ w'.cell? ⟨g, 5, none⟩ = some (.int .u32 (wi sf)) ∧ w'.cell? ⟨g, 6, none⟩ = some (.int .u32 (wi sg)) ∧ w'.cell? ⟨g, 7, none⟩ = some (.int .u32 (wi sh)) ∧ w'.cell? ⟨g, 8, none⟩ = some (.slice (some ad) rl.length c1)) (ds := [13]) #[false, false, false, false, false, false, false, false, false, false, false, false, false, false] (by kernel_rfl) rfl rfl ⟨h0, h1, h2, h3, h4, h5, h6, h7, h8⟩ (fun hHeld => ?_)
      refine pure_ (i := 0) (N := some 30) (v := ?_) (a' := ?_) #[true, false, false, false, false, false, false, false, false, false, false, false, false, false] rfl rfl (by kernel_rfl) (fun _ _ _ h => h) (Or.inl ⟨by rfl, ?_⟩) ?_ ?_
      rotate_left
      · intro w'
        go_simp
        with_reducible rfl
      rotate_left
      · simp only [Act.put, List.setIfInBounds_toArray, List.set_cons_zero, List.set_cons_succ]
        rfl
      refine pure_ (i := 1) (N := some 31) (v := ?_) (a' := ?_) #[true, true, false, false, false, false, false, false, false, false, false, false, false, false] rfl rfl (by kernel_rfl) (fun _ _ _ h => h) (Or.inl ⟨by rfl, ?_⟩) ?_ ?_
      rotate_left
      · intro w'
        go_simp
        with_reducible rfl
      rotate_left
      · simp only [Act.put, List.setIfInBounds_toArray, List.set_cons_zero, List.set_cons_succ]
        rfl
      refine pure_ (i := 2) (N := some 32) (v := ?_) (a' := ?_) #[true, true, true, false, false, false, false, false, false, false, false, false, false, false] rfl rfl (by kernel_rfl) (fun _ _ _ h => h) (Or.inl ⟨by rfl, ?_⟩) ?_ ?_
      rotate_left
      · intro w'
        go_simp
        with_reducible rfl
      rotate_left
      · simp only [Act.put, List.setIfInBounds_toArray, List.set_cons_zero, List.set_cons_succ]
        rfl
      refine pure_ (i := 3) (N := some 33) (v := ?_) (a' := ?_) #[true, true, true, true, false, false, false, false, false, false, false, false, false, false] rfl rfl (by kernel_rfl) (fun _ _ _ h => h) (Or.inl ⟨by rfl, ?_⟩) ?_ ?_
      rotate_left
      · intro w'
        go_simp
        with_reducible rfl
      rotate_left
      · simp only [Act.put, List.setIfInBounds_toArray, List.set_cons_zero, List.set_cons_succ]
        rfl
      refine pure_ (i := 5) (N := some 35) (v := ?_) (a' := ?_) #[true, true, true, true, false, true, false, false, false, false, false, false, false, false] rfl rfl (by kernel_rfl) (fun _ _ _ h => h) (Or.inl ⟨by rfl, ?_⟩) ?_ ?_
      rotate_left
      · intro w'
        go_simp
        with_reducible rfl
      rotate_left
      · simp only [Act.put, List.setIfInBounds_toArray, List.set_cons_zero, List.set_cons_succ]
        rfl
      refine pure_ (i := 6) (N := some 36) (v := ?_) (a' := ?_) #[true, true, true, true, false, true, true, false, false, false, false, false, false, false] rfl rfl (by kernel_rfl) (fun _ _ _ h => h) (Or.inl ⟨by rfl, ?_⟩) ?_ ?_
      rotate_left
      · intro w'
        go_simp
        with_reducible rfl
      rotate_left
      · simp only [Act.put, List.setIfInBounds_toArray, List.set_cons_zero, List.set_cons_succ]
        rfl
      refine pure_ (i := 7) (N := some 37) (v := ?_) (a' := ?_) #[true, true, true, true, false, true, true, true, false, false, false, false, false, false] rfl rfl (by kernel_rfl) (fun _ _ _ h => h) (Or.inl ⟨by rfl, ?_⟩) ?_ ?_
      rotate_left
      · intro w'
        go_simp
        with_reducible rfl
      rotate_left
      · simp only [Act.put, List.setIfInBounds_toArray, List.set_cons_zero, List.set_cons_succ]
        rfl
      refine take_ (i := 4) (N := some 34) (v := ?_) (a' := ?_) #[true, true, true, true, true, true, true, true, false, false, false, false, false, false] rfl rfl (by kernel_rfl) (fun _ _ _ h => h) (Or.inl ⟨by rfl, ?_⟩) hHeld ?_ ?_
      rotate_left
      · rintro w' ⟨s0, s1, s2, s3, s4, s5, s6, s7, s8⟩
        go_simp
        with_reducible rfl
      rotate_left
      · simp only [Act.put, List.setIfInBounds_toArray, List.set_cons_zero, List.set_cons_succ]
        rfl
      refine take_ (i := 8) (N := some 38) (v := ?_) (a' := ?_) #[true, true, true, true, true, true, true, true, true, false, false, false, false, false] rfl rfl (by kernel_rfl) (fun _ _ _ h => h) (Or.inl ⟨by rfl, ?_⟩) hHeld ?_ ?_
      rotate_left
      · rintro w' ⟨s0, s1, s2, s3, s4, s5, s6, s7, s8⟩
        go_simp
        with_reducible rfl
      rotate_left
      · simp only [Act.put, List.setIfInBounds_toArray, List.set_cons_zero, List.set_cons_succ]
        rfl
      refine pure_ (i := 9) (N := some 39) (v := ?_) (a' := ?_) #[true, true, true, true, true, true, true, true, true, true, false, false, false, false] rfl rfl (by kernel_rfl) (fun _ _ _ h => h) (Or.inl ⟨by rfl, ?_⟩) ?_ ?_
      rotate_left
      · intro w'
        go_simp
        with_reducible rfl
      rotate_left
      · simp only [Act.put, List.setIfInBounds_toArray, List.set_cons_zero, List.set_cons_succ]
        rfl
      refine one_ (i := 10) (N := some 40) #[true, true, true, true, true, true, true, true, true, true, true, false, false, false] rfl rfl (by kernel_rfl) (by decide) (fun K hK => ?_)
      refine goes_ Tryd.func43 (by kernel_rfl) rfl #[.agg #[.int .u32 (wi sa), .int .u32 (wi sb), .int .u32 (wi sc), .int .u32 (wi sd), .int .u32 (wi se), .int .u32 (wi sf), .int .u32 (wi sg), .int .u32 (wi sh)], .slice (some ad) 64 64] (by rfl) rfl rfl (by simp only [List.map_toArray, List.map_cons, List.map_nil]; rfl) ?_
      with_reducible refine (turn_lit sa sb sc sd se sf sg sh (some ad) 64 (rl.take 64) _ (HC2.out wr) HT.out (by decide) HTb.out (HLd.out wr)).mono ?_
      rintro e w3 ⟨t, ht, rfl, hb⟩
      refine ⟨_, rfl, ?_⟩
      have HH3 : Aside0 (HashAt w3 B g (.slice (some ad) rl.length c1) ⟨sa, sb, sc, sd, se, sf, sg, sh⟩ rl (n + m)) := ⟨(HH1.out.below (pw_below_drewN (Below.refl _ _) 1)).below hb⟩
      have HB3 := Aside0.mk hb
      have HTt := Aside0.mk ht
      clear hb ht
      have f0 : w3.frozen? ⟨g, 0, none⟩ = false := blk_frozen HH3.out.2.1 0
      have f1 : w3.frozen? ⟨g, 1, none⟩ = false := blk_frozen HH3.out.2.1 1
      have f2 : w3.frozen? ⟨g, 2, none⟩ = false := blk_frozen HH3.out.2.1 2
      have f3 : w3.frozen? ⟨g, 3, none⟩ = false := blk_frozen HH3.out.2.1 3
      have f4 : w3.frozen? ⟨g, 4, none⟩ = false := blk_frozen HH3.out.2.1 4
      have f5 : w3.frozen? ⟨g, 5, none⟩ = false := blk_frozen HH3.out.2.1 5
      have f6 : w3.frozen? ⟨g, 6, none⟩ = false := blk_frozen HH3.out.2.1 6
      have f7 : w3.frozen? ⟨g, 7, none⟩ = false := blk_frozen HH3.out.2.1 7
      have f8 : w3.frozen? ⟨g, 8, none⟩ = false := blk_frozen HH3.out.2.1 8
      have g0 : w3.cell? ⟨g, 0, none⟩ = some (.int .u32 (wi sa)) := blk_cell HH3.out.2.1 0
      have g1 : w3.cell? ⟨g, 1, none⟩ = some (.int .u32 (wi sb)) := blk_cell HH3.out.2.1 1
      have g2 : w3.cell? ⟨g, 2, none⟩ = some (.int .u32 (wi sc)) := blk_cell HH3.out.2.1 2
      have g3 : w3.cell? ⟨g, 3, none⟩ = some (.int .u32 (wi sd)) := blk_cell HH3.out.2.1 3
      have g4 : w3.cell? ⟨g, 4, none⟩ = some (.int .u32 (wi se)) := blk_cell HH3.out.2.1 4
      have g5 : w3.cell? ⟨g, 5, none⟩ = some (.int .u32 (wi sf)) := blk_cell HH3.out.2.1 5
      have g6 : w3.cell? ⟨g, 6, none⟩ = some (.int .u32 (wi sg)) := blk_cell HH3.out.2.1 6
      have g7 : w3.cell? ⟨g, 7, none⟩ = some (.int .u32 (wi sh)) := blk_cell HH3.out.2.1 7
      have g8 : w3.cell? ⟨g, 8, none⟩ = some (.slice (some ad) rl.length c1) := blk_cell HH3.out.2.1 8
      refine hK.out _ _ ⟨g0, g1, g2, g3, g4, g5, g6, g7, g8⟩ (fun hHeld => ?_)
      clear hK K
      refine norm_ (a' := ?_) ?_ ?_
      rotate_left
      · show Act.put _ (some 40) _ = _
        simp only [Act.put, List.setIfInBounds_toArray, List.set_cons_zero, List.set_cons_succ]
        rfl
      refine pure_ (i := 11) (N := some 41) (v := ?_) (a' := ?_) #[true, true, true, true, true, true, true, true, true, true, true, true, false, false] rfl rfl (by kernel_rfl) (fun _ _ _ h => h) (Or.inl ⟨by rfl, ?_⟩) ?_ ?_
      rotate_left
      · intro w'
        go_simp
        with_reducible rfl
      rotate_left
      · simp only [Act.put, List.setIfInBounds_toArray, List.set_cons_zero, List.set_cons_succ]
        rfl
      refine pure_ (i := 12) (N := some 42) (v := ?_) (a' := ?_) #[true, true, true, true, true, true, true, true, true, true, true, true, true, false] rfl rfl (by kernel_rfl) (fun _ _ _ h => h) (Or.inl ⟨by rfl, ?_⟩) ?_ ?_
      rotate_left
      · intro w'
        go_simp
        with_reducible rfl
      rotate_left
      · simp only [Act.put, List.setIfInBounds_toArray, List.set_cons_zero, List.set_cons_succ]
        rfl
      refine last_ (i := 13) (N := none) #[true, true, true, true, true, true, true, true, true, true, true, true, true, true] rfl rfl (by kernel_rfl) (by decide) (fun K hK => ?_)
      refine skip_ (w1 := ?_) (by rfl) rfl ?_ ?_
      rotate_left
      · go_simp
        rfl
      refine hK.out _ _ ?_
      clear hK K
      refine done_ (by kernel_rfl) ?_
      have HH4 := Aside0.mk (HH3.out.setS t)
      have HK4 := Aside0.mk (HTouch.kept8 ((HK1.out.drewN 1).below HB3.out) (.int .u32 (wi t.a)) (.int .u32 (wi t.b)) (.int .u32 (wi t.c)) (.int .u32 (wi t.d)) (.int .u32 (wi t.e)) (.int .u32 (wi t.f)) (.int .u32 (wi t.g)) (.int .u32 (wi t.h)))
      have HB4 := Aside0.mk (below8 HH3.out.1 (below_then (pw_below_drewN HB1.out 1) (Nat.le_trans HB.out HK1.out.1) HB3.out) (.int .u32 (wi t.a)) (.int .u32 (wi t.b)) (.int .u32 (wi t.c)) (.int .u32 (wi t.d)) (.int .u32 (wi t.e)) (.int .u32 (wi t.f)) (.int .u32 (wi t.g)) (.int .u32 (wi t.h)))
      clear h0 h1 h2 h3 h4 h5 h6 h7 h8 g0 g1 g2 g3 g4 g5 g6 g7 g8 f0 f1 f2 f3 f4 f5 f6 f7 f8 hHeld
      generalize ((((((((w3.setCell ⟨g, 0, none⟩ (.int .u32 (wi t.a))).setCell ⟨g, 1, none⟩ (.int .u32 (wi t.b))).setCell ⟨g, 2, none⟩ (.int .u32 (wi t.c))).setCell ⟨g, 3, none⟩ (.int .u32 (wi t.d))).setCell ⟨g, 4, none⟩ (.int .u32 (wi t.e))).setCell ⟨g, 5, none⟩ (.int .u32 (wi t.f))).setCell ⟨g, 6, none⟩ (.int .u32 (wi t.g))).setCell ⟨g, 7, none⟩ (.int .u32 (wi t.h))) = w4 at *
      have h8 : w4.cell? ⟨g, 8, none⟩ = some (.slice (some ad) rl.length c1) := blk_cell HH4.out.2.1 8
      have f8 : w4.frozen? ⟨g, 8, none⟩ = false := blk_frozen HH4.out.2.1 8
      have hcut : ∀ W : World, (Instr.slice 22 (.slice (some ad) rl.length c1) (some (.int .i64 64)) none none).run Tryd.prog W = .ok (.slice (if c1 = 64 then (some ad) else (some ad).map (·.add 64)) (rl.length - 64) (c1 - 64)) W := fun W => run_cut 22 5 Tryd.underlying22 info_u8 (some ad) rl.length c1 64 h64 W
      have HH5 := Aside0.mk (HH4.out.cut 64 h64)
      obtain ⟨A5, hA5⟩ : ∃ A5, A5 = (if c1 = 64 then (some ad) else (some ad).map (·.add 64)) := ⟨_, rfl⟩
      rw [← hA5] at hcut HH5
      have hO5 : Aside0 ((Value.slice A5 (rl.length - 64) (c1 - 64)).ownBlock = (Value.slice (some ad) rl.length c1).ownBlock) := ⟨by
        rw [hA5]
        split
        · simp [Value.ownBlock]
        · simp [Value.ownBlock, Addr.add]⟩
      clear hA5
      go_wp2
      go_roundg (rl.length - 64)
      case measure => have := HLk.out; omega
      case rel => exact ⟨⟨_, t, rl.drop 64, HH5.out, by rw [HTt.out]; exact HAb.out, by rw [HDl.out]; exact Nat.le_refl _, HDb.out, by rw [hO5.out]; exact HO1.out, HK4.out.setCell (.inl (.inl rfl)) _, HB4.out.setCell HH4.out.1 _⟩⟩
end Go.Proofs.YtpndobhakmjglaaDoor.Sha
