/- Texts put together: K, ShaPure, ArrEq, QuietTail, ShaTurn, Queue. -/
import Derived.Test.YtpdficnjjmapmaaDoorRRRWMore
import Derived.Test.YtpdficnjjmapmaaDoorRRRProg
import Derived.WalkKit
import Derived.WalkSpells
import Derived.LoopN
import Derived.WalkMore
import Derived.ScopeJumps
import Derived.Laws.Rows
import Derived.Lib.SlBytesConst
import Derived.Laws.StructEq
import Derived.Deep.QuietTactic
import Derived.BigQuiet
import Derived.StillTailTactics
set_option linter.unusedVariables false
set_option linter.unusedSimpArgs false
namespace Go.Proofs.YtpdficnjjmapmaaDoorRRR.K
open Go.RowKit Go.Proofs.YtpdficnjjmapmaaDoorRRRW.PrintWords Go.Proofs.YtpdficnjjmapmaaDoorRRRW.PrintLast Go.Proofs.YtpdficnjjmapmaaDoorRRRW.PrintMore

theorem own_int {k : IntKind} {e : Nat} {w : World} {B : Nat} {ok : Nat → Prop} {v : Value} {xs : List Int} (h : Kd.R (Kd.int k) e w B ok v xs) : w.ownsRow B e 1 v xs.length (nums k xs) := Kd.own_of_R h
theorem R_int {k : IntKind} {e : Nat} {w : World} {B : Nat} {v : Value} {xs : List Int} (h : w.ownsRow B e 1 v xs.length (nums k xs)) : Kd.R (Kd.int k) e w B (fun _ => True) v xs := Kd.R_of_own h (fun _ _ => trivial)
theorem reads_int {k : IntKind} {w : World} {A : Option Addr} {n : Nat} {xs : List Int} (h : Kd.C (Kd.int k) w A n xs) : ReadsInt w k A n xs := Kd.reads_of_C (d := (0 : Int)) h
theorem C_int {k : IntKind} {w : World} {A : Option Addr} {n : Nat} {xs : List Int} (h : ReadsInt w k A n xs) : Kd.C (Kd.int k) w A n xs := Kd.C_of_reads (d := (0 : Int)) h
theorem own_C {k : IntKind} {e : Nat} {w : World} {B n c : Nat} {A : Option Addr} {xs : List Int} (h : w.ownsRow B e 1 (.slice A n c) xs.length (nums k xs)) : Kd.C (Kd.int k) w A xs.length xs := (Kd.R_reads' (R_int h)).2.2
theorem C_len {α : Type} {d : Kd α} {w : World} {A : Option Addr} {n : Nat} {xs : List α} (h : Kd.C d w A n xs) : xs.length = n := h.1

/-- An element of a row of rows: the slice that lies there. -/
theorem row_at {α : Type} {d : Kd α} {e : Nat} {w : World} {A : Option Addr} {n : Nat} {xs : List (List α)} (h : Kd.C (Kd.slice e d) w A n xs) (i : Nat) (h1 : i < n) :
    ∃ ad A0 c0, A = some ad ∧ w.cell? (ad.add i) = some (.slice A0 (xs.getD i []).length c0) ∧ (xs.getD i []).length ≤ c0 ∧ d.C w A0 (xs.getD i []).length (xs.getD i []) := by
  obtain ⟨ad, c, e, _, hK, hc0⟩ := Kd.C_get h ([] : List α) i (by omega) (by omega)
  have hc : ∀ j u, c[j]? = some u → w.cell? (ad.add (i * 1 + j)) = some u := hc0
  obtain ⟨A0, c0, rfl, l0, g0⟩ := hK
  exact ⟨ad, A0, c0, e, by have hq := hc 0 _ rfl; rwa [Nat.mul_one, Nat.add_zero] at hq, l0, g0⟩
/-- The same, in a later world. -/
theorem row_at' {α : Type} {d : Kd α} {e : Nat} {w w1 : World} {A : Option Addr} {n : Nat} {xs : List (List α)} (h : Kd.C (Kd.slice e d) w A n xs) (hb : Below w.heap.size w w1) (i : Nat) (h1 : i < n) :
    ∃ ad A0 c0, A = some ad ∧ w1.cell? (ad.add i) = some (.slice A0 (xs.getD i []).length c0) ∧ (xs.getD i []).length ≤ c0 ∧ d.C w A0 (xs.getD i []).length (xs.getD i []) := by
  obtain ⟨ad, A0, c0, h1, h2, h3, h4⟩ := row_at h i h1
  exact ⟨ad, A0, c0, h1, (hb.cell (World.block_lt_of_cell? w _ h2)).trans h2, h3, h4⟩
/-- The same, in whatever later world. -/
theorem row_get {α : Type} {d : Kd α} {e : Nat} {w : World} {A : Option Addr} {n : Nat} {xs : List (List α)} (h : Kd.C (Kd.slice e d) w A n xs) (i : Nat) (h1 : i < n) :
    ∃ ad A0 c0, A = some ad ∧ (∀ w2, Below w.heap.size w w2 → w2.cell? (ad.add i) = some (.slice A0 (xs.getD i []).length c0)) ∧ (xs.getD i []).length ≤ c0 ∧ d.C w A0 (xs.getD i []).length (xs.getD i []) := by
  obtain ⟨ad, A0, c0, h1, h2, h3, h4⟩ := row_at h i h1
  exact ⟨ad, A0, c0, h1, fun w2 hb => (hb.cell (World.block_lt_of_cell? w _ h2)).trans h2, h3, h4⟩
/-- A number of a row. -/
theorem int_at {k : IntKind} {w : World} {A : Option Addr} {n : Nat} {xs : List Int} (h : Kd.C (Kd.int k) w A n xs) (i : Nat) (h1 : i < n) :
    ∃ ad, A = some ad ∧ w.cell? (ad.add i) = some (.int k (xs.getD i 0)) := (reads_int h).2.2 (by omega) |>.imp fun _ h => ⟨h.1, h.2 i h1⟩
theorem int_at' {k : IntKind} {w w1 : World} {A : Option Addr} {n : Nat} {xs : List Int} (h : Kd.C (Kd.int k) w A n xs) (hb : Below w.heap.size w w1) (i : Nat) (h1 : i < n) :
    ∃ ad, A = some ad ∧ w1.cell? (ad.add i) = some (.int k (xs.getD i 0)) := int_at (Kd.C_below h hb) i h1

theorem int_cell {k : IntKind} {w w1 : World} {ad : Addr} {n : Nat} {xs : List Int} (h : Kd.C (Kd.int k) w (some ad) n xs) (hb : Below w.heap.size w w1) (i : Nat) (h1 : i < n) :
    w1.cell? (ad.add i) = some (.int k (xs.getD i 0)) := by
  obtain ⟨ad', e, hx⟩ := int_at' h hb i h1
  cases e
  exact hx
theorem row_cell {α : Type} {d : Kd α} {e : Nat} {w w1 : World} {ad : Addr} {n : Nat} {xs : List (List α)} (h : Kd.C (Kd.slice e d) w (some ad) n xs) (hb : Below w.heap.size w w1) (i : Nat) (h1 : i < n) :
    ∃ A0 c0, w1.cell? (ad.add i) = some (.slice A0 (xs.getD i []).length c0) ∧ (xs.getD i []).length ≤ c0 ∧ d.C w A0 (xs.getD i []).length (xs.getD i []) := by
  obtain ⟨ad', A0, c0, e, hx⟩ := row_at' h hb i h1
  cases e
  exact ⟨A0, c0, hx⟩
/-- 'xs[m:]' of a row that is read. -/
theorem cut_int {P : Program} {k : IntKind} (t e : TypeId) (ht : P.underlying t = some (.slice e)) {z : Value} {by_ : Nat} (hi : (P.info? e).map (fun i => (i.zero, i.size, i.bytes)) = some (some z, 1, by_)) (A : Option Addr) (c : Nat) (xs : List Int) (m : Nat) (hm : m ≤ xs.length) (hc : xs.length ≤ c) :
    ∃ A' : Option Addr, (∀ W : World, (Instr.slice t (.slice A xs.length c) (some (.int .i64 (m : Int))) none none).run P W = .ok (.slice A' (xs.drop m).length (c - m)) W) ∧
      ∀ (w : World), Kd.C (Kd.int k) w A xs.length xs → Kd.C (Kd.int k) w A' (xs.drop m).length (xs.drop m) := by
  obtain ⟨i0, hi0, hzz⟩ := Option.map_eq_some_iff.1 hi
  simp only [Prod.mk.injEq] at hzz
  obtain ⟨A', h1, h2⟩ := print_cut (P := P) t e .i64 ht hi0 hzz.2.1 A xs.length c m hm
  exact ⟨A', fun W => by rw [List.length_drop]; exact h1 W, fun w h => by rw [List.length_drop]; exact C_int (h2 w k xs hc (reads_int h))⟩
/-- 'xs[a:b]' of a row that is read. -/
theorem mid_int {P : Program} {k : IntKind} (t e : TypeId) (ht : P.underlying t = some (.slice e)) {z : Value} {by_ : Nat} (hi : (P.info? e).map (fun i => (i.zero, i.size, i.bytes)) = some (some z, 1, by_)) (A : Option Addr) (c : Nat) (xs : List Int) (a b : Int) (i n : Nat) (ha : a = i) (hb : b = ((i + n : Nat) : Int)) (hm : i + n ≤ xs.length) (hc : xs.length ≤ c) :
    ∃ A' : Option Addr, (∀ W : World, (Instr.slice t (.slice A xs.length c) (some (.int .i64 a)) (some (.int .i64 b)) none).run P W = .ok (.slice A' ((xs.drop i).take n).length (c - i)) W) ∧
      (∀ (w : World), Kd.C (Kd.int k) w A xs.length xs → Kd.C (Kd.int k) w A' ((xs.drop i).take n).length ((xs.drop i).take n)) ∧ ((xs.drop i).take n).length ≤ c - i := by
  obtain ⟨i0, hi0, hzz⟩ := Option.map_eq_some_iff.1 hi
  simp only [Prod.mk.injEq] at hzz
  subst ha hb
  obtain ⟨A', h1, h2, h3⟩ := print_mid_int (P := P) (k := k) t e ht hi0 hzz.2.1 A c xs i ((i + n : Nat) : Int) (by omega) (by omega) (by omega) hc
  simp only [Int.toNat_natCast, List.drop_take, Nat.add_sub_cancel_left] at h1 h2 h3
  exact ⟨A', h1, fun w h => C_int (h2 w (reads_int h)), h3⟩
theorem take_rows {α : Type} {d : Kd α} {w : World} {A : Option Addr} {n : Nat} {xs : List α} (m : Nat) (hm : m ≤ xs.length) (h : Kd.C d w A n xs) : Kd.C d w A m (xs.take m) := by
  obtain rfl := h.1
  have := Kd.C_take h hm
  rwa [show (xs.take m).length = m by rw [List.length_take]; omega] at this
theorem take_int {k : IntKind} {w : World} {A : Option Addr} {xs : List Int} (m : Nat) (hm : m ≤ xs.length) (h : Kd.C (Kd.int k) w A xs.length xs) : Kd.C (Kd.int k) w A m (xs.take m) := C_int ((reads_int h).take_ m hm)

/-- The cells of a block that was just made. -/
theorem reads_lit (w : World) (k : IntKind) (t : Nat) (xs : List Int) (h : xs.length ≤ 9223372036854775807) : ReadsInt (w.alloc (.cells (nums k xs).toArray t)) k (some ⟨w.heap.size, 0, none⟩) xs.length xs := by
  refine ⟨rfl, h, fun _ => ⟨_, rfl, fun j hj => ?_⟩⟩
  rw [add_plain]
  rw [World.cell?, heap_alloc_new]
  simp [nums, List.getElem?_eq_getElem hj, List.getD_eq_getElem?_getD]
/-- The same of a block whose bytes came of a constant (it bears a mark behind its last cell). -/
theorem reads_lit_fr (w : World) (k : IntKind) (t : Nat) (fr : Nat × Nat) (xs : List Int) (h : xs.length ≤ 9223372036854775807) : ReadsInt (w.alloc (.cells (nums k xs).toArray t fr)) k (some ⟨w.heap.size, 0, none⟩) xs.length xs := by
  refine ⟨rfl, h, fun _ => ⟨_, rfl, fun j hj => ?_⟩⟩
  rw [add_plain]
  rw [World.cell?, heap_alloc_new]
  simp [nums, List.getElem?_eq_getElem hj, List.getD_eq_getElem?_getD]
theorem size_drewN (W : World) (m : Nat) : (W.drewN m).heap.size = W.heap.size := rfl
/-- The slices of a block that was just made. -/
theorem rows_lit {α : Type} {d : Kd α} {e : Nat} (w : World) (t : Nat) (vs : List Value) (xs : List (List α)) (hm : xs.length ≤ 9223372036854775807)
    (h : ∀ (j : Nat) (x : List α), xs[j]? = some x → ∃ A c, vs[j]? = some (.slice A x.length c) ∧ x.length ≤ c ∧ Kd.C d w A x.length x) :
    Kd.C (Kd.slice e d) (w.alloc (.cells vs.toArray t)) (some ⟨w.heap.size, 0, none⟩) xs.length xs := by
  refine ⟨rfl, hm, fun _ => ⟨_, rfl, fun j p hj => ?_⟩⟩
  obtain ⟨A, c, h1, h2, h3⟩ := h j p hj
  refine ⟨[.slice A p.length c], rfl, ⟨A, c, rfl, h2, Kd.C_alloc h3 _⟩, fun i u hu => ?_⟩
  obtain ⟨rfl, rfl⟩ : i = 0 ∧ u = .slice A p.length c := by
    cases i with
    | zero => exact ⟨rfl, by simpa using hu.symm⟩
    | succ i => simp at hu
  rw [add_plain, World.cell?, heap_alloc_new]
  simpa [Kd.slice] using h1
theorem bel_size {w W : World} (h : Below w.heap.size w W) (o : Obj) : w.heap.size ≤ (W.alloc o).heap.size := by
  have := h.size
  simp only [World.alloc, Array.size_push]
  omega
theorem bel_alloc {w W : World} (h : Below w.heap.size w W) (o : Obj) : Below w.heap.size w (W.alloc o) := below_alloc h o

/-- A scope with one label: the code behind the label is walked once. -/
theorem wp_scope_once {P : Program} {a : Act} {w : World} {Q : Exit → Act → World → Prop} {c X : Code} (l : Nat) (J : Act → World → Prop) (μ : Act → World → Nat) (hf : findLabel c l = some (.seq .skip X))
    (pass : ∀ a w, J a w → X.wp P (Exit.jump l (fun a' w' => J a' w' ∧ μ a' w' < μ a w) Q) a w)
    (first : (∀ a w, J a w → X.wp P (Exit.jump l J Q) a w) → c.wp P (Exit.jump l J Q) a w) : (Code.scope c).wp P Q a w :=
  wp_scope_jumps l J μ hf (first fun a w hJ => Code.wp_mono (fun e a w q => by
    cases e with
    | goto l' => exact ⟨q.1, q.2.1⟩
    | _ => exact q) (pass a w hJ)) (fun a w hJ => wp_seq (wp_skip (pass a w hJ)))
theorem or_step (m x : Int) (h0 : 0 ≤ m) (h1 : m < 36028797018963968) (h2 : 0 ≤ x) (h3 : x < 256) : Go.bits .or .i64 (m * 256) x = m * 256 + x :=
  bits_join .i64 63 (by decide) (fun n h0 h1 => IntWalk.i64_in _ (by omega)) 8 _ _ (by omega) (by omega) (by omega) h2 (by omega) (by omega)
theorem byte_at {l : List Int} (hb : ∀ x ∈ l, 0 ≤ x ∧ x < 256) (i : Nat) : 0 ≤ l.getD i 0 ∧ l.getD i 0 < 256 := by
  rcases Nat.lt_or_ge i l.length with h | h
  · rw [List.getD_eq_getElem?_getD, List.getElem?_eq_getElem h]; exact hb _ (List.getElem_mem h)
  · rw [List.getD_eq_getElem?_getD, List.getElem?_eq_none h]; exact ⟨by decide, by decide⟩

theorem drawn_cell {w w1 : World} (h : Drawn0 w w1) (a : Addr) : w1.cell? a = w.cell? a := by
  obtain ⟨n, rfl⟩ := h
  rfl
theorem take_eq_step {α : Type} {xs ys : List α} (d : α) (k : Nat) (h : xs.take k = ys.take k) (h1 : k < xs.length) (h2 : k < ys.length) (he : xs.getD k d = ys.getD k d) : xs.take (k + 1) = ys.take (k + 1) := by
  rw [List.take_succ_eq_append_getElem h1, List.take_succ_eq_append_getElem h2, h]
  simp only [List.getD_eq_getElem?_getD, List.getElem?_eq_getElem h1, List.getElem?_eq_getElem h2, Option.getD_some] at he
  rw [he]
theorem Drawn0.trans_ {w w1 w2 : World} (h : Drawn0 w w1) (k : Drawn0 w1 w2) : Drawn0 w w2 := by
  obtain ⟨n, rfl⟩ := h
  obtain ⟨m, rfl⟩ := k
  exact ⟨⟨n + m, World.drewN_drewN ..⟩⟩
theorem C_fix {α : Type} {d : Kd α} {w W : World} {A : Option Addr} {n : Nat} {xs : List α} (h : Kd.C d w A n xs) (hb : Below w.heap.size w W) : Kd.C (Kd.fixed d w) W A n xs := ReadsRow.imp_ h hb (fun _ _ hp => hp)
theorem C_unfix {α : Type} {d : Kd α} {w w1 : World} (hb : Below w.heap.size w w1) {A : Option Addr} {n : Nat} {xs : List α} (h : Kd.C (Kd.fixed d w) w1 A n xs) : Kd.C d w1 A n xs :=
  ⟨h.1, h.2.1, fun hn => by
    obtain ⟨ad, e, hc⟩ := h.2.2 hn
    refine ⟨ad, e, fun j p hj => ?_⟩
    obtain ⟨c, h1, h2, h3⟩ := hc j p hj
    exact ⟨c, h1, d.K_below hb h2, h3⟩⟩
theorem C_drawn {α : Type} {d : Kd α} {w w1 : World} {A : Option Addr} {n : Nat} {xs : List α} (h : Kd.C d w A n xs) (hd : Drawn0 w w1) : Kd.C d w1 A n xs := by
  obtain ⟨m, rfl⟩ := hd
  exact Kd.C_drewN h m
theorem drewN_add (w : World) (a b c : Nat) : (w.drewN (a + b)).drewN c = w.drewN (a + (b + c)) := by rw [World.drewN_drewN, Nat.add_assoc]
theorem drew_C {α : Type} {d : Kd α} {w : World} {A : Option Addr} {n : Nat} {xs : List α} (h : Kd.C d w A n xs) (m : Nat) : Kd.C d (w.drewN m) A n xs := Kd.C_drewN h m

/-- Arrays by value: an element. -/
theorem run_size {P : Program} {e : TypeId} {z : Option Value} {sz by_ : Nat} (hi : (P.info? e).map (fun i => (i.zero, i.size, i.bytes)) = some (z, sz, by_)) (w : World) : (Go.sizeOf e).run P w = Result.ok sz w := by
  obtain ⟨i0, hi0, hzz⟩ := Option.map_eq_some_iff.1 hi
  simp only [Prod.mk.injEq] at hzz
  simp [Go.sizeOf, typeInfo, hi0, hzz.2.1, go_sem]
theorem run_isAgg {P : Program} {e : TypeId} {d : TypeDesc} (h : P.underlying e = some d) (w : World) : (isAgg e).run P w = Result.ok (match d with | .struct _ | .array _ _ => true | _ => false) w := by
  unfold isAgg
  rw [Sem.run_bind, run_underlying h w]
  cases d <;> simp_all
theorem run_index_int {P : Program} (t e : TypeId) (n : Nat) (cs : Array Value) (k ke : IntKind) (i : Nat) (h : P.underlying t = some (.array n e)) (he : P.underlying e = some (.int ke)) {z : Option Value} {by_ : Nat} (hinfo : (P.info? e).map (fun i => (i.zero, i.size, i.bytes)) = some (z, 1, by_)) (hi : i < n) (v : Value) (hv : cs[i]? = some v) (w : World) :
    (Instr.index t (.agg cs) (.int k (i : Int))).run P w = .ok v w := by
  simp only [Instr.index, asIntOf, Sem.run_bind, Sem.run_pure, Result.andThen_ok, run_underlying h]
  have hn : (0 ≤ (i : Int) ∧ (i : Int) < (n : Int)) := by omega
  rw [if_pos hn]
  simp [run_size hinfo, part, run_isAgg he, hv]
theorem run_index_agg {P : Program} (t e : TypeId) (n : Nat) (cs : Array Value) (k : IntKind) (i : Nat) (h : P.underlying t = some (.array n e)) {d : TypeDesc} (he : P.underlying e = some d) (hd : (match d with | .struct _ | .array _ _ => true | _ => false) = true) {z : Option Value} {sz by_ : Nat} (hinfo : (P.info? e).map (fun i => (i.zero, i.size, i.bytes)) = some (z, sz, by_)) (hi : i < n) (w : World) :
    (Instr.index t (.agg cs) (.int k (i : Int))).run P w = .ok (.agg (cs.extract (i * sz) (i * sz + sz))) w := by
  simp only [Instr.index, asIntOf, Sem.run_bind, Sem.run_pure, Result.andThen_ok, run_underlying h]
  have hn : (0 ≤ (i : Int) ∧ (i : Int) < (n : Int)) := by omega
  rw [if_pos hn]
  simp [run_size hinfo, part, run_isAgg he, hd]
theorem cell_new1 (w : World) (v : Value) (t : Nat) : (w.alloc (.cells #[v] t)).cell? ⟨w.heap.size, 0, none⟩ = some v := by
  rw [World.cell?, heap_alloc_new]
  rfl
theorem cell_keep {w w1 : World} {a : Addr} {v : Value} (hb : Below w.heap.size w w1) (h : w.cell? a = some v) : w1.cell? a = some v := (hb.cell (World.block_lt_of_cell? w _ h)).trans h
/-- A package-level variable's block: its cells. -/
def LaidAt (w : World) (g : Nat) (cs : Array Value) : Prop := ∃ t fr, w.heap[g]? = some (.cells cs t fr)
theorem LaidAt.below {w w1 : World} {g : Nat} {cs : Array Value} (h : LaidAt w g cs) (hb : Below w.heap.size w w1) : LaidAt w1 g cs := by
  obtain ⟨t, fr, h⟩ := h
  exact ⟨t, fr, (hb.block g (Array.getElem?_eq_some_iff.1 h).1).trans h⟩

/-- Bytes of a number, four and eight, the highest one first. -/
def be4 (n : Nat) : List Int := [(n : Int) / 16777216 % 256, (n : Int) / 65536 % 256, (n : Int) / 256 % 256, (n : Int) % 256]
def joinL (l : List (List Int)) : List Int := l.flatMap fun p => be4 p.length ++ p
theorem joinL_snoc (l : List (List Int)) (k : Nat) (h : k < l.length) : joinL (l.take (k + 1)) = joinL (l.take k) ++ be4 (l.getD k []).length ++ l.getD k [] := by
  rw [List.take_succ_eq_append_getElem h, joinL, List.flatMap_append]
  simp [joinL, List.getElem?_eq_getElem h]
theorem joinL_le (l : List (List Int)) (k : Nat) : (joinL (l.take k)).length ≤ (joinL l).length := by
  conv => rhs; rw [← List.take_append_drop k l]
  rw [joinL, joinL, List.flatMap_append, List.length_append]
  omega
/-- The eight bytes of a number, as of 64 bits. -/
def be8 (n : Int) : List Int := [n / 72057594037927936 % 256, n / 281474976710656 % 256, n / 1099511627776 % 256, n / 4294967296 % 256, n / 16777216 % 256, n / 65536 % 256, n / 256 % 256, n % 256]
theorem be8_wrap (p q : Int) (h : IntKind.u64.wrap p = q) : be8 p = be8 q ∧ 0 ≤ q := by
  rw [IntKind.wrap_u64] at h
  subst h
  refine ⟨?_, by omega⟩
  simp only [be8, List.cons.injEq, and_true]
  refine ⟨?_, ?_, ?_, ?_, ?_, ?_, ?_, ?_⟩ <;> omega
def numsL (l : List Int) : List Int := l.flatMap be8
theorem numsL_snoc (l : List Int) (k : Nat) (h : k < l.length) : numsL (l.take (k + 1)) = numsL (l.take k) ++ be8 (l.getD k 0) := by
  rw [List.take_succ_eq_append_getElem h, numsL, List.flatMap_append]
  simp [numsL, List.getElem?_eq_getElem h]
theorem numsL_len (l : List Int) : (numsL l).length = 8 * l.length := by
  induction l with
  | nil => rfl
  | cons x l ih => rw [numsL, List.flatMap_cons, List.length_append, ← numsL, ih]; simp [be8]; omega
end Go.Proofs.YtpdficnjjmapmaaDoorRRR.K
namespace Go.Proofs.YtpdficnjjmapmaaDoorRRR.Sha
open Go.RowKit Go.Proofs.YtpdficnjjmapmaaDoorRRRW.PrintWords Go.Proofs.YtpdficnjjmapmaaDoorRRRW.PrintLast Go.Proofs.YtpdficnjjmapmaaDoorRRRW.PrintMore Go.Proofs.YtpdficnjjmapmaaDoorRRR.K
set_option linter.unusedVariables false
abbrev W32 := BitVec 32
/-- A word's number. -/
def wi (x : W32) : Int := (x.toNat : Int)
theorem wi_range (x : W32) : 0 ≤ wi x ∧ wi x < 4294967296 := by
  have := x.isLt
  unfold wi
  omega
theorem wi_inj {x y : W32} (h : wi x = wi y) : x = y := by
  apply BitVec.eq_of_toNat_eq
  unfold wi at h
  omega
theorem ofInt_wi (x : W32) : BitVec.ofInt 32 (wi x) = x := by simp [wi]
theorem wi_wrap (n : Nat) (h : n < 4294967296) : IntKind.u32.wrap (n : Int) = (n : Int) := by rw [IntKind.wrap_u32]; omega
theorem u32_xor (x y : W32) : Go.bits .xor .u32 (wi x) (wi y) = wi (x ^^^ y) := by
  show IntKind.u32.wrap ((BitVec.ofInt 32 (wi x) ^^^ BitVec.ofInt 32 (wi y)).toNat : Int) = _
  rw [ofInt_wi, ofInt_wi]
  exact wi_wrap _ (x ^^^ y).isLt
theorem u32_and (x y : W32) : Go.bits .and .u32 (wi x) (wi y) = wi (x &&& y) := by
  show IntKind.u32.wrap ((BitVec.ofInt 32 (wi x) &&& BitVec.ofInt 32 (wi y)).toNat : Int) = _
  rw [ofInt_wi, ofInt_wi]
  exact wi_wrap _ (x &&& y).isLt
theorem u32_or (x y : W32) : Go.bits .or .u32 (wi x) (wi y) = wi (x ||| y) := by
  show IntKind.u32.wrap ((BitVec.ofInt 32 (wi x) ||| BitVec.ofInt 32 (wi y)).toNat : Int) = _
  rw [ofInt_wi, ofInt_wi]
  exact wi_wrap _ (x ||| y).isLt
theorem u32_add (x y : W32) : IntKind.u32.wrap (wi x + wi y) = wi (x + y) := by
  rw [IntKind.wrap_u32]
  unfold wi
  rw [BitVec.toNat_add]
  omega
theorem u32_shr (x : W32) (k : Nat) : wi x / 2 ^ k = wi (x >>> k) := by
  unfold wi
  rw [BitVec.toNat_ushiftRight, Nat.shiftRight_eq_div_pow]
  simp
theorem u32_shl (x : W32) (k : Nat) : IntKind.u32.wrap (wi x * 2 ^ k) = wi (x <<< k) := by
  rw [IntKind.wrap_u32]
  unfold wi
  rw [BitVec.toNat_shiftLeft, Nat.shiftLeft_eq]
  simp
def rotr (x : W32) (k : Nat) : W32 := x >>> k ||| x <<< (32 - k)
theorem u32_rotr (x : W32) (k : Nat) : Go.bits .or .u32 (wi x / 2 ^ k) (IntKind.u32.wrap (wi x * 2 ^ (32 - k))) = wi (rotr x k) := by
  rw [u32_shr, u32_shl, u32_or]
  rfl
def constL : List Nat := [
  0x428a2f98, 0x71374491, 0xb5c0fbcf, 0xe9b5dba5, 0x3956c25b, 0x59f111f1, 0x923f82a4, 0xab1c5ed5,
  0xd807aa98, 0x12835b01, 0x243185be, 0x550c7dc3, 0x72be5d74, 0x80deb1fe, 0x9bdc06a7, 0xc19bf174,
  0xe49b69c1, 0xefbe4786, 0x0fc19dc6, 0x240ca1cc, 0x2de92c6f, 0x4a7484aa, 0x5cb0a9dc, 0x76f988da,
  0x983e5152, 0xa831c66d, 0xb00327c8, 0xbf597fc7, 0xc6e00bf3, 0xd5a79147, 0x06ca6351, 0x14292967,
  0x27b70a85, 0x2e1b2138, 0x4d2c6dfc, 0x53380d13, 0x650a7354, 0x766a0abb, 0x81c2c92e, 0x92722c85,
  0xa2bfe8a1, 0xa81a664b, 0xc24b8b70, 0xc76c51a3, 0xd192e819, 0xd6990624, 0xf40e3585, 0x106aa070,
  0x19a4c116, 0x1e376c08, 0x2748774c, 0x34b0bcb5, 0x391c0cb3, 0x4ed8aa4a, 0x5b9cca4f, 0x682e6ff3,
  0x748f82ee, 0x78a5636f, 0x84c87814, 0x8cc70208, 0x90befffa, 0xa4506ceb, 0xbef9a3f7, 0xc67178f2]
def kL : List W32 := constL.map (BitVec.ofNat 32)
/-- A state. -/
structure St where
  a : W32
  b : W32
  c : W32
  d : W32
  e : W32
  f : W32
  g : W32
  h : W32
def init : St := ⟨0x6a09e667#32, 0xbb67ae85#32, 0x3c6ef372#32, 0xa54ff53a#32, 0x510e527f#32, 0x9b05688c#32, 0x1f83d9ab#32, 0x5be0cd19#32⟩
def St.l (s : St) : List W32 := [s.a, s.b, s.c, s.d, s.e, s.f, s.g, s.h]
/-- Its numbers, as cells. -/
def St.nums (s : St) : List Int := s.l.map wi
def word (b : List Int) (t : Nat) : W32 := BitVec.ofInt 32 (((b.getD (4 * t) 0 * 256 + b.getD (4 * t + 1) 0) * 256 + b.getD (4 * t + 2) 0) * 256 + b.getD (4 * t + 3) 0)
def sig0 (x : W32) : W32 := rotr x 7 ^^^ rotr x 18 ^^^ x >>> 3
def sig1 (x : W32) : W32 := rotr x 17 ^^^ rotr x 19 ^^^ x >>> 10
def wAt (b : List Int) (w : List W32) (t : Nat) : W32 :=
  if t < 16 then word b t else w.getD (t - 16) 0 + w.getD (t - 7) 0 + sig0 (w.getD (t - 15) 0) + sig1 (w.getD (t - 2) 0)
/-- The first t words of a block. -/
def ws (b : List Int) : Nat → List W32
  | 0 => []
  | t + 1 => ws b t ++ [wAt b (ws b t) t]
theorem ws_length (b : List Int) (t : Nat) : (ws b t).length = t := by
  induction t with
  | zero => rfl
  | succ t ih => simp [ws, ih]
def pOf (s : St) (k w : W32) : W32 := s.h + (rotr s.e 6 ^^^ rotr s.e 11 ^^^ rotr s.e 25) + (s.g ^^^ s.e &&& (s.f ^^^ s.g)) + k + w
def qOf (s : St) : W32 := (rotr s.a 2 ^^^ rotr s.a 13 ^^^ rotr s.a 22) + (s.a &&& s.b ||| s.c &&& (s.a ||| s.b))
def rnd (s : St) (k w : W32) : St := ⟨pOf s k w + qOf s, s.a, s.b, s.c, s.d + pOf s k w, s.e, s.f, s.g⟩
/-- t rounds. -/
def rs (s : St) (w : List W32) : Nat → St
  | 0 => s
  | t + 1 => rnd (rs s w t) (kL.getD t 0) (w.getD t 0)
def St.add (s t : St) : St := ⟨s.a + t.a, s.b + t.b, s.c + t.c, s.d + t.d, s.e + t.e, s.f + t.f, s.g + t.g, s.h + t.h⟩
def turnV (s : St) (b : List Int) : St := (rs s (ws b 64) 64).add s
/-- What a hash is, which was s and r (less than a block), after its bytes. -/
def absorb (s : St) (l : List Int) : St × List Int :=
  if h : l.length < 64 then (s, l) else absorb (turnV s (l.take 64)) (l.drop 64)
termination_by l.length
decreasing_by simp only [List.length_drop]; omega
theorem absorb_lt {s : St} {l : List Int} (h : l.length < 64) : absorb s l = (s, l) := by rw [absorb, dif_pos h]
theorem absorb_ge {s : St} {l : List Int} (h : ¬ l.length < 64) : absorb s l = absorb (turnV s (l.take 64)) (l.drop 64) := by rw [absorb, dif_neg h]
theorem absorb_append (n : Nat) : ∀ (s : St) (l m : List Int), l.length ≤ n → absorb s (l ++ m) = absorb (absorb s l).1 ((absorb s l).2 ++ m) := by
  induction n with
  | zero =>
    intro s l m hn
    rw [absorb_lt (l := l) (by omega)]
  | succ n ih =>
    intro s l m hn
    by_cases h : l.length < 64
    · rw [absorb_lt h]
    · rw [absorb_ge h, absorb_ge (by rw [List.length_append]; omega), List.take_append_of_le_length (by omega), List.drop_append_of_le_length (by omega)]
      exact ih _ _ _ (by rw [List.length_drop]; omega)
theorem absorb_rest (n : Nat) : ∀ (s : St) (l : List Int), l.length ≤ n → (absorb s l).2.length = l.length % 64 ∧ ((∀ x ∈ l, 0 ≤ x ∧ x < 256) → ∀ x ∈ (absorb s l).2, 0 ≤ x ∧ x < 256) := by
  induction n with
  | zero =>
    intro s l hn
    rw [absorb_lt (by omega)]
    exact ⟨by show l.length = _; omega, fun h => h⟩
  | succ n ih =>
    intro s l hn
    by_cases h : l.length < 64
    · rw [absorb_lt h]
      exact ⟨by show l.length = _; omega, fun h => h⟩
    · rw [absorb_ge h]
      obtain ⟨h1, h2⟩ := ih (turnV s (l.take 64)) (l.drop 64) (by rw [List.length_drop]; omega)
      exact ⟨by rw [h1, List.length_drop]; omega, fun hb => h2 fun x hx => hb x (List.mem_of_mem_drop hx)⟩
/-- What stands behind the bytes of a hash: n is how many they are. -/
def tail1 (n : Nat) : List Int := 128 :: List.replicate ((119 - n % 64) % 64) 0
def digL (s : St) : List Int := s.l.flatMap fun x => be4 x.toNat
def sumOf (s : St) (r : List Int) (n : Nat) : List Int := digL (absorb s (r ++ (tail1 n ++ be8 (8 * n)))).1
/-- The digest of bytes. -/
def shaV (l : List Int) : List Int := sumOf init l l.length
theorem sumOf_absorb (l : List Int) : sumOf (absorb init l).1 (absorb init l).2 l.length = shaV l := by
  unfold shaV sumOf
  rw [absorb_append l.length init l _ (Nat.le_refl _)]
theorem digL_length (s : St) : (digL s).length = 32 := rfl
theorem digL_byte (s : St) : ∀ x ∈ digL s, 0 ≤ x ∧ x < 256 := by
  intro x hx
  obtain ⟨y, _, hy⟩ := List.mem_flatMap.1 hx
  simp only [be4, List.mem_cons, List.not_mem_nil, or_false] at hy
  rcases hy with rfl | rfl | rfl | rfl <;> omega
theorem shaV_length (l : List Int) : (shaV l).length = 32 := digL_length _
theorem shaV_byte (l : List Int) : ∀ x ∈ shaV l, 0 ≤ x ∧ x < 256 := digL_byte _
end Go.Proofs.YtpdficnjjmapmaaDoorRRR.Sha
namespace Go.Proofs.YtpdficnjjmapmaaDoorRRR.K
open Go.RowKit Go.Proofs.YtpdficnjjmapmaaDoorRRRW.PrintWords Go.Proofs.YtpdficnjjmapmaaDoorRRRW.PrintLast Go.Proofs.YtpdficnjjmapmaaDoorRRRW.PrintMore
theorem all_range_int : ∀ (xs ys : List Int), xs.length = ys.length → ((List.range xs.length).all fun i => xs.getD i 0 == ys.getD i 0) = (xs == ys)
  | [], [], _ => rfl
  | x :: xs, y :: ys, h => by
    have ih := all_range_int xs ys (by simpa using h)
    rw [List.length_cons, List.range_succ_eq_map, List.all_cons, List.all_map]
    simp only [List.getD_cons_zero, Function.comp_def, List.getD_cons_succ, ih]
    simp [List.cons_beq_cons]
  | [], _ :: _, h => by simp at h
  | _ :: _, [], h => by simp at h
section
variable {P : Program} (w : World)
theorem run_equalIn_nums (d : Nat) (t e : TypeId) (n : Nat) (k : IntKind) (ht : P.underlying t = some (.array n e)) (he : P.underlying e = some (.int k)) (hsz : ∀ w, (sizeOf e).run P w = .ok 1 w)
    (xs ys : List Int) (hx : xs.length = n) (hy : ys.length = n) :
    (Op.equalIn (d + 2) t (.agg (nums k xs).toArray) (.agg (nums k ys).toArray)).run P w = .ok (xs == ys) w := by
  rw [← all_range_int xs ys (hx.trans hy.symm), hx, List.range_eq_range', Op.equalIn]
  simp only [Sem.run_bind, run_underlying ht, Result.andThen_ok, hsz, Std.Legacy.Range.forIn_eq_forIn_range', Std.Legacy.Range.size, Nat.sub_zero, Nat.add_sub_cancel, Nat.div_one]
  have hl : ∀ i ∈ List.range' 0 n 1, i < n := fun i hi => by simpa using (List.mem_range'_1.1 hi).2
  generalize List.range' 0 n 1 = l at hl ⊢
  induction l with
  | nil => simp
  | cons i l ih =>
    have hi : i < n := hl i (by simp)
    have px : (part e (nums k xs).toArray (i * 1)).run P w = .ok (.int k (xs.getD i 0)) w := by
      simp [part, isAgg, run_underlying he, nums, List.getD, List.getElem?_eq_getElem (show i < xs.length by omega)]
    have py : (part e (nums k ys).toArray (i * 1)).run P w = .ok (.int k (ys.getD i 0)) w := by
      simp [part, isAgg, run_underlying he, nums, List.getD, List.getElem?_eq_getElem (show i < ys.length by omega)]
    have pe : (Op.equalIn (d + 1) e (.int k (xs.getD i 0)) (.int k (ys.getD i 0))).run P w = .ok (xs.getD i 0 == ys.getD i 0) w := run_equalIn_int w d e k k _ _ he
    simp only [List.forIn_cons, Sem.run_bind, px, py, pe, Result.andThen_ok, List.all_cons]
    cases hb : (xs.getD i 0 == ys.getD i 0)
    · simp
    · simp only [Bool.not_true, Bool.false_eq_true, if_false, Sem.run_pure, Result.andThen_ok, Bool.true_and]
      exact ih fun j hj => hl j (by simp [hj])
theorem run_eql_nums (t e : TypeId) (n : Nat) (k : IntKind) (ht : P.underlying t = some (.array n e)) (he : P.underlying e = some (.int k)) (hsz : ∀ w, (sizeOf e).run P w = .ok 1 w)
    (xs ys : List Int) (hx : xs.length = n) (hy : ys.length = n) :
    (binOp .eql t (.agg (nums k xs).toArray) (.agg (nums k ys).toArray)).run P w = .ok (.bool (xs == ys)) w := by
  rw [run_eql_struct, run_equalIn_nums w 9998 t e n k ht he hsz xs ys hx hy]
  rfl
theorem run_neq_nums (t e : TypeId) (n : Nat) (k : IntKind) (ht : P.underlying t = some (.array n e)) (he : P.underlying e = some (.int k)) (hsz : ∀ w, (sizeOf e).run P w = .ok 1 w)
    (xs ys : List Int) (hx : xs.length = n) (hy : ys.length = n) :
    (binOp .neq t (.agg (nums k xs).toArray) (.agg (nums k ys).toArray)).run P w = .ok (.bool (!(xs == ys))) w := by
  rw [run_neq_struct, run_equalIn_nums w 9998 t e n k ht he hsz xs ys hx hy]
  rfl
end
end Go.Proofs.YtpdficnjjmapmaaDoorRRR.K
namespace Go.Proofs.YtpdficnjjmapmaaDoorRRR.K
open Go
section
variable {P : Program} {Q : Exit → Act → World → Prop} {C : World → Prop}
/-- The store's stand-in: it waits as the store does, and does nothing. -/
def stood (o : Oper) : Oper := { dst := none, op := .assign (.const (.bool true)), type := 0, pos := "", after := o.after, guard := none }
theorem snoc_at (l : List Oper) (o : Oper) (i : Nat) (hi : i < l.length) : (l ++ [o]).toArray[i]? = l[i]? := by
  rw [List.getElem?_toArray, List.getElem?_append_left hi]
theorem snoc_last (l : List Oper) (o : Oper) : (l ++ [o]).toArray[l.length]? = some o := by
  rw [List.getElem?_toArray, List.getElem?_append_right (Nat.le_refl _), Nat.sub_self]
  rfl
theorem stood_ready (l : List Oper) (o : Oper) (listed : Array Bool) : Region.ready .any (l ++ [stood o]).toArray listed = Region.ready .any (l ++ [o]).toArray listed := by
  unfold Region.ready
  have hs : (l ++ [stood o]).toArray.size = (l ++ [o]).toArray.size := by simp
  rw [hs]
  refine List.filter_congr fun i hi => ?_
  have hi' : i < l.length + 1 := by simpa using hi
  rcases Nat.lt_or_ge i l.length with h | h
  · rw [snoc_at _ _ _ h, snoc_at _ _ _ h]
  · obtain rfl : i = l.length := by omega
    rw [snoc_last, snoc_last]
    rfl
theorem stood_yielded (l : List Oper) (o : Oper) (hd : o.dst = none) (tmps : Array Value) : yielded (l ++ [stood o]).toArray tmps = yielded (l ++ [o]).toArray tmps := by
  funext j
  unfold yielded
  rcases Nat.lt_or_ge j l.length with h | h
  · rw [snoc_at _ _ _ h, snoc_at _ _ _ h]
  · rcases Nat.lt_or_ge l.length j with h2 | h2
    · rw [Array.getElem?_eq_none (by simp; omega), Array.getElem?_eq_none (by simp; omega)]
    · obtain rfl : j = l.length := by omega
      rw [snoc_last, snoc_last, Option.bind_some, Option.bind_some, hd]
      rfl
/-- The store comes up behind all others. -/
theorem last_ready (l : List Oper) (o : Oper) (listed : Array Bool) (hall : ((List.range l.length).all fun i => o.after.any fun e => Region.binds .any e && e.on == i) = true) (hr : l.length ∈ Region.ready .any (l ++ [o]).toArray listed) :
    ∀ i, i < l.length → listed.getD i false = true := by
  intro i hi
  unfold Region.ready at hr
  rw [List.mem_filter, snoc_last] at hr
  obtain ⟨_, h2⟩ := hr
  simp only [Option.map_some, Option.getD_some, Bool.and_eq_true] at h2
  have h3 := List.all_eq_true.1 hall i (List.mem_range.2 hi)
  obtain ⟨j, hj, h4⟩ := Array.any_eq_true.1 h3
  have h5 := Array.all_eq_true.1 h2.2 j hj
  simp only [Bool.and_eq_true, beq_iff_eq] at h4
  rw [h4.1, h4.2] at h5
  simpa using h5
theorem none_ready (l : List Oper) (o : Oper) (listed : Array Bool) (h : ∀ i, i < l.length → listed.getD i false = true) (h2 : listed.getD l.length true = true) : Region.ready .any (l ++ [o]).toArray listed = [] := by
  unfold Region.ready
  rw [List.filter_eq_nil_iff]
  intro i hi
  have hi' : i < l.length + 1 := by simpa using hi
  rcases Nat.lt_or_ge i l.length with h3 | h3
  · have h4 := h i h3
    have h5 : listed.getD i true = true := by
      rcases Nat.lt_or_ge i listed.size with h6 | h6
      · simpa [h6] using h4
      · simp [Array.getElem?_eq_none h6] at h4
    simp [h5]
  · obtain rfl : i = l.length := by omega
    simp [h2]
theorem set_getD (listed : Array Bool) (i j : Nat) (d : Bool) (h : listed.getD j d = true) : (listed.setIfInBounds i true).getD j d = true := by
  by_cases hij : i = j
  · subst hij
    rcases Nat.lt_or_ge i listed.size with h6 | h6
    · simp [h6]
    · simpa [Array.getElem?_eq_none h6, h6] using h
  · simpa [Array.getElem?_setIfInBounds_ne hij] using h
theorem set_getD_self (listed : Array Bool) (i : Nat) : (listed.setIfInBounds i true).getD i true = true := by
  rcases Nat.lt_or_ge i listed.size with h6 | h6
  · simp [h6]
  · simp [h6]
/-- Every operation waits for elder ones alone. -/
def ordered (l : List Oper) : Bool := (List.range l.length).all fun i => ((l[i]?).map fun o => o.after.all fun e => !Region.binds .any e || decide (e.on < i)).getD true
theorem some_ready (l : List Oper) (ho : ordered l = true) (listed : Array Bool) (hs : listed.size = l.length) : ∀ k, k ≤ l.length → (∀ i, i < k → listed.getD i false = true) ∨ ∃ i, i < k ∧ i ∈ Region.ready .any l.toArray listed := by
  intro k
  induction k with
  | zero => intro _; exact .inl fun i hi => absurd hi (Nat.not_lt_zero _)
  | succ k ih =>
    intro hk
    rcases ih (by omega) with h | ⟨i, hi, hr⟩
    · cases hb : listed.getD k false with
      | true =>
        refine .inl fun i hi => ?_
        rcases Nat.lt_or_ge i k with h1 | h1
        · exact h i h1
        · obtain rfl : i = k := by omega
          exact hb
      | false =>
        refine .inr ⟨k, Nat.lt_succ_self k, ?_⟩
        unfold Region.ready
        rw [List.mem_filter]
        have hkl : k < l.length := by omega
        have h1 := List.all_eq_true.1 ho k (List.mem_range.2 hkl)
        rw [List.getElem?_eq_getElem hkl] at h1
        simp only [Option.map_some, Option.getD_some] at h1
        refine ⟨by rw [List.mem_range]; simpa using hkl, ?_⟩
        rw [List.getElem?_toArray, List.getElem?_eq_getElem hkl]
        simp only [Option.map_some, Option.getD_some, Bool.and_eq_true]
        have hks : k < listed.size := by omega
        refine ⟨?_, ?_⟩
        · have h2 : listed[k] = false := by simpa [hks] using hb
          simp [hks, h2]
        · rw [Array.all_eq_true]
          intro j hj
          have h2 := Array.all_eq_true.1 h1 j hj
          simp only [Bool.or_eq_true, decide_eq_true_eq] at h2 ⊢
          exact h2.imp id fun h3 => h _ h3
    · exact .inr ⟨i, by omega, hr⟩
theorem wpAny_stood (l : List Oper) (o : Oper) (hd : o.dst = none) (ho : ordered (l ++ [stood o]) = true) (hall : ((List.range l.length).all fun i => o.after.any fun e => Region.binds .any e && e.on == i) = true) :
    ∀ (fuel : Nat) (listed : Array Bool) (a : Act) (w : World), C w → listed.size = l.length + 1 → listed.getD l.length true = false →
      wpAnyQ P .any (l ++ [stood o]).toArray C (fun a' => ∀ w', C w' → wpList P (l ++ [o]).toArray Q [o] a' w') fuel listed a → wpAny P .any (l ++ [o]).toArray Q fuel listed a w := by
  intro fuel
  induction fuel with
  | zero =>
    intro listed a w hC hs hun h
    exfalso
    rcases some_ready _ ho listed (by simpa using hs) (l.length + 1) (by simp) with h1 | ⟨i, _, h1⟩
    · have h2 := h1 l.length (Nat.lt_succ_self _)
      have hks : l.length < listed.size := by omega
      simp [hks] at hun h2
      rw [hun] at h2
      cases h2
    · rw [h.1] at h1
      cases h1
  | succ fuel ih =>
    intro listed a w hC hs hun h
    have hrd := stood_ready l o listed
    have hlast : ∀ i, i ∈ Region.ready .any (l ++ [o]).toArray listed → i < l.length ∨ i = l.length := fun i hi => by
      unfold Region.ready at hi
      have := List.mem_range.1 (List.mem_filter.1 hi).1
      simp at this
      omega
    refine ⟨fun hr => ?_, fun i hi => ?_⟩
    · exfalso
      rcases some_ready _ ho listed (by simpa using hs) (l.length + 1) (by simp) with h1 | ⟨i, _, h1⟩
      · have h2 := h1 l.length (Nat.lt_succ_self _)
        have hks : l.length < listed.size := by omega
        simp [hks] at hun h2
        rw [hun] at h2
        cases h2
      · rw [hrd, hr] at h1
        cases h1
    · have hq := h.2 i (by rw [hrd]; exact hi)
      rcases hlast i hi with hlt | rfl
      · have hw := wpOp_of_qOp (Q' := Q) (K' := wpAny P .any (l ++ [o]).toArray Q fuel (listed.setIfInBounds i true)) hC
          (fun a' w' hC' hk => ih _ a' w' hC' (by simpa using hs) (by simpa [Array.getElem?_setIfInBounds_ne (show i ≠ l.length by omega)] using hun) hk) hq
        unfold wpOp at hw ⊢
        rw [snoc_at _ _ _ hlt] at hw ⊢
        rw [stood_yielded _ _ hd] at hw
        exact hw
      · have hl := last_ready l o listed hall hi
        have hnone : Region.ready .any (l ++ [o]).toArray (listed.setIfInBounds l.length true) = [] := none_ready l o _ (fun i hi => set_getD _ _ _ _ (hl i hi)) (set_getD_self _ _)
        have hnone' : Region.ready .any (l ++ [stood o]).toArray (listed.setIfInBounds l.length true) = [] := by rw [stood_ready, hnone]
        have hQ : ∀ w', C w' → wpList P (l ++ [o]).toArray Q [o] a w' := by
          unfold qOp at hq
          rw [snoc_last] at hq
          have hwt : Region.wanted (stood o) (yielded (l ++ [stood o]).toArray a.tmps) = true := rfl
          simp only [hwt, if_true] at hq
          obtain ⟨v, _, h2⟩ := hq
          have h3 : wpAnyQ P .any (l ++ [stood o]).toArray C (fun a' => ∀ w', C w' → wpList P (l ++ [o]).toArray Q [o] a' w') fuel (listed.setIfInBounds l.length true) a := h2
          cases fuel with
          | zero => exact h3.2
          | succ fuel => exact h3.1 hnone'
        have hK : ∀ a' w', Q .normal a' w' → wpAny P .any (l ++ [o]).toArray Q fuel (listed.setIfInBounds l.length true) a' w' := by
          intro a' w' hn
          cases fuel with
          | zero => exact ⟨hnone, hn⟩
          | succ fuel => exact ⟨fun _ => hn, fun i hi => by rw [hnone] at hi; cases hi⟩
        have hl2 := hQ w hC
        unfold wpOp
        rw [snoc_last]
        unfold wpList at hl2
        simp only at hl2 ⊢
        split at hl2
        · rename_i hw
          simp only [hw, if_true]
          exact hl2.imp (Oper.wp_mono hK) id
        · rename_i hw
          simp only [hw]
          exact hK _ _ hl2
theorem wpQuiet_append {ops : Array Oper} {Q : Act → Prop} : ∀ (l1 l2 : List Oper) (a : Act), wpQuiet P ops C (wpQuiet P ops C Q l2) l1 a → wpQuiet P ops C Q (l1 ++ l2) a
  | [], _, _, h => h
  | o :: l1, l2, a, h => by
    unfold wpQuiet at h
    show wpQuiet P ops C Q (o :: (l1 ++ l2)) a
    unfold wpQuiet
    split at h
    · rename_i hw
      rw [if_pos hw]
      exact Oper.quiet_mono (fun a' h' => wpQuiet_append l1 l2 a' h') h
    · rename_i hw
      rw [if_neg hw]
      exact wpQuiet_append l1 l2 _ h
theorem wpQuiet_imp {ops : Array Oper} {Q Q' : Act → Prop} (hQ : ∀ a, Q a → Q' a) : ∀ (l : List Oper) (a : Act), wpQuiet P ops C Q l a → wpQuiet P ops C Q' l a
  | [], _, h => hQ _ h
  | o :: l, a, h => by
    unfold wpQuiet at h ⊢
    split at h
    · rename_i hw
      rw [if_pos hw]
      exact Oper.quiet_mono (fun a' h' => wpQuiet_imp hQ l a' h') h
    · rename_i hw
      rw [if_neg hw]
      exact wpQuiet_imp hQ l _ h
theorem stood_quiet (o : Oper) (ops : Array Oper) {Q : Act → Prop} {a : Act} (h : Q a) : wpQuiet P ops C Q [stood o] a := by
  unfold wpQuiet
  rw [if_pos (show Region.wanted (stood o) (yielded ops a.tmps) = true from rfl)]
  refine ⟨.bool true, fun w _ => ?_, h⟩
  unfold Oper.quietAt
  show Oper.quietUpon P C w (.bool true) ((execOp a.eval (stood o)).run P w)
  simp [execOp, stood, Oper.quietUpon, go_sem]
/-- READS AND QUIET CALLS, AND ONE STORE BEHIND THEM ALL: the walk of the text's order serves every order. -/
theorem wp_region_quiet_store {id : Nat} {a : Act} {w : World} {L : List Oper} (n : Nat) (hm : P.follows .mixedOrders = true) {o : Oper} (hL : L.drop n = [o]) (hd : o.dst = none)
    (hB : (Region.lexB .any (L.take n ++ [stood o]).toArray && ordered (L.take n ++ [stood o]) && (List.range (L.take n).length).all fun i => o.after.any fun e => Region.binds .any e && e.on == i) = true)
    (h : wpQuiet P (L.take n ++ [stood o]).toArray (fun w' => ∃ n, w' = w.drewN n) (fun a' => ∀ w', (∃ n, w' = w.drewN n) → wpList P L.toArray Q [o] a' w') (L.take n) a) : (Code.region id L.toArray true).wp P Q a w := by
  simp only [Bool.and_eq_true] at hB
  obtain ⟨⟨h1, h2⟩, h3⟩ := hB
  have hLL : L = L.take n ++ [o] := by rw [← hL, List.take_append_drop]
  generalize L.take n = l at *
  subst hLL
  refine wp_region_any hm ?_
  simp only [Region.lexB, Bool.and_eq_true] at h1
  have hq := wpAnyQ_lex (C := fun w' => ∃ n, w' = w.drewN n) (md := .any) h1.1 (l ++ [stood o]) 0 (Array.replicate (l ++ [stood o]).toArray.size false) a (by simp) (by simpa using h1.2)
    (wpQuiet_append l [stood o] a (by
      refine wpQuiet_imp ?_ l a h
      exact fun a' h' => stood_quiet o _ h'))
  have := wpAny_stood (Q := Q) l o hd h2 h3 (l ++ [stood o]).length (Array.replicate (l ++ [stood o]).toArray.size false) a { w with drawn := w.drawn + 1 } ⟨1, rfl⟩ (by simp) (by simp) hq
  simpa using this
end
end Go.Proofs.YtpdficnjjmapmaaDoorRRR.K
namespace Go.Proofs.YtpdficnjjmapmaaDoorRRR.Sha
open Go.RowKit Go.Proofs.YtpdficnjjmapmaaDoorRRRW.PrintWords Go.Proofs.YtpdficnjjmapmaaDoorRRRW.PrintLast Go.Proofs.YtpdficnjjmapmaaDoorRRRW.PrintMore Go.Proofs.YtpdficnjjmapmaaDoorRRR.K
set_option linter.unusedVariables false
set_option maxHeartbeats 1000000 in
theorem round_calls (x : W32) (k : Nat) (w : World) (h : k ≤ 32) :
    Calls Tryd.prog 38 #[.int .u32 (wi x), .int .i64 (k : Int)] w fun e w' => e = .returned (.int .u32 (wi (rotr x k))) ∧ Drawn0 w w' := by
  have HR := Aside0.mk (u32_rotr x k)
  generalize wi (rotr x k) = r at *
  generalize wi x = y at *
  have h1 : (0 : Int) ≤ 32 - (k : Int) := by omega
  have h2 : (32 : Int) - (k : Int) ≤ 32 := by omega
  have h3 : IntKind.i64.wrap (32 - (k : Int)) = 32 - (k : Int) := IntWalk.i64_in _ (by omega)
  have h4 : ((32 : Int) - (k : Int)).toNat = 32 - k := by omega
  go_enter Tryd.func38, Tryd.ntmps38
  go_wp2
  go_quiet (fail)
  go_wp2
  go_ret
  exact ⟨by rw [← HR.out, IntKind.wrap_u32]; rfl, ⟨nq, rfl⟩⟩
theorem round_q (x : W32) (k : Int) (w : World) (n : Nat) (h0 : 0 ≤ k) (h : k ≤ 32) :
    Calls Tryd.prog 38 #[.int .u32 (wi x), .int .i64 k] (w.drewN n) fun e w' => e = .returned (.int .u32 (wi (rotr x k.toNat))) ∧ ∃ m, w' = w.drewN m := by
  obtain ⟨j, rfl⟩ := Int.eq_ofNat_of_zero_le h0
  refine (round_calls x j _ (by omega)).mono ?_
  rintro e w' ⟨he, m, hm⟩
  exact ⟨he, n + m, by rw [hm, World.drewN_drewN]⟩
def sArr (l : List W32) : Array Value := (nums .u32 (l.map wi)).toArray
def wcells (b : List Int) (t : Nat) : List W32 := ws b t ++ List.replicate (64 - t) 0
def constA : Array Value := sArr kL
theorem sArr_get (l : List W32) (i : Nat) (h : i < l.length) : (sArr l)[i]? = some (.int .u32 (wi (l.getD i 0))) := by
  simp [sArr, nums, List.getElem?_eq_getElem h, List.getD_eq_getElem?_getD]
theorem sArr_set (l : List W32) (i : Nat) (x : W32) : (sArr l).setIfInBounds i (.int .u32 (wi x)) = sArr (l.set i x) := by
  apply Array.ext'
  simp [sArr, nums, List.map_set]
theorem wcells_get (b : List Int) (t i : Nat) (h : i < t) : (wcells b t).getD i 0 = (ws b t).getD i 0 := by
  unfold wcells
  rw [List.getD_eq_getElem?_getD, List.getD_eq_getElem?_getD, List.getElem?_append_left (by rw [ws_length]; exact h)]
theorem wcells_set (b : List Int) (t : Nat) (h : t < 64) : (wcells b t).set t (wAt b (ws b t) t) = wcells b (t + 1) := by
  unfold wcells
  rw [List.set_append_right _ _ (by rw [ws_length]; exact Nat.le_refl _), ws_length, Nat.sub_self, show 64 - t = (64 - (t + 1)) + 1 by omega, List.replicate_succ, List.set_cons_zero]
  simp [ws]
theorem wcells_length (b : List Int) (t : Nat) (h : t ≤ 64) : (wcells b t).length = 64 := by
  unfold wcells
  rw [List.length_append, ws_length, List.length_replicate]
  omega
def TurnW (w : World) (a : Array Value) (l : List W32) (wr : World) : Prop :=
  wr.heap[w.heap.size]? = some (.cells a 61 (0, 0)) ∧ wr.heap[w.heap.size + 1]? = some (.cells (sArr (List.replicate 8 0)) 61 (0, 0)) ∧ wr.heap[w.heap.size + 1 + 1]? = some (.cells (sArr l) 74 (0, 0)) ∧ Below w.heap.size w wr
theorem alloc3 (w : World) (o1 o2 o3 : Obj) : (((w.alloc o1).alloc o2).alloc o3).heap[w.heap.size]? = some o1 ∧ (((w.alloc o1).alloc o2).alloc o3).heap[w.heap.size + 1]? = some o2 ∧ (((w.alloc o1).alloc o2).alloc o3).heap[w.heap.size + 1 + 1]? = some o3 := by
  refine ⟨?_, ?_, ?_⟩
  · show (((w.heap.push o1).push o2).push o3)[w.heap.size]? = some o1
    rw [Array.getElem?_push, if_neg (by simp only [Array.size_push]; omega), Array.getElem?_push, if_neg (by simp only [Array.size_push]; omega), Array.getElem?_push, if_pos rfl]
  · show (((w.heap.push o1).push o2).push o3)[w.heap.size + 1]? = some o2
    rw [Array.getElem?_push, if_neg (by simp only [Array.size_push]; omega), Array.getElem?_push, if_pos (by simp only [Array.size_push])]
  · show (((w.heap.push o1).push o2).push o3)[w.heap.size + 1 + 1]? = some o3
    rw [Array.getElem?_push, if_pos (by simp only [Array.size_push])]
theorem TurnW.start (w : World) (a b l : Array Value) (t1 t2 t3 : Nat) (L : List W32) (hb : b = sArr (List.replicate 8 0)) (hl : l = sArr L) (h1 : t1 = 61) (h2 : t2 = 61) (h3 : t3 = 74) : TurnW w a L (((w.alloc (.cells a t1)).alloc (.cells b t2)).alloc (.cells l t3)) := by
  unfold TurnW
  rw [← hb, ← hl, ← h2, ← h3]
  obtain ⟨e1, e2, e3⟩ := alloc3 w (.cells a t1) (.cells b t2) (.cells l t3)
  rw [h1] at e1 e2 e3 ⊢
  exact ⟨by rw [e1, h2], e2, e3, bel_alloc (bel_alloc (bel_alloc (Below.refl _ _) _) _) _⟩
theorem TurnW.below {w w1 w2 : World} {a : Array Value} {l : List W32} (h : TurnW w a l w1) (hb : Below w1.heap.size w1 w2) : TurnW w a l w2 :=
  ⟨(hb.block _ (blk_lt h.1)).trans h.1, (hb.block _ (blk_lt h.2.1)).trans h.2.1, (hb.block _ (blk_lt h.2.2.1)).trans h.2.2.1, below_step h.2.2.2 hb⟩
theorem TurnW.set {w w1 : World} {a : Array Value} {l : List W32} (h : TurnW w a l w1) (i : Nat) (x : W32) : TurnW w a (l.set i x) (w1.setCell ⟨w.heap.size + 1 + 1, i, none⟩ (.int .u32 (wi x))) :=
  ⟨blk_far h.1 (by show w.heap.size ≠ w.heap.size + 1 + 1; omega) _, blk_far h.2.1 (by show w.heap.size + 1 ≠ w.heap.size + 1 + 1; omega) _, by rw [← sArr_set]; exact blk_set h.2.2.1 i _, h.2.2.2.setCell (by simp; omega) _⟩
theorem TurnW.cell {w w1 : World} {a : Array Value} {l : List W32} (h : TurnW w a l w1) (i : Nat) (hi : i < l.length) : w1.cell? ⟨w.heap.size + 1 + 1, i, none⟩ = some (.int .u32 (wi (l.getD i 0))) :=
  (blk_cell h.2.2.1 i).trans (sArr_get l i hi)
theorem TurnW.froz {w w1 : World} {a : Array Value} {l : List W32} (h : TurnW w a l w1) (i : Nat) : w1.frozen? ⟨w.heap.size + 1 + 1, i, none⟩ = false := blk_frozen h.2.2.1 i
theorem info_u8 : (Tryd.prog.info? 5).map (fun i => (i.zero, i.size, i.bytes)) = some (some (.int .u8 0), 1, 1) := by kernel_rfl
theorem blkS_set {w : World} {g t : Nat} {m : List W32} (h : w.heap[g]? = some (.cells (sArr m) t (0, 0))) (i : Nat) (x : W32) : (w.setCell ⟨g, i, none⟩ (.int .u32 (wi x))).heap[g]? = some (.cells (sArr (m.set i x)) t (0, 0)) := by
  rw [← sArr_set]
  exact blk_set h i _
theorem set8_list : ∀ (m : List W32) (hm : m.length = 8) (t : St), (((((((m.set 0 t.a).set 1 t.b).set 2 t.c).set 3 t.d).set 4 t.e).set 5 t.f).set 6 t.g).set 7 t.h = t.l
  | [_, _, _, _, _, _, _, _], _, _ => rfl
theorem blkS_set8 {w : World} {g t : Nat} {m : List W32} (h : w.heap[g]? = some (.cells (sArr m) t (0, 0))) (hm : m.length = 8) (s : St) :
    ((((((((w.setCell ⟨g, 0, none⟩ (.int .u32 (wi s.a))).setCell ⟨g, 1, none⟩ (.int .u32 (wi s.b))).setCell ⟨g, 2, none⟩ (.int .u32 (wi s.c))).setCell ⟨g, 3, none⟩ (.int .u32 (wi s.d))).setCell ⟨g, 4, none⟩ (.int .u32 (wi s.e))).setCell ⟨g, 5, none⟩ (.int .u32 (wi s.f))).setCell ⟨g, 6, none⟩ (.int .u32 (wi s.g))).setCell ⟨g, 7, none⟩ (.int .u32 (wi s.h))).heap[g]? = some (.cells (sArr s.l) t (0, 0)) := by
  have h8 := blkS_set (blkS_set (blkS_set (blkS_set (blkS_set (blkS_set (blkS_set (blkS_set h 0 s.a) 1 s.b) 2 s.c) 3 s.d) 4 s.e) 5 s.f) 6 s.g) 7 s.h
  rw [set8_list m hm s] at h8
  exact h8
/-- The second part: the state that is turned, in a block of its own. -/
def TurnS (w : World) (a : Array Value) (wl : List W32) (n : Nat) (s : St) (wr : World) : Prop :=
  TurnW w a wl wr ∧ wr.heap[n]? = some (.cells (sArr s.l) 61 (0, 0)) ∧ w.heap.size + 1 + 1 < n
theorem TurnW.other {w w1 : World} {a : Array Value} {l : List W32} (h : TurnW w a l w1) (n i : Nat) (hn : w.heap.size + 1 + 1 < n) (v : Value) : TurnW w a l (w1.setCell ⟨n, i, none⟩ v) :=
  ⟨blk_far h.1 (by show w.heap.size ≠ n; omega) _, blk_far h.2.1 (by show w.heap.size + 1 ≠ n; omega) _, blk_far h.2.2.1 (by show w.heap.size + 1 + 1 ≠ n; omega) _, h.2.2.2.setCell (by show w.heap.size ≤ n; omega) _⟩
theorem TurnS.below {w w1 w2 : World} {a : Array Value} {l : List W32} {n : Nat} {s : St} (h : TurnS w a l n s w1) (hb : Below w1.heap.size w1 w2) : TurnS w a l n s w2 :=
  ⟨h.1.below hb, (hb.block _ (blk_lt h.2.1)).trans h.2.1, h.2.2⟩
theorem TurnS.start {w w1 : World} {a : Array Value} {l : List W32} (h : TurnW w a l w1) (s : St) : TurnS w a l w1.heap.size s (w1.alloc (.cells (sArr s.l) 61)) :=
  ⟨h.below (bel_alloc (Below.refl _ _) _), heap_alloc_new _ _, by have := blk_lt h.2.2.1; omega⟩
theorem TurnS.set8 {w w1 : World} {a : Array Value} {l : List W32} {n : Nat} {s : St} (h : TurnS w a l n s w1) (t : St) :
    TurnS w a l n t ((((((((w1.setCell ⟨n, 0, none⟩ (.int .u32 (wi t.a))).setCell ⟨n, 1, none⟩ (.int .u32 (wi t.b))).setCell ⟨n, 2, none⟩ (.int .u32 (wi t.c))).setCell ⟨n, 3, none⟩ (.int .u32 (wi t.d))).setCell ⟨n, 4, none⟩ (.int .u32 (wi t.e))).setCell ⟨n, 5, none⟩ (.int .u32 (wi t.f))).setCell ⟨n, 6, none⟩ (.int .u32 (wi t.g))).setCell ⟨n, 7, none⟩ (.int .u32 (wi t.h))) :=
  ⟨(((((((h.1.other n _ h.2.2 _).other n _ h.2.2 _).other n _ h.2.2 _).other n _ h.2.2 _).other n _ h.2.2 _).other n _ h.2.2 _).other n _ h.2.2 _).other n _ h.2.2 _,
    blkS_set8 h.2.1 rfl t, h.2.2⟩
/-- The third part: row by row. -/
def TurnL (w : World) (a : Array Value) (wl : List W32) (n : Nat) (l : List W32) (wr : World) : Prop :=
  TurnW w a wl wr ∧ wr.heap[n]? = some (.cells (sArr l) 61 (0, 0)) ∧ w.heap.size + 1 + 1 < n
theorem TurnL.below {w w1 w2 : World} {a : Array Value} {l m : List W32} {n : Nat} (h : TurnL w a l n m w1) (hb : Below w1.heap.size w1 w2) : TurnL w a l n m w2 :=
  ⟨h.1.below hb, (hb.block _ (blk_lt h.2.1)).trans h.2.1, h.2.2⟩
theorem TurnL.set {w w1 : World} {a : Array Value} {l m : List W32} {n : Nat} (h : TurnL w a l n m w1) (i : Nat) (x : W32) : TurnL w a l n (m.set i x) (w1.setCell ⟨n, i, none⟩ (.int .u32 (wi x))) :=
  ⟨h.1.other n i h.2.2 _, by rw [← sArr_set]; exact blk_set h.2.1 i _, h.2.2⟩
def mix (l m : List W32) (i : Nat) : List W32 := (List.range 8).map fun j => if j < i then l.getD j 0 + m.getD j 0 else l.getD j 0
theorem mix_at (l m : List W32) (i j : Nat) (hj : j < 8) : (mix l m i).getD j 0 = if j < i then l.getD j 0 + m.getD j 0 else l.getD j 0 := by
  simp [mix, List.getD_eq_getElem?_getD, hj]
theorem mix_length (l m : List W32) (i : Nat) : (mix l m i).length = 8 := by simp [mix]
theorem mix_set (l m : List W32) (i : Nat) (hi : i < 8) : (mix l m i).set i (l.getD i 0 + m.getD i 0) = mix l m (i + 1) := by
  refine List.ext_getElem (by simp [mix]) fun j h1 h2 => ?_
  have hj : j < 8 := by simpa [mix] using h2
  simp only [mix, List.getElem_set, List.getElem_map, List.getElem_range]
  by_cases h : i = j
  · subst h
    rw [if_pos rfl, if_pos (Nat.lt_succ_self _)]
  · rw [if_neg h]
    by_cases h3 : j < i
    · rw [if_pos h3, if_pos (by omega)]
    · rw [if_neg h3, if_neg (by omega)]
theorem mix_start (s : St) (m : List W32) : mix s.l m 0 = s.l := rfl
theorem mix_end (s t : St) : mix s.l t.l 8 = (s.add t).l := rfl
theorem TurnL.out8 {w w1 : World} {a : Array Value} {l m : List W32} {n : Nat} (h : TurnL w a l n m w1) (t : St) :
    ((((((((w1.setCell ⟨w.heap.size + 1, 0, none⟩ (.int .u32 (wi t.a))).setCell ⟨w.heap.size + 1, 1, none⟩ (.int .u32 (wi t.b))).setCell ⟨w.heap.size + 1, 2, none⟩ (.int .u32 (wi t.c))).setCell ⟨w.heap.size + 1, 3, none⟩ (.int .u32 (wi t.d))).setCell ⟨w.heap.size + 1, 4, none⟩ (.int .u32 (wi t.e))).setCell ⟨w.heap.size + 1, 5, none⟩ (.int .u32 (wi t.f))).setCell ⟨w.heap.size + 1, 6, none⟩ (.int .u32 (wi t.g))).setCell ⟨w.heap.size + 1, 7, none⟩ (.int .u32 (wi t.h))).heap[w.heap.size + 1]? = some (.cells (sArr t.l) 61 (0, 0)) ∧
    Below w.heap.size w ((((((((w1.setCell ⟨w.heap.size + 1, 0, none⟩ (.int .u32 (wi t.a))).setCell ⟨w.heap.size + 1, 1, none⟩ (.int .u32 (wi t.b))).setCell ⟨w.heap.size + 1, 2, none⟩ (.int .u32 (wi t.c))).setCell ⟨w.heap.size + 1, 3, none⟩ (.int .u32 (wi t.d))).setCell ⟨w.heap.size + 1, 4, none⟩ (.int .u32 (wi t.e))).setCell ⟨w.heap.size + 1, 5, none⟩ (.int .u32 (wi t.f))).setCell ⟨w.heap.size + 1, 6, none⟩ (.int .u32 (wi t.g))).setCell ⟨w.heap.size + 1, 7, none⟩ (.int .u32 (wi t.h))) :=
  ⟨blkS_set8 h.1.2.1 (List.length_replicate ..) t,
    (((((((h.1.2.2.2.setCell (Nat.le_succ _) _).setCell (Nat.le_succ _) _).setCell (Nat.le_succ _) _).setCell (Nat.le_succ _) _).setCell (Nat.le_succ _) _).setCell (Nat.le_succ _) _).setCell (Nat.le_succ _) _).setCell (Nat.le_succ _) _⟩
theorem info_u32 : (Tryd.prog.info? 60).map (fun i => (i.zero, i.size, i.bytes)) = some (some (.int .u32 0), 1, 4) := by kernel_rfl
theorem const_at (k : Nat) (hk : k < 64) (W : World) : (Instr.index 74 (.agg constA) (.int .i64 (k : Int))).run Tryd.prog W = .ok (.int .u32 (wi (kL.getD k 0))) W :=
  run_index_int 74 60 64 constA .i64 .u32 k Tryd.underlying74 Tryd.underlying60 info_u32 hk _ (sArr_get kL k hk) W
theorem word_or (x0 x1 x2 x3 : Int) (a0 : 0 ≤ x0) (a1 : 0 ≤ x1) (a2 : 0 ≤ x2) (a3 : 0 ≤ x3) (b0 : x0 < 256) (b1 : x1 < 256) (b2 : x2 < 256) (b3 : x3 < 256) :
    Go.bits .or .u32 (x0 * 16777216) (x1 * 65536) = x0 * 16777216 + x1 * 65536 ∧ Go.bits .or .u32 (x0 * 16777216 + x1 * 65536) (x2 * 256) = x0 * 16777216 + x1 * 65536 + x2 * 256 ∧ Go.bits .or .u32 (x0 * 16777216 + x1 * 65536 + x2 * 256) x3 = x0 * 16777216 + x1 * 65536 + x2 * 256 + x3 := by
  have hk : ∀ n : Int, 0 ≤ n → n < 2 ^ 32 → IntKind.u32.wrap n = n := fun n h0 h1 => by rw [IntKind.wrap_u32]; omega
  exact ⟨bits_join .u32 32 (by decide) hk 24 _ _ (by omega) (by omega) (by omega) (by omega) (by omega) (by omega), bits_join .u32 32 (by decide) hk 16 _ _ (by omega) (by omega) (by omega) (by omega) (by omega) (by omega),
    bits_join .u32 32 (by decide) hk 8 _ _ (by omega) (by omega) (by omega) (by omega) (by omega) (by omega)⟩
theorem word_val (x0 x1 x2 x3 : Int) (a0 : 0 ≤ x0) (a1 : 0 ≤ x1) (a2 : 0 ≤ x2) (a3 : 0 ≤ x3) (b0 : x0 < 256) (b1 : x1 < 256) (b2 : x2 < 256) (b3 : x3 < 256) :
    wi (BitVec.ofInt 32 (((x0 * 256 + x1) * 256 + x2) * 256 + x3)) = x0 * 16777216 + x1 * 65536 + x2 * 256 + x3 := by
  unfold wi
  rw [BitVec.toNat_ofInt]
  omega
set_option maxHeartbeats 4000000 in
set_option maxRecDepth 100000 in
theorem turn_calls (s : St) (A : Option Addr) (c : Nat) (b : List Int) (w : World) (hb : Kd.C (Kd.int .u8) w A b.length b) (hbl : b.length = 64) (hc : 64 ≤ c) (hby : ∀ x ∈ b, 0 ≤ x ∧ x < 256) (hL : LaidAt w 1 constA) :
    Calls Tryd.prog 33 #[.agg (sArr s.l), .slice A 64 c] w fun e w' => e = .returned (.agg (sArr (turnV s b).l)) ∧ Below w.heap.size w w' := by
  have HC := Aside0.mk hb
  have HBl := Aside0.mk hbl
  have HBy := Aside0.mk hby
  have HL := Aside0.mk hL
  clear hb hby hL hbl
  obtain ⟨a, ha⟩ : ∃ a, a = sArr s.l := ⟨_, rfl⟩
  rw [← ha]
  have HA := Aside0.mk ha
  clear ha
  go_enter Tryd.func33, Tryd.ntmps33
  go_wp2
  go_loopw [19] (fun v19 wr => ∃ t : Nat, t ≤ 64 ∧ v19 = .int .i64 t ∧ Aside0 (TurnW w a (wcells b t) wr)) (fun v19 _ => 64 - (intOf v19).toNat)
  case atStart => exact ⟨0, Nat.zero_le _, rfl, ⟨TurnW.start w a _ _ _ _ _ (wcells b 0) rfl rfl rfl rfl rfl⟩⟩
  case round =>
    obtain ⟨t, ht, rfl, HW⟩ := hrel
    by_cases hlt : t < 16
    · obtain ⟨A1, hcut1, hread1⟩ := cut_int (P := Tryd.prog) (k := .u8) 38 5 Tryd.underlying38 info_u8 A c b (4 * t) (by have := HBl.out; omega) (by have := HBl.out; omega)
      have hcut : ∀ W : World, (Instr.slice 38 (.slice A 64 c) (some (.int .i64 (4 * (t : Int)))) none none).run Tryd.prog W = .ok (.slice A1 (64 - 4 * t) (c - 4 * t)) W := by
        intro W
        have := hcut1 W
        rw [HBl.out, List.length_drop, HBl.out] at this
        rw [← this]
        simp
      have HX := Aside0.mk (Kd.C_below (hread1 w HC.out) HW.out.2.2.2)
      have HWd := Aside0.mk (wcells_set b t (by omega))
      have HWa : Aside0 (wAt b (ws b t) t = BitVec.ofInt 32 (((b.getD (4 * t) 0 * 256 + b.getD (4 * t + 1) 0) * 256 + b.getD (4 * t + 2) 0) * 256 + b.getD (4 * t + 3) 0)) := ⟨if_pos hlt⟩
      have hl4 : 4 ≤ (b.drop (4 * t)).length := by rw [List.length_drop, HBl.out]; omega
      have hg : ∀ i, (b.drop (4 * t)).getD i 0 = b.getD (4 * t + i) 0 := fun i => by simp [List.getD_eq_getElem?_getD, List.getElem?_drop]
      obtain ⟨ad, rfl, hx0'⟩ := int_at HX.out 0 (by omega)
      have hx0 : wr.cell? ad = some (.int .u8 (b.getD (4 * t) 0)) := by rw [hg] at hx0'; exact hx0'
      have hx1 : wr.cell? ⟨ad.block, ad.off + 1, none⟩ = some (.int .u8 (b.getD (4 * t + 1) 0)) := by rw [← hg]; exact int_cell HX.out (Below.refl _ _) 1 (by omega)
      have hx2 : wr.cell? ⟨ad.block, ad.off + 2, none⟩ = some (.int .u8 (b.getD (4 * t + 2) 0)) := by rw [← hg]; exact int_cell HX.out (Below.refl _ _) 2 (by omega)
      have hx3 : wr.cell? ⟨ad.block, ad.off + 3, none⟩ = some (.int .u8 (b.getD (4 * t + 3) 0)) := by rw [← hg]; exact int_cell HX.out (Below.refl _ _) 3 (by omega)
      obtain ⟨a0, a0'⟩ := byte_at HBy.out (4 * t)
      obtain ⟨a1, a1'⟩ := byte_at HBy.out (4 * t + 1)
      obtain ⟨a2, a2'⟩ := byte_at HBy.out (4 * t + 2)
      obtain ⟨a3, a3'⟩ := byte_at HBy.out (4 * t + 3)
      clear hcut1 hread1 hg hx0' hl4
      generalize b.getD (4 * t) 0 = x0 at *
      generalize b.getD (4 * t + 1) 0 = x1 at *
      generalize b.getD (4 * t + 2) 0 = x2 at *
      generalize b.getD (4 * t + 3) 0 = x3 at *
      have HV := Aside0.mk (word_val x0 x1 x2 x3 a0 a1 a2 a3 a0' a1' a2' a3')
      obtain ⟨o1, o2, o3⟩ := word_or x0 x1 x2 x3 a0 a1 a2 a3 a0' a1' a2' a3'
      have hfz := HW.out.froz t
      have hst : ∃ v, wr.cell? ⟨w.heap.size + 1 + 1, t, none⟩ = some v := ⟨_, HW.out.cell t (by rw [wcells_length _ _ ht]; omega)⟩
      obtain ⟨v0, hst⟩ := hst
      have hw0 : IntKind.u32.wrap x0 = x0 := by rw [IntKind.wrap_u32]; omega
      have hw1 : IntKind.u32.wrap x1 = x1 := by rw [IntKind.wrap_u32]; omega
      have hw2 : IntKind.u32.wrap x2 = x2 := by rw [IntKind.wrap_u32]; omega
      have hw3 : IntKind.u32.wrap x3 = x3 := by rw [IntKind.wrap_u32]; omega
      have hv0 : IntKind.u32.wrap (x0 * 16777216) = x0 * 16777216 := by rw [IntKind.wrap_u32]; omega
      have hv1 : IntKind.u32.wrap (x1 * 65536) = x1 * 65536 := by rw [IntKind.wrap_u32]; omega
      have hv2 : IntKind.u32.wrap (x2 * 256) = x2 * 256 := by rw [IntKind.wrap_u32]; omega
      obtain ⟨v, hv⟩ : ∃ v, v = x0 * 16777216 + x1 * 65536 + x2 * 256 + x3 := ⟨_, rfl⟩
      rw [← hv] at o3 HV
      have HVv := Aside0.mk hv
      clear hv
      go_wp2
      go_still_tail 24, (by kernel_rfl)
      have HW2 : Aside0 (TurnW w a (wcells b t) wr.drew) := ⟨HW.out.below (below_drew (Below.refl _ _))⟩
      have hfz2 := HW2.out.froz t
      have hst2 : wr.drew.cell? ⟨w.heap.size + 1 + 1, t, none⟩ = some v0 := hst
      change wpList _ _ _ _ _ wr.drew
      generalize wr.drew = w2 at *
      go_wp2
      go_roundw
      case measure => simp [intOf]; omega
      case rel => exact ⟨t + 1, by omega, by go_num, ⟨by rw [← HWd.out, HWa.out]; have := HW2.out.set t (BitVec.ofInt 32 (((x0 * 256 + x1) * 256 + x2) * 256 + x3)); rw [HV.out] at this; exact this⟩⟩
    · by_cases hlt2 : t < 64
      · obtain ⟨m, rfl⟩ : ∃ m, t = m + 16 := ⟨t - 16, by omega⟩
        have HWd := Aside0.mk (wcells_set b (m + 16) hlt2)
        have hln : (wcells b (m + 16)).length = 64 := wcells_length _ _ ht
        have HWa : Aside0 (wAt b (ws b (m + 16)) (m + 16) = (ws b (m + 16)).getD m 0 + (ws b (m + 16)).getD (m + 9) 0 + (rotr ((ws b (m + 16)).getD (m + 1) 0) 7 ^^^ rotr ((ws b (m + 16)).getD (m + 1) 0) 18 ^^^ (ws b (m + 16)).getD (m + 1) 0 >>> 3) + (rotr ((ws b (m + 16)).getD (m + 14) 0) 17 ^^^ rotr ((ws b (m + 16)).getD (m + 14) 0) 19 ^^^ (ws b (m + 16)).getD (m + 14) 0 >>> 10)) := ⟨by rw [wAt, if_neg (by omega)]; rfl⟩
        have hc0 := HW.out.cell m (by omega)
        have hc1 := HW.out.cell (m + 1) (by omega)
        have hc9 := HW.out.cell (m + 9) (by omega)
        have hc14 := HW.out.cell (m + 14) (by omega)
        have hc16 := HW.out.cell (m + 16) (by omega)
        rw [wcells_get _ _ _ (by omega)] at hc0 hc1 hc9 hc14
        generalize (ws b (m + 16)).getD m 0 = y0 at *
        generalize (ws b (m + 16)).getD (m + 1) 0 = y1 at *
        generalize (ws b (m + 16)).getD (m + 9) 0 = y9 at *
        generalize (ws b (m + 16)).getD (m + 14) 0 = y14 at *
        generalize Value.int .u32 (wi ((wcells b (m + 16)).getD (m + 16) 0)) = v0 at *
        clear hln
        have hfz := HW.out.froz (m + 16)
        have i0 : IntKind.i64.wrap (((m + 16 : Nat) : Int) - 16) = (m : Int) := by rw [show ((m + 16 : Nat) : Int) - 16 = (m : Int) by omega]; exact IntWalk.i64_in _ (by omega)
        have i1 : IntKind.i64.wrap (((m + 16 : Nat) : Int) - 15) = ((m + 1 : Nat) : Int) := by rw [show ((m + 16 : Nat) : Int) - 15 = ((m + 1 : Nat) : Int) by omega]; exact IntWalk.i64_in _ (by omega)
        have i9 : IntKind.i64.wrap (((m + 16 : Nat) : Int) - 7) = ((m + 9 : Nat) : Int) := by rw [show ((m + 16 : Nat) : Int) - 7 = ((m + 9 : Nat) : Int) by omega]; exact IntWalk.i64_in _ (by omega)
        have i14 : IntKind.i64.wrap (((m + 16 : Nat) : Int) - 2) = ((m + 14 : Nat) : Int) := by rw [show ((m + 16 : Nat) : Int) - 2 = ((m + 14 : Nat) : Int) by omega]; exact IntWalk.i64_in _ (by omega)
        have hlt16 : 16 ≤ m + 16 := by omega
        have b0 : (m : Int) < 64 := by omega
        have b1 : ((m + 1 : Nat) : Int) < 64 := by omega
        have b9 : ((m + 9 : Nat) : Int) < 64 := by omega
        have b14 : ((m + 14 : Nat) : Int) < 64 := by omega
        have b16 : ((m + 16 : Nat) : Int) < 64 := by omega
        generalize m + 16 = t at *
        generalize m + 1 = n1 at *
        generalize m + 9 = n9 at *
        generalize m + 14 = n14 at *
        have hlt16D : decide ((t : Int) < 16) = false := by simp; omega
        clear hlt
        go_wp2
        go_quiet (fail)
        have HW1 : Aside0 (TurnW w a (wcells b t) (wr.drewN nq)) := ⟨HW.out.below (pw_below_drewN (Below.refl _ _) _)⟩
        have hc0' : (wr.drewN nq).cell? ⟨w.heap.size + 1 + 1, m, none⟩ = some (Value.int IntKind.u32 (wi y0)) := hc0
        have hc9' : (wr.drewN nq).cell? ⟨w.heap.size + 1 + 1, n9, none⟩ = some (Value.int IntKind.u32 (wi y9)) := hc9
        clear hc0 hc9 hc1 hc14 hc16 hfz HW
        generalize wr.drewN nq = w1 at *
        have ax : ∀ p q : W32, Go.bits .xor .u32 (wi p) (wi q) = wi (p ^^^ q) := u32_xor
        have a3 : ∀ q : W32, Go.bits .xor .u32 (wi q) (wi y1 / 8) = wi (q ^^^ y1 >>> 3) := fun q => by rw [show wi y1 / (8 : Int) = wi (y1 >>> 3) from u32_shr y1 3, u32_xor]
        have a10 : ∀ q : W32, Go.bits .xor .u32 (wi q) (wi y14 / 1024) = wi (q ^^^ y14 >>> 10) := fun q => by rw [show wi y14 / (1024 : Int) = wi (y14 >>> 10) from u32_shr y14 10, u32_xor]
        have ad : ∀ p q : W32, IntKind.u32.wrap (wi p + wi q) = wi (p + q) := u32_add
        go_wp2
        refine wp_region_quiet_store 33 (by kernel_rfl) rfl rfl (by kernel_rfl) ?_
        simp only [List.take_succ_cons, List.take_zero, List.cons_append, List.nil_append]
        repeat (go_big_quiet_step ((go_at_call 38; exact round_q _ _ _ _ (by decide) (by decide))))
        refine wpQuiet_nil ?_
        rintro w2 ⟨nq2, rfl⟩
        clear ax a3 a10 ad
        have HW2 : Aside0 (TurnW w a (wcells b t) (w1.drewN nq2)) := ⟨HW1.out.below (pw_below_drewN (Below.refl _ _) _)⟩
        have hfz2 := HW2.out.froz t
        have hst2 : ∃ v, (w1.drewN nq2).cell? ⟨w.heap.size + 1 + 1, t, none⟩ = some v := ⟨_, HW2.out.cell t (by rw [wcells_length _ _ ht]; omega)⟩
        obtain ⟨v2, hst2⟩ := hst2
        generalize w1.drewN nq2 = w2 at *
        go_wp2
        go_roundw
        case measure => simp [intOf]; omega
        case rel => exact ⟨t + 1, by omega, by go_num, ⟨by rw [← HWd.out, HWa.out]; exact HW2.out.set t _⟩⟩
      · obtain rfl : t = 64 := by omega
        have hw64 : wcells b 64 = ws b 64 := by simp [wcells]
        rw [hw64] at HW
        clear hw64 hlt hlt2 ht
        have hln : (ws b 64).length = 64 := ws_length b 64
        have HWl := Aside0.mk (⟨ws b 64, rfl⟩ : ∃ wl, wl = ws b 64)
        obtain ⟨wl, hwl⟩ := HWl.out
        rw [← hwl] at HW hln
        have HWl := Aside0.mk hwl
        have HLn := Aside0.mk hln
        clear hwl hln
        obtain ⟨sa, sb, sc, sd, se, sf, sg, sh⟩ := s
        obtain rfl : a = #[.int .u32 (wi sa), .int .u32 (wi sb), .int .u32 (wi sc), .int .u32 (wi sd), .int .u32 (wi se), .int .u32 (wi sf), .int .u32 (wi sg), .int .u32 (wi sh)] := HA.out
        have hs0 : wr.cell? ⟨w.heap.size, 0, none⟩ = some (.int .u32 (wi sa)) := blk_cell HW.out.1 0
        have hs1 : wr.cell? ⟨w.heap.size, 1, none⟩ = some (.int .u32 (wi sb)) := blk_cell HW.out.1 1
        have hs2 : wr.cell? ⟨w.heap.size, 2, none⟩ = some (.int .u32 (wi sc)) := blk_cell HW.out.1 2
        have hs3 : wr.cell? ⟨w.heap.size, 3, none⟩ = some (.int .u32 (wi sd)) := blk_cell HW.out.1 3
        have hs4 : wr.cell? ⟨w.heap.size, 4, none⟩ = some (.int .u32 (wi se)) := blk_cell HW.out.1 4
        have hs5 : wr.cell? ⟨w.heap.size, 5, none⟩ = some (.int .u32 (wi sf)) := blk_cell HW.out.1 5
        have hs6 : wr.cell? ⟨w.heap.size, 6, none⟩ = some (.int .u32 (wi sg)) := blk_cell HW.out.1 6
        have hs7 : wr.cell? ⟨w.heap.size, 7, none⟩ = some (.int .u32 (wi sh)) := blk_cell HW.out.1 7
        obtain ⟨lt, lfr, hblk⟩ := HL.out
        have HBk : Aside0 (∀ o : Obj, (wr.alloc o).heap[1]? = some (.cells constA lt lfr)) := ⟨fun o => by
          have h1 : wr.heap[1]? = some (.cells constA lt lfr) := (HW.out.2.2.2.block _ (blk_lt hblk)).trans hblk
          exact ((bel_alloc (Below.refl wr.heap.size wr) o).block _ (blk_lt h1)).trans h1⟩
        clear hblk
        have HS := Aside0.mk (TurnS.start HW.out ⟨sa, sb, sc, sd, se, sf, sg, sh⟩)
        go_wp2_with (with_reducible refine wpList_load_row rfl 74 (.global 1) rfl 1 rfl lt constA lfr _ (HBk.out _) Tryd.underlying74 rfl (by kernel_rfl) ?_)
        clear hs0 hs1 hs2 hs3 hs4 hs5 hs6 hs7 HA
        generalize wr.heap.size = n3 at *
        go_loopw [97] (fun v97 wr' => ∃ t : Nat, t ≤ 64 ∧ v97 = .int .i64 t ∧ Aside0 (TurnS w #[.int .u32 (wi sa), .int .u32 (wi sb), .int .u32 (wi sc), .int .u32 (wi sd), .int .u32 (wi se), .int .u32 (wi sf), .int .u32 (wi sg), .int .u32 (wi sh)] wl n3 (rs ⟨sa, sb, sc, sd, se, sf, sg, sh⟩ wl t) wr')) (fun v97 _ => 64 - (intOf v97).toNat)
        case atStart => exact ⟨0, Nat.zero_le _, rfl, HS⟩
        case round =>
          obtain ⟨t, ht, rfl, HT⟩ := hrel
          by_cases hlt : t < 64
          · have hix := const_at t hlt
            have hltI : (t : Int) < 64 := by omega
            generalize hkt : kL.getD t 0 = kt at *
            obtain ⟨wt, hwt0⟩ : ∃ wt, wl.getD t 0 = wt := ⟨_, rfl⟩
            obtain ⟨st, hst⟩ : ∃ st, st = rs ⟨sa, sb, sc, sd, se, sf, sg, sh⟩ wl t := ⟨_, rfl⟩
            rw [← hst] at HT
            obtain ⟨p0, p1, p2, p3, p4, p5, p6, p7⟩ := st
            have HN : Aside0 (rs ⟨sa, sb, sc, sd, se, sf, sg, sh⟩ wl (t + 1) = ⟨(p7 + (rotr p4 6 ^^^ rotr p4 11 ^^^ rotr p4 25) + (p6 ^^^ p4 &&& (p5 ^^^ p6)) + kt + wt) + ((rotr p0 2 ^^^ rotr p0 13 ^^^ rotr p0 22) + (p0 &&& p1 ||| p2 &&& (p0 ||| p1))), p0, p1, p2, p3 + (p7 + (rotr p4 6 ^^^ rotr p4 11 ^^^ rotr p4 25) + (p6 ^^^ p4 &&& (p5 ^^^ p6)) + kt + wt), p4, p5, p6⟩) := ⟨by
              show rnd (rs ⟨sa, sb, sc, sd, se, sf, sg, sh⟩ wl t) (kL.getD t 0) (wl.getD t 0) = _
              rw [← hst, hkt, hwt0]
              rfl⟩
            have HWt := Aside0.mk hwt0
            clear hst hkt hwt0
            have h0 : wr.cell? ⟨n3, 0, none⟩ = some (.int .u32 (wi p0)) := blk_cell HT.out.2.1 0
            have h1 : wr.cell? ⟨n3, 1, none⟩ = some (.int .u32 (wi p1)) := blk_cell HT.out.2.1 1
            have h2 : wr.cell? ⟨n3, 2, none⟩ = some (.int .u32 (wi p2)) := blk_cell HT.out.2.1 2
            have h3 : wr.cell? ⟨n3, 3, none⟩ = some (.int .u32 (wi p3)) := blk_cell HT.out.2.1 3
            have h4 : wr.cell? ⟨n3, 4, none⟩ = some (.int .u32 (wi p4)) := blk_cell HT.out.2.1 4
            have h5 : wr.cell? ⟨n3, 5, none⟩ = some (.int .u32 (wi p5)) := blk_cell HT.out.2.1 5
            have h6 : wr.cell? ⟨n3, 6, none⟩ = some (.int .u32 (wi p6)) := blk_cell HT.out.2.1 6
            have h7 : wr.cell? ⟨n3, 7, none⟩ = some (.int .u32 (wi p7)) := blk_cell HT.out.2.1 7
            go_wp2
            go_quiet (fail)
            have HT1 : Aside0 _ := ⟨HT.out.below (pw_below_drewN (Below.refl _ _) nq)⟩
            clear h0 h1 h2 h3 h4 h5 h6 h7 HT
            generalize wr.drewN nq = w1 at *
            have h0 : w1.cell? ⟨n3, 0, none⟩ = some (.int .u32 (wi p0)) := blk_cell HT1.out.2.1 0
            have h1 : w1.cell? ⟨n3, 1, none⟩ = some (.int .u32 (wi p1)) := blk_cell HT1.out.2.1 1
            have h2 : w1.cell? ⟨n3, 2, none⟩ = some (.int .u32 (wi p2)) := blk_cell HT1.out.2.1 2
            have h3 : w1.cell? ⟨n3, 3, none⟩ = some (.int .u32 (wi p3)) := blk_cell HT1.out.2.1 3
            have h4 : w1.cell? ⟨n3, 4, none⟩ = some (.int .u32 (wi p4)) := blk_cell HT1.out.2.1 4
            have h5 : w1.cell? ⟨n3, 5, none⟩ = some (.int .u32 (wi p5)) := blk_cell HT1.out.2.1 5
            have h6 : w1.cell? ⟨n3, 6, none⟩ = some (.int .u32 (wi p6)) := blk_cell HT1.out.2.1 6
            have h7 : w1.cell? ⟨n3, 7, none⟩ = some (.int .u32 (wi p7)) := blk_cell HT1.out.2.1 7
            have hwt : w1.cell? ⟨w.heap.size + 1 + 1, t, none⟩ = some (.int .u32 (wi wt)) := by rw [← HWt.out]; exact HT1.out.1.cell t (by rw [HLn.out]; exact hlt)
            have ax : ∀ p q : W32, Go.bits .xor .u32 (wi p) (wi q) = wi (p ^^^ q) := u32_xor
            have aa : ∀ p q : W32, Go.bits .and .u32 (wi p) (wi q) = wi (p &&& q) := u32_and
            have ao : ∀ p q : W32, Go.bits .or .u32 (wi p) (wi q) = wi (p ||| q) := u32_or
            have ad : ∀ p q : W32, IntKind.u32.wrap (wi p + wi q) = wi (p + q) := u32_add
            go_wp2
            go_quiet ((go_at_call 38; exact round_q _ _ _ _ (by decide) (by decide)))
            obtain ⟨P, hP⟩ : ∃ P, P = (p7 + (rotr p4 6 ^^^ rotr p4 11 ^^^ rotr p4 25) + (p6 ^^^ p4 &&& (p5 ^^^ p6)) + kt + wt) := ⟨_, rfl⟩
            rw [← hP] at HN ⊢
            clear hP hwt
            have HT2 : Aside0 _ := ⟨HT1.out.below (pw_below_drewN (Below.refl _ _) nq)⟩
            clear h0 h1 h2 h3 h4 h5 h6 h7 HT1
            generalize w1.drewN nq = w2 at *
            have h0 : w2.cell? ⟨n3, 0, none⟩ = some (.int .u32 (wi p0)) := blk_cell HT2.out.2.1 0
            have h1 : w2.cell? ⟨n3, 1, none⟩ = some (.int .u32 (wi p1)) := blk_cell HT2.out.2.1 1
            have h2 : w2.cell? ⟨n3, 2, none⟩ = some (.int .u32 (wi p2)) := blk_cell HT2.out.2.1 2
            have h3 : w2.cell? ⟨n3, 3, none⟩ = some (.int .u32 (wi p3)) := blk_cell HT2.out.2.1 3
            have h4 : w2.cell? ⟨n3, 4, none⟩ = some (.int .u32 (wi p4)) := blk_cell HT2.out.2.1 4
            have h5 : w2.cell? ⟨n3, 5, none⟩ = some (.int .u32 (wi p5)) := blk_cell HT2.out.2.1 5
            have h6 : w2.cell? ⟨n3, 6, none⟩ = some (.int .u32 (wi p6)) := blk_cell HT2.out.2.1 6
            have h7 : w2.cell? ⟨n3, 7, none⟩ = some (.int .u32 (wi p7)) := blk_cell HT2.out.2.1 7
            go_wp2
            go_quiet ((go_at_call 38; exact round_q _ _ _ _ (by decide) (by decide)))
            obtain ⟨Qv, hQ⟩ : ∃ Qv, Qv = ((rotr p0 2 ^^^ rotr p0 13 ^^^ rotr p0 22) + (p0 &&& p1 ||| p2 &&& (p0 ||| p1))) := ⟨_, rfl⟩
            rw [← hQ] at HN ⊢
            clear hQ ax aa ao
            have HT3 : Aside0 _ := ⟨HT2.out.below (pw_below_drewN (Below.refl _ _) nq)⟩
            clear h0 h1 h2 h3 h4 h5 h6 h7 HT2
            generalize w2.drewN nq = w3 at *
            have h0 : w3.cell? ⟨n3, 0, none⟩ = some (.int .u32 (wi p0)) := blk_cell HT3.out.2.1 0
            have h1 : w3.cell? ⟨n3, 1, none⟩ = some (.int .u32 (wi p1)) := blk_cell HT3.out.2.1 1
            have h2 : w3.cell? ⟨n3, 2, none⟩ = some (.int .u32 (wi p2)) := blk_cell HT3.out.2.1 2
            have h3 : w3.cell? ⟨n3, 3, none⟩ = some (.int .u32 (wi p3)) := blk_cell HT3.out.2.1 3
            have h4 : w3.cell? ⟨n3, 4, none⟩ = some (.int .u32 (wi p4)) := blk_cell HT3.out.2.1 4
            have h5 : w3.cell? ⟨n3, 5, none⟩ = some (.int .u32 (wi p5)) := blk_cell HT3.out.2.1 5
            have h6 : w3.cell? ⟨n3, 6, none⟩ = some (.int .u32 (wi p6)) := blk_cell HT3.out.2.1 6
            have h7 : w3.cell? ⟨n3, 7, none⟩ = some (.int .u32 (wi p7)) := blk_cell HT3.out.2.1 7
            have f0 : w3.frozen? ⟨n3, 0, none⟩ = false := blk_frozen HT3.out.2.1 0
            have f1 : w3.frozen? ⟨n3, 1, none⟩ = false := blk_frozen HT3.out.2.1 1
            have f2 : w3.frozen? ⟨n3, 2, none⟩ = false := blk_frozen HT3.out.2.1 2
            have f3 : w3.frozen? ⟨n3, 3, none⟩ = false := blk_frozen HT3.out.2.1 3
            have f4 : w3.frozen? ⟨n3, 4, none⟩ = false := blk_frozen HT3.out.2.1 4
            have f5 : w3.frozen? ⟨n3, 5, none⟩ = false := blk_frozen HT3.out.2.1 5
            have f6 : w3.frozen? ⟨n3, 6, none⟩ = false := blk_frozen HT3.out.2.1 6
            have f7 : w3.frozen? ⟨n3, 7, none⟩ = false := blk_frozen HT3.out.2.1 7
            have ad2 : ∀ p q : W32, (wi p + wi q) % 4294967296 = wi (p + q) := fun p q => by rw [← u32_add, IntKind.wrap_u32]
            go_wp2
            go_roundw
            case measure => simp [intOf]; omega
            case rel => exact ⟨t + 1, by omega, by go_num, ⟨by rw [HN.out]; exact HT3.out.set8 ⟨P + Qv, p0, p1, p2, p3 + P, p4, p5, p6⟩⟩⟩
          · obtain rfl : t = 64 := by omega
            clear hlt ht
            have HL0 : Aside0 (TurnL w #[.int .u32 (wi sa), .int .u32 (wi sb), .int .u32 (wi sc), .int .u32 (wi sd), .int .u32 (wi se), .int .u32 (wi sf), .int .u32 (wi sg), .int .u32 (wi sh)] wl n3 (rs ⟨sa, sb, sc, sd, se, sf, sg, sh⟩ wl 64).l wr) := HT
            have HV : Aside0 (turnV ⟨sa, sb, sc, sd, se, sf, sg, sh⟩ b = (rs ⟨sa, sb, sc, sd, se, sf, sg, sh⟩ wl 64).add ⟨sa, sb, sc, sd, se, sf, sg, sh⟩) := ⟨by rw [HWl.out]; rfl⟩
            generalize rs ⟨sa, sb, sc, sd, se, sf, sg, sh⟩ wl 64 = st at *
            clear HT
            go_wp2
            go_loopw [179] (fun v179 wr' => ∃ i : Nat, i ≤ 8 ∧ v179 = .int .i64 i ∧ Aside0 (TurnL w #[.int .u32 (wi sa), .int .u32 (wi sb), .int .u32 (wi sc), .int .u32 (wi sd), .int .u32 (wi se), .int .u32 (wi sf), .int .u32 (wi sg), .int .u32 (wi sh)] wl n3 (mix st.l [sa, sb, sc, sd, se, sf, sg, sh] i) wr')) (fun v179 _ => 8 - (intOf v179).toNat)
            case atStart => exact ⟨0, Nat.zero_le _, rfl, HL0⟩
            case round =>
              obtain ⟨i, hi, rfl, HT⟩ := hrel
              by_cases hlt : i < 8
              · have hltI : (i : Int) < 8 := by omega
                have HS2 := Aside0.mk (mix_set st.l [sa, sb, sc, sd, se, sf, sg, sh] i hlt)
                have h1 : wr.cell? ⟨n3, i, none⟩ = some (.int .u32 (wi (st.l.getD i 0))) := by rw [blk_cell HT.out.2.1 i, sArr_get _ _ (by rw [mix_length]; exact hlt), mix_at _ _ _ _ hlt, if_neg (Nat.lt_irrefl _)]
                have h2 : wr.cell? ⟨w.heap.size, i, none⟩ = some (.int .u32 (wi ([sa, sb, sc, sd, se, sf, sg, sh].getD i 0))) := by rw [blk_cell HT.out.1.1 i]; exact sArr_get [sa, sb, sc, sd, se, sf, sg, sh] i hlt
                generalize st.l.getD i 0 = x at *
                generalize [sa, sb, sc, sd, se, sf, sg, sh].getD i 0 = y at *
                have ad : IntKind.u32.wrap (wi x + wi y) = wi (x + y) := u32_add x y
                go_wp2
                refine wp_region_quiet_store 8 (by kernel_rfl) rfl rfl (by kernel_rfl) ?_
                simp only [List.take_succ_cons, List.take_zero, List.cons_append, List.nil_append]
                repeat (go_big_quiet_step (fail))
                refine wpQuiet_nil ?_
                rintro w2 ⟨nq2, rfl⟩
                have HW2 : Aside0 _ := ⟨HT.out.below (pw_below_drewN (Below.refl _ _) nq2)⟩
                clear h1 h2 HT ad
                have hfz2 : (wr.drewN nq2).frozen? ⟨n3, i, none⟩ = false := blk_frozen HW2.out.2.1 i
                have hst2 : ∃ v, (wr.drewN nq2).cell? ⟨n3, i, none⟩ = some v := ⟨_, (blk_cell HW2.out.2.1 i).trans (sArr_get _ _ (by rw [mix_length]; exact hlt))⟩
                obtain ⟨v2, hst2⟩ := hst2
                generalize wr.drewN nq2 = w2 at *
                go_wp2
                go_roundw
                case measure => simp [intOf]; omega
                case rel => exact ⟨i + 1, by omega, by go_num, ⟨by rw [← HS2.out]; exact HW2.out.set i _⟩⟩
              · obtain rfl : i = 8 := by omega
                rw [show mix st.l [sa, sb, sc, sd, se, sf, sg, sh] 8 = (st.add ⟨sa, sb, sc, sd, se, sf, sg, sh⟩).l from mix_end st ⟨sa, sb, sc, sd, se, sf, sg, sh⟩] at HT
                have HV2 := HV
                clear HV
                generalize st.add ⟨sa, sb, sc, sd, se, sf, sg, sh⟩ = r at *
                obtain ⟨p0, p1, p2, p3, p4, p5, p6, p7⟩ := r
                clear hlt hi
                have h0 : wr.cell? ⟨n3, 0, none⟩ = some (.int .u32 (wi p0)) := blk_cell HT.out.2.1 0
                have h1 : wr.cell? ⟨n3, 1, none⟩ = some (.int .u32 (wi p1)) := blk_cell HT.out.2.1 1
                have h2 : wr.cell? ⟨n3, 2, none⟩ = some (.int .u32 (wi p2)) := blk_cell HT.out.2.1 2
                have h3 : wr.cell? ⟨n3, 3, none⟩ = some (.int .u32 (wi p3)) := blk_cell HT.out.2.1 3
                have h4 : wr.cell? ⟨n3, 4, none⟩ = some (.int .u32 (wi p4)) := blk_cell HT.out.2.1 4
                have h5 : wr.cell? ⟨n3, 5, none⟩ = some (.int .u32 (wi p5)) := blk_cell HT.out.2.1 5
                have h6 : wr.cell? ⟨n3, 6, none⟩ = some (.int .u32 (wi p6)) := blk_cell HT.out.2.1 6
                have h7 : wr.cell? ⟨n3, 7, none⟩ = some (.int .u32 (wi p7)) := blk_cell HT.out.2.1 7
                have g0 : wr.cell? ⟨w.heap.size + 1, 0, none⟩ = some (.int .u32 (wi 0)) := blk_cell HT.out.1.2.1 0
                have g1 : wr.cell? ⟨w.heap.size + 1, 1, none⟩ = some (.int .u32 (wi 0)) := blk_cell HT.out.1.2.1 1
                have g2 : wr.cell? ⟨w.heap.size + 1, 2, none⟩ = some (.int .u32 (wi 0)) := blk_cell HT.out.1.2.1 2
                have g3 : wr.cell? ⟨w.heap.size + 1, 3, none⟩ = some (.int .u32 (wi 0)) := blk_cell HT.out.1.2.1 3
                have g4 : wr.cell? ⟨w.heap.size + 1, 4, none⟩ = some (.int .u32 (wi 0)) := blk_cell HT.out.1.2.1 4
                have g5 : wr.cell? ⟨w.heap.size + 1, 5, none⟩ = some (.int .u32 (wi 0)) := blk_cell HT.out.1.2.1 5
                have g6 : wr.cell? ⟨w.heap.size + 1, 6, none⟩ = some (.int .u32 (wi 0)) := blk_cell HT.out.1.2.1 6
                have g7 : wr.cell? ⟨w.heap.size + 1, 7, none⟩ = some (.int .u32 (wi 0)) := blk_cell HT.out.1.2.1 7
                have f0 : wr.frozen? ⟨w.heap.size + 1, 0, none⟩ = false := blk_frozen HT.out.1.2.1 0
                have f1 : wr.frozen? ⟨w.heap.size + 1, 1, none⟩ = false := blk_frozen HT.out.1.2.1 1
                have f2 : wr.frozen? ⟨w.heap.size + 1, 2, none⟩ = false := blk_frozen HT.out.1.2.1 2
                have f3 : wr.frozen? ⟨w.heap.size + 1, 3, none⟩ = false := blk_frozen HT.out.1.2.1 3
                have f4 : wr.frozen? ⟨w.heap.size + 1, 4, none⟩ = false := blk_frozen HT.out.1.2.1 4
                have f5 : wr.frozen? ⟨w.heap.size + 1, 5, none⟩ = false := blk_frozen HT.out.1.2.1 5
                have f6 : wr.frozen? ⟨w.heap.size + 1, 6, none⟩ = false := blk_frozen HT.out.1.2.1 6
                have f7 : wr.frozen? ⟨w.heap.size + 1, 7, none⟩ = false := blk_frozen HT.out.1.2.1 7
                have HO := Aside0.mk (HT.out.out8 ⟨p0, p1, p2, p3, p4, p5, p6, p7⟩)
                go_wp2
                exact bodyPost_ret (results_cell_row Tryd.results33 _ _ (w.heap.size + 1) 61 _ (0, 0) _ rfl HO.out.1 Tryd.underlying61 rfl (show (Tryd.prog.info? 61).map (·.size) = some 8 from by kernel_rfl)) rfl ⟨by rw [HV2.out], HO.out.2⟩
end Go.Proofs.YtpdficnjjmapmaaDoorRRR.Sha
namespace Go.Proofs.YtpdficnjjmapmaaDoorRRR.K
open Go.RowKit Go.Proofs.YtpdficnjjmapmaaDoorRRRW.PrintWords Go.Proofs.YtpdficnjjmapmaaDoorRRRW.PrintLast Go.Proofs.YtpdficnjjmapmaaDoorRRRW.PrintMore
theorem q_of_Q {k : IntKind} {e : Nat} {w : World} {base : Nat} {ok : Nat → Prop} {v : Value} {xs : List Int} (h : Kd.Q (Kd.int k) e w base ok v xs) : QRow w base e 1 v xs.length (nums k xs) := by
  obtain ⟨_, inner, ho, hr⟩ := h
  have hi : inner = nums k xs := Kd.reps_encs hr
  rw [← hi]
  exact ho
theorem Q_of_q {k : IntKind} {e : Nat} {w : World} {base : Nat} {v : Value} {xs : List Int} (h : QRow w base e 1 v xs.length (nums k xs)) : Kd.Q (Kd.int k) e w base (fun _ => True) v xs :=
  ⟨fun _ _ => trivial, nums k xs, h, Kd.reps_scalar xs⟩
section
variable {P : Program} {ops : Array Oper} {rest : List Oper} {o : Oper} {a : Act} {Q : Exit → Act → World → Prop}
theorem append_q {w0 W : World} (base : Nat) (hgd : o.guard = none) (s x : Operand) (t e : TypeId) (k : IntKind) (bytes : Nat)
    (ho : o.op = .call { callee := .builtin .append, args := #[s, x], argTypes := #[t, t] })
    (ht : P.underlying t = some (.slice e)) (hinfo : (P.info? e).map (fun i => (i.zero, i.size, i.bytes)) = some (some (.int k 0), 1, bytes)) (hb0 : 0 < bytes)
    (v : Value) (xs ys : List Int) (A : Option Addr) (m c : Nat) (hs : a.eval s = v) (hx : a.eval x = .slice A m c)
    (HO : Kd.Q (Kd.int k) e W base (fun _ => True) v xs) (HR : Kd.C (Kd.int k) W A m ys) (HB : Below base w0 W) (hbase : base ≤ W.heap.size) (hl : (xs.length + m) * bytes ≤ 140737488355328)
    (h : ∀ v1 w1, Kd.Q (Kd.int k) e w1 base (fun _ => True) v1 (xs ++ ys) → Below base w0 w1 → W.grownBy w1 v.ownBlock → (v1.ownBlock = v.ownBlock ∨ ∃ b, v1.ownBlock = some b ∧ W.heap.size ≤ b) → wpList P ops Q rest (a.put o.dst v1) w1) :
    wpList P ops Q (o :: rest) a W := by
  obtain ⟨i0, hi, hzz⟩ := Option.map_eq_some_iff.1 hinfo
  simp only [Prod.mk.injEq] at hzz
  obtain ⟨hz0, hz1, hz2⟩ := hzz
  have HR' := reads_int HR
  have hm : ys.length = m := HR'.1
  have hq := q_of_Q HO
  have hlen : xs.length + m ≤ 140737488355328 := Nat.le_trans (Nat.le_mul_of_pos_right _ hb0) hl
  have hrun : ∃ v1 w1, (Builtin.append_ #[t, t] o.type #[v, .slice A m c]).run P W = .ok v1 w1 ∧ QRow w1 base e 1 v1 (xs ++ ys).length (nums k (xs ++ ys)) ∧ W.grownBy w1 v.ownBlock ∧ (v1.ownBlock = v.ownBlock ∨ ∃ b, v1.ownBlock = some b ∧ W.heap.size ≤ b) := by
    rcases Nat.eq_zero_or_pos m with h0 | h0
    · subst h0
      obtain rfl : ys = [] := List.eq_nil_of_length_eq_zero hm
      obtain ⟨A', c', rfl, hc'⟩ := q_slice hq
      refine ⟨_, W, ?_, by simpa using hq, World.grownBy.refl W _, .inl rfl⟩
      cases A <;> cases A' <;> simp [Builtin.append_, run_underlying ht, sizeOf, typeInfo, hi, Builtin.lenOf, Builtin.firstCells, hc', storeCells, loadCells, loadCellsFrom]
    · obtain ⟨ad, rfl, hc0⟩ := HR'.2.2 h0
      obtain ⟨v1, w1, hr, h2, h3, h4⟩ := q_append (P := P) W base t o.type e i0 (.int k 0) 1 bytes ht hi hz0 hz1 hz2 rfl (by omega) v xs.length (nums k xs) hq ad m c (nums k ys) (by simp [nums, hm])
        (fun j u hu => by
          have hj : j < ys.length := by
            rcases Nat.lt_or_ge j ys.length with h | h
            · exact h
            · simp [nums, List.getElem?_eq_none h] at hu
          have := hc0 j (by omega)
          simp [nums, List.getElem?_eq_getElem hj] at hu
          subst hu
          rw [this]
          simp [List.getD_eq_getElem?_getD, List.getElem?_eq_getElem hj])
        (by intro u hu; simp only [nums, List.mem_map] at hu; obtain ⟨q, _, rfl⟩ := hu; rfl) h0 (by simp only [maxLen]; omega) hl hbase
      exact ⟨v1, w1, hr, by simpa [nums, hm] using h2, h3, h4⟩
  obtain ⟨v1, w1, hr, hown, hg, hat⟩ := hrun
  refine wpList_plain hgd fun K hK => ?_
  unfold Oper.wp execOp
  simp only [ho, resolve, invoke, builtin, Sem.run_bind, Sem.run_pure, Result.andThen_ok, List.map_toArray, List.map_cons, List.map_nil, hs, hx, hr]
  exact hK _ _ (h v1 w1 (Q_of_q hown) (HB.grown hg hbase (fun k hk => (q_typed hq k hk).1)) hg hat)
end
end Go.Proofs.YtpdficnjjmapmaaDoorRRR.K
