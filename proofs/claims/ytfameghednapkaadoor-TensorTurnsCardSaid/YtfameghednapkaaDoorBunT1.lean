/- Texts put together: K, FixedC, QuietTail, Ten1, Ten2, SumV, FixedP, Fixed2, RegInv, RegGen. -/
import Derived.Test.YtfameghednapkaaDoorWMore
import Derived.Test.YtfameghednapkaaDoorProg
import Derived.WalkKit
import Derived.WalkSpells
import Derived.LoopN
import Derived.WalkMore
import Derived.ScopeJumps
import Derived.Laws.Rows
import Derived.Lib.SlBytesConst
import Derived.Deep.QuietTactic
import Derived.BigQuiet
import Derived.StillTail
set_option linter.unusedVariables false
set_option linter.unusedSimpArgs false
namespace Go.Proofs.YtfameghednapkaaDoor.K
open Go.RowKit Go.Proofs.YtfameghednapkaaDoorW.PrintWords Go.Proofs.YtfameghednapkaaDoorW.PrintLast Go.Proofs.YtfameghednapkaaDoorW.PrintMore

theorem own_int {k : IntKind} {e : Nat} {w : World} {B : Nat} {ok : Nat → Prop} {v : Value} {xs : List Int} (h : Kd.R (Kd.int k) e w B ok v xs) : w.ownsRow B e 1 v xs.length (nums k xs) := Kd.own_of_R h
theorem R_int {k : IntKind} {e : Nat} {w : World} {B : Nat} {v : Value} {xs : List Int} (h : w.ownsRow B e 1 v xs.length (nums k xs)) : Kd.R (Kd.int k) e w B (fun _ => True) v xs := Kd.R_of_own h (fun _ _ => trivial)
theorem reads_int {k : IntKind} {w : World} {A : Option Addr} {n : Nat} {xs : List Int} (h : Kd.C (Kd.int k) w A n xs) : ReadsInt w k A n xs := Kd.reads_of_C (d := (0 : Int)) h
theorem C_int {k : IntKind} {w : World} {A : Option Addr} {n : Nat} {xs : List Int} (h : ReadsInt w k A n xs) : Kd.C (Kd.int k) w A n xs := Kd.C_of_reads (d := (0 : Int)) h
theorem own_C {k : IntKind} {e : Nat} {w : World} {B n c : Nat} {A : Option Addr} {xs : List Int} (h : w.ownsRow B e 1 (.slice A n c) xs.length (nums k xs)) : Kd.C (Kd.int k) w A xs.length xs := (Kd.R_reads' (R_int h)).2.2
theorem C_len {α : Type} {d : Kd α} {w : World} {A : Option Addr} {n : Nat} {xs : List α} (h : Kd.C d w A n xs) : xs.length = n := h.1

/-- An element of a row of rows: the slice that lies there. -/
theorem row_at {α : Type} {d : Kd α} {e : Nat} {w : World} {A : Option Addr} {n : Nat} {xs : List (List α)} (h : Kd.C (Kd.slice e d) w A n xs) (i : Nat) (h1 : i < n) :
    ∃ ad A0 c0, A = some ad ∧ w.cell? (ad.add i) = some (.slice A0 (xs.getD i []).length c0) ∧ (xs.getD i []).length ≤ c0 ∧ d.C w A0 (xs.getD i []).length (xs.getD i []) := by
  obtain ⟨ad, c, e, _, hK, hc0⟩ := Kd.C_get h ([] : List α) i (by omega) (by omega)
  have hc : ∀ j u, c[j]? = some u → w.cell? (ad.add (i * 1 + j)) = some u := hc0
  obtain ⟨A0, c0, rfl, l0, g0⟩ := hK
  exact ⟨ad, A0, c0, e, by have hq := hc 0 _ rfl; rwa [Nat.mul_one, Nat.add_zero] at hq, l0, g0⟩
/-- The same, in a later world. -/
theorem row_at' {α : Type} {d : Kd α} {e : Nat} {w w1 : World} {A : Option Addr} {n : Nat} {xs : List (List α)} (h : Kd.C (Kd.slice e d) w A n xs) (hb : Below w.heap.size w w1) (i : Nat) (h1 : i < n) :
    ∃ ad A0 c0, A = some ad ∧ w1.cell? (ad.add i) = some (.slice A0 (xs.getD i []).length c0) ∧ (xs.getD i []).length ≤ c0 ∧ d.C w A0 (xs.getD i []).length (xs.getD i []) := by
  obtain ⟨ad, A0, c0, h1, h2, h3, h4⟩ := row_at h i h1
  exact ⟨ad, A0, c0, h1, (hb.cell (World.block_lt_of_cell? w _ h2)).trans h2, h3, h4⟩
/-- The same, in whatever later world. -/
theorem row_get {α : Type} {d : Kd α} {e : Nat} {w : World} {A : Option Addr} {n : Nat} {xs : List (List α)} (h : Kd.C (Kd.slice e d) w A n xs) (i : Nat) (h1 : i < n) :
    ∃ ad A0 c0, A = some ad ∧ (∀ w2, Below w.heap.size w w2 → w2.cell? (ad.add i) = some (.slice A0 (xs.getD i []).length c0)) ∧ (xs.getD i []).length ≤ c0 ∧ d.C w A0 (xs.getD i []).length (xs.getD i []) := by
  obtain ⟨ad, A0, c0, h1, h2, h3, h4⟩ := row_at h i h1
  exact ⟨ad, A0, c0, h1, fun w2 hb => (hb.cell (World.block_lt_of_cell? w _ h2)).trans h2, h3, h4⟩
/-- A number of a row. -/
theorem int_at {k : IntKind} {w : World} {A : Option Addr} {n : Nat} {xs : List Int} (h : Kd.C (Kd.int k) w A n xs) (i : Nat) (h1 : i < n) :
    ∃ ad, A = some ad ∧ w.cell? (ad.add i) = some (.int k (xs.getD i 0)) := (reads_int h).2.2 (by omega) |>.imp fun _ h => ⟨h.1, h.2 i h1⟩
theorem int_at' {k : IntKind} {w w1 : World} {A : Option Addr} {n : Nat} {xs : List Int} (h : Kd.C (Kd.int k) w A n xs) (hb : Below w.heap.size w w1) (i : Nat) (h1 : i < n) :
    ∃ ad, A = some ad ∧ w1.cell? (ad.add i) = some (.int k (xs.getD i 0)) := int_at (Kd.C_below h hb) i h1

theorem int_cell {k : IntKind} {w w1 : World} {ad : Addr} {n : Nat} {xs : List Int} (h : Kd.C (Kd.int k) w (some ad) n xs) (hb : Below w.heap.size w w1) (i : Nat) (h1 : i < n) :
    w1.cell? (ad.add i) = some (.int k (xs.getD i 0)) := by
  obtain ⟨ad', e, hx⟩ := int_at' h hb i h1
  cases e
  exact hx
theorem row_cell {α : Type} {d : Kd α} {e : Nat} {w w1 : World} {ad : Addr} {n : Nat} {xs : List (List α)} (h : Kd.C (Kd.slice e d) w (some ad) n xs) (hb : Below w.heap.size w w1) (i : Nat) (h1 : i < n) :
    ∃ A0 c0, w1.cell? (ad.add i) = some (.slice A0 (xs.getD i []).length c0) ∧ (xs.getD i []).length ≤ c0 ∧ d.C w A0 (xs.getD i []).length (xs.getD i []) := by
  obtain ⟨ad', A0, c0, e, hx⟩ := row_at' h hb i h1
  cases e
  exact ⟨A0, c0, hx⟩
/-- 'xs[m:]' of a row that is read. -/
theorem cut_int {P : Program} {k : IntKind} (t e : TypeId) (ht : P.underlying t = some (.slice e)) {z : Value} {by_ : Nat} (hi : (P.info? e).map (fun i => (i.zero, i.size, i.bytes)) = some (some z, 1, by_)) (A : Option Addr) (c : Nat) (xs : List Int) (m : Nat) (hm : m ≤ xs.length) (hc : xs.length ≤ c) :
    ∃ A' : Option Addr, (∀ W : World, (Instr.slice t (.slice A xs.length c) (some (.int .i64 (m : Int))) none none).run P W = .ok (.slice A' (xs.drop m).length (c - m)) W) ∧
      ∀ (w : World), Kd.C (Kd.int k) w A xs.length xs → Kd.C (Kd.int k) w A' (xs.drop m).length (xs.drop m) := by
  obtain ⟨i0, hi0, hzz⟩ := Option.map_eq_some_iff.1 hi
  simp only [Prod.mk.injEq] at hzz
  obtain ⟨A', h1, h2⟩ := print_cut (P := P) t e .i64 ht hi0 hzz.2.1 A xs.length c m hm
  exact ⟨A', fun W => by rw [List.length_drop]; exact h1 W, fun w h => by rw [List.length_drop]; exact C_int (h2 w k xs hc (reads_int h))⟩
/-- 'xs[a:b]' of a row that is read. -/
theorem mid_int {P : Program} {k : IntKind} (t e : TypeId) (ht : P.underlying t = some (.slice e)) {z : Value} {by_ : Nat} (hi : (P.info? e).map (fun i => (i.zero, i.size, i.bytes)) = some (some z, 1, by_)) (A : Option Addr) (c : Nat) (xs : List Int) (a b : Int) (i n : Nat) (ha : a = i) (hb : b = ((i + n : Nat) : Int)) (hm : i + n ≤ xs.length) (hc : xs.length ≤ c) :
    ∃ A' : Option Addr, (∀ W : World, (Instr.slice t (.slice A xs.length c) (some (.int .i64 a)) (some (.int .i64 b)) none).run P W = .ok (.slice A' ((xs.drop i).take n).length (c - i)) W) ∧
      (∀ (w : World), Kd.C (Kd.int k) w A xs.length xs → Kd.C (Kd.int k) w A' ((xs.drop i).take n).length ((xs.drop i).take n)) ∧ ((xs.drop i).take n).length ≤ c - i := by
  obtain ⟨i0, hi0, hzz⟩ := Option.map_eq_some_iff.1 hi
  simp only [Prod.mk.injEq] at hzz
  subst ha hb
  obtain ⟨A', h1, h2, h3⟩ := print_mid_int (P := P) (k := k) t e ht hi0 hzz.2.1 A c xs i ((i + n : Nat) : Int) (by omega) (by omega) (by omega) hc
  simp only [Int.toNat_natCast, List.drop_take, Nat.add_sub_cancel_left] at h1 h2 h3
  exact ⟨A', h1, fun w h => C_int (h2 w (reads_int h)), h3⟩
theorem take_rows {α : Type} {d : Kd α} {w : World} {A : Option Addr} {n : Nat} {xs : List α} (m : Nat) (hm : m ≤ xs.length) (h : Kd.C d w A n xs) : Kd.C d w A m (xs.take m) := by
  obtain rfl := h.1
  have := Kd.C_take h hm
  rwa [show (xs.take m).length = m by rw [List.length_take]; omega] at this
theorem take_int {k : IntKind} {w : World} {A : Option Addr} {xs : List Int} (m : Nat) (hm : m ≤ xs.length) (h : Kd.C (Kd.int k) w A xs.length xs) : Kd.C (Kd.int k) w A m (xs.take m) := C_int ((reads_int h).take_ m hm)

/-- The cells of a block that was just made. -/
theorem reads_lit (w : World) (k : IntKind) (t : Nat) (xs : List Int) (h : xs.length ≤ 9223372036854775807) : ReadsInt (w.alloc (.cells (nums k xs).toArray t)) k (some ⟨w.heap.size, 0, none⟩) xs.length xs := by
  refine ⟨rfl, h, fun _ => ⟨_, rfl, fun j hj => ?_⟩⟩
  rw [add_plain]
  rw [World.cell?, heap_alloc_new]
  simp [nums, List.getElem?_eq_getElem hj, List.getD_eq_getElem?_getD]
/-- The same of a block whose bytes came of a constant (it bears a mark behind its last cell). -/
theorem reads_lit_fr (w : World) (k : IntKind) (t : Nat) (fr : Nat × Nat) (xs : List Int) (h : xs.length ≤ 9223372036854775807) : ReadsInt (w.alloc (.cells (nums k xs).toArray t fr)) k (some ⟨w.heap.size, 0, none⟩) xs.length xs := by
  refine ⟨rfl, h, fun _ => ⟨_, rfl, fun j hj => ?_⟩⟩
  rw [add_plain]
  rw [World.cell?, heap_alloc_new]
  simp [nums, List.getElem?_eq_getElem hj, List.getD_eq_getElem?_getD]
theorem size_drewN (W : World) (m : Nat) : (W.drewN m).heap.size = W.heap.size := rfl
/-- The slices of a block that was just made. -/
theorem rows_lit {α : Type} {d : Kd α} {e : Nat} (w : World) (t : Nat) (vs : List Value) (xs : List (List α)) (hm : xs.length ≤ 9223372036854775807)
    (h : ∀ (j : Nat) (x : List α), xs[j]? = some x → ∃ A c, vs[j]? = some (.slice A x.length c) ∧ x.length ≤ c ∧ Kd.C d w A x.length x) :
    Kd.C (Kd.slice e d) (w.alloc (.cells vs.toArray t)) (some ⟨w.heap.size, 0, none⟩) xs.length xs := by
  refine ⟨rfl, hm, fun _ => ⟨_, rfl, fun j p hj => ?_⟩⟩
  obtain ⟨A, c, h1, h2, h3⟩ := h j p hj
  refine ⟨[.slice A p.length c], rfl, ⟨A, c, rfl, h2, Kd.C_alloc h3 _⟩, fun i u hu => ?_⟩
  obtain ⟨rfl, rfl⟩ : i = 0 ∧ u = .slice A p.length c := by
    cases i with
    | zero => exact ⟨rfl, by simpa using hu.symm⟩
    | succ i => simp at hu
  rw [add_plain, World.cell?, heap_alloc_new]
  simpa [Kd.slice] using h1
theorem bel_size {w W : World} (h : Below w.heap.size w W) (o : Obj) : w.heap.size ≤ (W.alloc o).heap.size := by
  have := h.size
  simp only [World.alloc, Array.size_push]
  omega
theorem bel_alloc {w W : World} (h : Below w.heap.size w W) (o : Obj) : Below w.heap.size w (W.alloc o) := below_alloc h o

/-- A scope with one label: the code behind the label is walked once. -/
theorem wp_scope_once {P : Program} {a : Act} {w : World} {Q : Exit → Act → World → Prop} {c X : Code} (l : Nat) (J : Act → World → Prop) (μ : Act → World → Nat) (hf : findLabel c l = some (.seq .skip X))
    (pass : ∀ a w, J a w → X.wp P (Exit.jump l (fun a' w' => J a' w' ∧ μ a' w' < μ a w) Q) a w)
    (first : (∀ a w, J a w → X.wp P (Exit.jump l J Q) a w) → c.wp P (Exit.jump l J Q) a w) : (Code.scope c).wp P Q a w :=
  wp_scope_jumps l J μ hf (first fun a w hJ => Code.wp_mono (fun e a w q => by
    cases e with
    | goto l' => exact ⟨q.1, q.2.1⟩
    | _ => exact q) (pass a w hJ)) (fun a w hJ => wp_seq (wp_skip (pass a w hJ)))
theorem or_step (m x : Int) (h0 : 0 ≤ m) (h1 : m < 36028797018963968) (h2 : 0 ≤ x) (h3 : x < 256) : Go.bits .or .i64 (m * 256) x = m * 256 + x :=
  bits_join .i64 63 (by decide) (fun n h0 h1 => IntWalk.i64_in _ (by omega)) 8 _ _ (by omega) (by omega) (by omega) h2 (by omega) (by omega)
theorem byte_at {l : List Int} (hb : ∀ x ∈ l, 0 ≤ x ∧ x < 256) (i : Nat) : 0 ≤ l.getD i 0 ∧ l.getD i 0 < 256 := by
  rcases Nat.lt_or_ge i l.length with h | h
  · rw [List.getD_eq_getElem?_getD, List.getElem?_eq_getElem h]; exact hb _ (List.getElem_mem h)
  · rw [List.getD_eq_getElem?_getD, List.getElem?_eq_none h]; exact ⟨by decide, by decide⟩

theorem drawn_cell {w w1 : World} (h : Drawn0 w w1) (a : Addr) : w1.cell? a = w.cell? a := by
  obtain ⟨n, rfl⟩ := h
  rfl
theorem take_eq_step {α : Type} {xs ys : List α} (d : α) (k : Nat) (h : xs.take k = ys.take k) (h1 : k < xs.length) (h2 : k < ys.length) (he : xs.getD k d = ys.getD k d) : xs.take (k + 1) = ys.take (k + 1) := by
  rw [List.take_succ_eq_append_getElem h1, List.take_succ_eq_append_getElem h2, h]
  simp only [List.getD_eq_getElem?_getD, List.getElem?_eq_getElem h1, List.getElem?_eq_getElem h2, Option.getD_some] at he
  rw [he]
theorem Drawn0.trans_ {w w1 w2 : World} (h : Drawn0 w w1) (k : Drawn0 w1 w2) : Drawn0 w w2 := by
  obtain ⟨n, rfl⟩ := h
  obtain ⟨m, rfl⟩ := k
  exact ⟨⟨n + m, World.drewN_drewN ..⟩⟩
theorem C_fix {α : Type} {d : Kd α} {w W : World} {A : Option Addr} {n : Nat} {xs : List α} (h : Kd.C d w A n xs) (hb : Below w.heap.size w W) : Kd.C (Kd.fixed d w) W A n xs := ReadsRow.imp_ h hb (fun _ _ hp => hp)
theorem C_unfix {α : Type} {d : Kd α} {w w1 : World} (hb : Below w.heap.size w w1) {A : Option Addr} {n : Nat} {xs : List α} (h : Kd.C (Kd.fixed d w) w1 A n xs) : Kd.C d w1 A n xs :=
  ⟨h.1, h.2.1, fun hn => by
    obtain ⟨ad, e, hc⟩ := h.2.2 hn
    refine ⟨ad, e, fun j p hj => ?_⟩
    obtain ⟨c, h1, h2, h3⟩ := hc j p hj
    exact ⟨c, h1, d.K_below hb h2, h3⟩⟩
theorem C_drawn {α : Type} {d : Kd α} {w w1 : World} {A : Option Addr} {n : Nat} {xs : List α} (h : Kd.C d w A n xs) (hd : Drawn0 w w1) : Kd.C d w1 A n xs := by
  obtain ⟨m, rfl⟩ := hd
  exact Kd.C_drewN h m
theorem drewN_add (w : World) (a b c : Nat) : (w.drewN (a + b)).drewN c = w.drewN (a + (b + c)) := by rw [World.drewN_drewN, Nat.add_assoc]
theorem drew_C {α : Type} {d : Kd α} {w : World} {A : Option Addr} {n : Nat} {xs : List α} (h : Kd.C d w A n xs) (m : Nat) : Kd.C d (w.drewN m) A n xs := Kd.C_drewN h m

/-- Arrays by value: an element. -/
theorem run_size {P : Program} {e : TypeId} {z : Option Value} {sz by_ : Nat} (hi : (P.info? e).map (fun i => (i.zero, i.size, i.bytes)) = some (z, sz, by_)) (w : World) : (Go.sizeOf e).run P w = Result.ok sz w := by
  obtain ⟨i0, hi0, hzz⟩ := Option.map_eq_some_iff.1 hi
  simp only [Prod.mk.injEq] at hzz
  simp [Go.sizeOf, typeInfo, hi0, hzz.2.1, go_sem]
theorem run_isAgg {P : Program} {e : TypeId} {d : TypeDesc} (h : P.underlying e = some d) (w : World) : (isAgg e).run P w = Result.ok (match d with | .struct _ | .array _ _ => true | _ => false) w := by
  unfold isAgg
  rw [Sem.run_bind, run_underlying h w]
  cases d <;> simp_all
theorem run_index_int {P : Program} (t e : TypeId) (n : Nat) (cs : Array Value) (k ke : IntKind) (i : Nat) (h : P.underlying t = some (.array n e)) (he : P.underlying e = some (.int ke)) {z : Option Value} {by_ : Nat} (hinfo : (P.info? e).map (fun i => (i.zero, i.size, i.bytes)) = some (z, 1, by_)) (hi : i < n) (v : Value) (hv : cs[i]? = some v) (w : World) :
    (Instr.index t (.agg cs) (.int k (i : Int))).run P w = .ok v w := by
  simp only [Instr.index, asIntOf, Sem.run_bind, Sem.run_pure, Result.andThen_ok, run_underlying h]
  have hn : (0 ≤ (i : Int) ∧ (i : Int) < (n : Int)) := by omega
  rw [if_pos hn]
  simp [run_size hinfo, part, run_isAgg he, hv]
theorem run_index_agg {P : Program} (t e : TypeId) (n : Nat) (cs : Array Value) (k : IntKind) (i : Nat) (h : P.underlying t = some (.array n e)) {d : TypeDesc} (he : P.underlying e = some d) (hd : (match d with | .struct _ | .array _ _ => true | _ => false) = true) {z : Option Value} {sz by_ : Nat} (hinfo : (P.info? e).map (fun i => (i.zero, i.size, i.bytes)) = some (z, sz, by_)) (hi : i < n) (w : World) :
    (Instr.index t (.agg cs) (.int k (i : Int))).run P w = .ok (.agg (cs.extract (i * sz) (i * sz + sz))) w := by
  simp only [Instr.index, asIntOf, Sem.run_bind, Sem.run_pure, Result.andThen_ok, run_underlying h]
  have hn : (0 ≤ (i : Int) ∧ (i : Int) < (n : Int)) := by omega
  rw [if_pos hn]
  simp [run_size hinfo, part, run_isAgg he, hd]
theorem cell_new1 (w : World) (v : Value) (t : Nat) : (w.alloc (.cells #[v] t)).cell? ⟨w.heap.size, 0, none⟩ = some v := by
  rw [World.cell?, heap_alloc_new]
  rfl
theorem cell_keep {w w1 : World} {a : Addr} {v : Value} (hb : Below w.heap.size w w1) (h : w.cell? a = some v) : w1.cell? a = some v := (hb.cell (World.block_lt_of_cell? w _ h)).trans h
/-- A package-level variable's block: its cells. -/
def LaidAt (w : World) (g : Nat) (cs : Array Value) : Prop := ∃ t fr, w.heap[g]? = some (.cells cs t fr)
theorem LaidAt.below {w w1 : World} {g : Nat} {cs : Array Value} (h : LaidAt w g cs) (hb : Below w.heap.size w w1) : LaidAt w1 g cs := by
  obtain ⟨t, fr, h⟩ := h
  exact ⟨t, fr, (hb.block g (Array.getElem?_eq_some_iff.1 h).1).trans h⟩

/-- Bytes of a number, four and eight, the highest one first. -/
def be4 (n : Nat) : List Int := [(n : Int) / 16777216 % 256, (n : Int) / 65536 % 256, (n : Int) / 256 % 256, (n : Int) % 256]
def joinL (l : List (List Int)) : List Int := l.flatMap fun p => be4 p.length ++ p
theorem joinL_snoc (l : List (List Int)) (k : Nat) (h : k < l.length) : joinL (l.take (k + 1)) = joinL (l.take k) ++ be4 (l.getD k []).length ++ l.getD k [] := by
  rw [List.take_succ_eq_append_getElem h, joinL, List.flatMap_append]
  simp [joinL, List.getElem?_eq_getElem h]
theorem joinL_le (l : List (List Int)) (k : Nat) : (joinL (l.take k)).length ≤ (joinL l).length := by
  conv => rhs; rw [← List.take_append_drop k l]
  rw [joinL, joinL, List.flatMap_append, List.length_append]
  omega
/-- The eight bytes of a number, as of 64 bits. -/
def be8 (n : Int) : List Int := [n / 72057594037927936 % 256, n / 281474976710656 % 256, n / 1099511627776 % 256, n / 4294967296 % 256, n / 16777216 % 256, n / 65536 % 256, n / 256 % 256, n % 256]
theorem be8_wrap (p q : Int) (h : IntKind.u64.wrap p = q) : be8 p = be8 q ∧ 0 ≤ q := by
  rw [IntKind.wrap_u64] at h
  subst h
  refine ⟨?_, by omega⟩
  simp only [be8, List.cons.injEq, and_true]
  refine ⟨?_, ?_, ?_, ?_, ?_, ?_, ?_, ?_⟩ <;> omega
def numsL (l : List Int) : List Int := l.flatMap be8
theorem numsL_snoc (l : List Int) (k : Nat) (h : k < l.length) : numsL (l.take (k + 1)) = numsL (l.take k) ++ be8 (l.getD k 0) := by
  rw [List.take_succ_eq_append_getElem h, numsL, List.flatMap_append]
  simp [numsL, List.getElem?_eq_getElem h]
theorem numsL_len (l : List Int) : (numsL l).length = 8 * l.length := by
  induction l with
  | nil => rfl
  | cons x l ih => rw [numsL, List.flatMap_cons, List.length_append, ← numsL, ih]; simp [be8]; omega
end Go.Proofs.YtfameghednapkaaDoor.K
namespace Go.Proofs.YtfameghednapkaaDoor.Fixed
open Go.RowKit Go.Proofs.YtfameghednapkaaDoorW.PrintWords Go.Proofs.YtfameghednapkaaDoorW.PrintLast Go.Proofs.YtfameghednapkaaDoorW.PrintMore Go.Proofs.YtfameghednapkaaDoor.K
set_option linter.unusedVariables false
def inR (n : Int) : Bool := decide (-2147483648 ≤ n ∧ n ≤ 2147483647)
def toldV (n : Int) : Int × Int := if inR n = true then (n, 0) else (0, 17)
def prodV (a b : Int) : Int := (a * b + 32768) / 65536
def addV (a b : Int) : Int × Int := if inR a = true ∧ inR b = true then toldV (a + b) else (0, 10)
def mulV (a b : Int) : Int × Int := if inR a = true ∧ inR b = true then toldV (prodV a b) else (0, 10)
def divV (a b : Int) : Int × Int := if inR a = true ∧ inR b = true then (if b = 0 then (0, 26) else toldV (Int.fdiv (a * 65536) b)) else (0, 10)
theorem inR_true {n : Int} (h : inR n = true) : -2147483648 ≤ n ∧ n ≤ 2147483647 := of_decide_eq_true h
theorem inR_false {n : Int} (h : inR n = false) : n < -2147483648 ∨ 2147483647 < n := by
  have := of_decide_eq_false h
  omega
theorem one_int (w : World) (x : Int) : Kd.C (Kd.int .i64) (w.alloc (.cells #[.int .i64 x] 3)) (some ⟨w.heap.size, 0, none⟩) 1 [x] := C_int (reads_lit w .i64 3 [x] (by simp))
theorem two_ints (w : World) (x y : Int) : Kd.C (Kd.int .i64) (w.alloc (.cells #[.int .i64 x, .int .i64 y] 3)) (some ⟨w.heap.size, 0, none⟩) 2 [x, y] := C_int (reads_lit w .i64 3 [x, y] (by simp))
set_option maxHeartbeats 1000000 in
theorem check_n (A : Option Addr) (n c : Nat) (xs : List Int) (w : World) (hx : Kd.C (Kd.int .i64) w A n xs) (r : Int) (hr : (if xs.all inR = true then 0 else 10) = r) :
    Calls Tryd.prog 71 #[.slice A n c] w fun e w' => e = .returned (.int .i64 r) ∧ Drawn0 w w' := by
  obtain rfl := hx.1
  have HX := Aside0.mk hx
  have HRr := Aside0.mk hr
  have hm := hx.2.1
  clear hx hr
  go_enter Tryd.func71, Tryd.ntmps71
  go_wp2
  go_loop [7] (fun v7 => ∃ k : Nat, k ≤ xs.length ∧ v7 = .int .i64 k ∧ Aside0 ((xs.take k).all inR = true)) (fun v7 => xs.length - (intOf v7).toNat)
  case atStart => exact ⟨0, Nat.zero_le _, rfl, ⟨by simp⟩⟩
  case round =>
    obtain ⟨k, hk, rfl, HE⟩ := hrel
    by_cases hlt : k < xs.length
    · obtain ⟨ad, rfl, hx⟩ := int_at HX.out k hlt
      have HG := Aside0.mk (show xs.take (k + 1) = xs.take k ++ [xs.getD k 0] by rw [List.take_succ_eq_append_getElem hlt]; simp [List.getElem?_eq_getElem hlt])
      have HI := Aside0.mk (show xs.getD k 0 ∈ xs by rw [List.getD_eq_getElem?_getD, List.getElem?_eq_getElem hlt]; exact List.getElem_mem hlt)
      generalize xs.getD k 0 = x at *
      have HF : Aside0 (inR x = false → r = 10) := ⟨fun h => by
        rw [← HRr.out, if_neg]
        intro h2
        have := List.all_eq_true.1 h2 x HI.out
        rw [h] at this
        cases this⟩
      rcases Int.lt_or_le x (-2147483648) with h1 | h1
      · have h1D : decide (x < -2147483648) = true := by simpa using h1
        obtain rfl := HF.out (by unfold inR; simp; omega)
        go_wp2
        go_ret
        exact ⟨rfl, ⟨0, rfl⟩⟩
      · have h1D : decide (x < -2147483648) = false := by simp; omega
        rcases Int.lt_or_le 2147483647 x with h2 | h2
        · have h2D : decide (2147483647 < x) = true := by simpa using h2
          obtain rfl := HF.out (by unfold inR; simp; omega)
          go_wp2
          go_ret
          exact ⟨rfl, ⟨0, rfl⟩⟩
        · have h2D : decide (2147483647 < x) = false := by simp; omega
          have HX2 := Aside0.mk (show inR x = true by unfold inR; simp; omega)
          go_wp2
          go_round
          case measure => simp [intOf]; omega
          case rel => exact ⟨k + 1, by omega, by go_num, ⟨by rw [HG.out, List.all_append, HE.out]; simp [HX2.out]⟩⟩
    · obtain rfl : k = xs.length := by omega
      have hr0 : r = 0 := by
        have h1 := HE.out
        rw [List.take_length] at h1
        rw [← HRr.out, if_pos h1]
      subst hr0
      go_wp2
      go_ret
      exact ⟨rfl, ⟨0, rfl⟩⟩
theorem check1_val (x : Int) : (if [x].all inR = true then (0 : Int) else 10) = if inR x = true then 0 else 10 := by simp
theorem check2_val (x y : Int) : (if [x, y].all inR = true then (0 : Int) else 10) = if inR x = true ∧ inR y = true then 0 else 10 := by simp
theorem Check_calls (x : Int) (w : World) (r : Int) (hr : (if inR x = true then 0 else 10) = r) :
    Calls Tryd.prog 64 #[.int .i64 x] w fun e w' => e = .returned (.int .i64 r) ∧ Below w.heap.size w w' := by
  have HRr := Aside0.mk hr
  clear hr
  go_enter Tryd.func64, Tryd.ntmps64
  go_wp2_with (fail)
  refine (check_n _ _ _ [x] _ (one_int w x) r (by rw [check1_val]; exact HRr.out)).mono ?_
  rintro e w1 ⟨rfl, hd⟩
  have HB := Aside0.mk (below_step (bel_alloc (Below.refl _ _) _) hd.below)
  clear hd
  go_wp2_with (fail)
  go_ret
  exact ⟨rfl, HB.out⟩
end Go.Proofs.YtfameghednapkaaDoor.Fixed
namespace Go.Proofs.YtfameghednapkaaDoor.K
open Go
section
variable {P : Program} {Q : Exit → Act → World → Prop} {C : World → Prop}
/-- The store's stand-in: it waits as the store does, and does nothing. -/
def stood (o : Oper) : Oper := { dst := none, op := .assign (.const (.bool true)), type := 0, pos := "", after := o.after, guard := none }
theorem snoc_at (l : List Oper) (o : Oper) (i : Nat) (hi : i < l.length) : (l ++ [o]).toArray[i]? = l[i]? := by
  rw [List.getElem?_toArray, List.getElem?_append_left hi]
theorem snoc_last (l : List Oper) (o : Oper) : (l ++ [o]).toArray[l.length]? = some o := by
  rw [List.getElem?_toArray, List.getElem?_append_right (Nat.le_refl _), Nat.sub_self]
  rfl
theorem stood_ready (l : List Oper) (o : Oper) (listed : Array Bool) : Region.ready .any (l ++ [stood o]).toArray listed = Region.ready .any (l ++ [o]).toArray listed := by
  unfold Region.ready
  have hs : (l ++ [stood o]).toArray.size = (l ++ [o]).toArray.size := by simp
  rw [hs]
  refine List.filter_congr fun i hi => ?_
  have hi' : i < l.length + 1 := by simpa using hi
  rcases Nat.lt_or_ge i l.length with h | h
  · rw [snoc_at _ _ _ h, snoc_at _ _ _ h]
  · obtain rfl : i = l.length := by omega
    rw [snoc_last, snoc_last]
    rfl
theorem stood_yielded (l : List Oper) (o : Oper) (hd : o.dst = none) (tmps : Array Value) : yielded (l ++ [stood o]).toArray tmps = yielded (l ++ [o]).toArray tmps := by
  funext j
  unfold yielded
  rcases Nat.lt_or_ge j l.length with h | h
  · rw [snoc_at _ _ _ h, snoc_at _ _ _ h]
  · rcases Nat.lt_or_ge l.length j with h2 | h2
    · rw [Array.getElem?_eq_none (by simp; omega), Array.getElem?_eq_none (by simp; omega)]
    · obtain rfl : j = l.length := by omega
      rw [snoc_last, snoc_last, Option.bind_some, Option.bind_some, hd]
      rfl
/-- The store comes up behind all others. -/
theorem last_ready (l : List Oper) (o : Oper) (listed : Array Bool) (hall : ((List.range l.length).all fun i => o.after.any fun e => Region.binds .any e && e.on == i) = true) (hr : l.length ∈ Region.ready .any (l ++ [o]).toArray listed) :
    ∀ i, i < l.length → listed.getD i false = true := by
  intro i hi
  unfold Region.ready at hr
  rw [List.mem_filter, snoc_last] at hr
  obtain ⟨_, h2⟩ := hr
  simp only [Option.map_some, Option.getD_some, Bool.and_eq_true] at h2
  have h3 := List.all_eq_true.1 hall i (List.mem_range.2 hi)
  obtain ⟨j, hj, h4⟩ := Array.any_eq_true.1 h3
  have h5 := Array.all_eq_true.1 h2.2 j hj
  simp only [Bool.and_eq_true, beq_iff_eq] at h4
  rw [h4.1, h4.2] at h5
  simpa using h5
theorem none_ready (l : List Oper) (o : Oper) (listed : Array Bool) (h : ∀ i, i < l.length → listed.getD i false = true) (h2 : listed.getD l.length true = true) : Region.ready .any (l ++ [o]).toArray listed = [] := by
  unfold Region.ready
  rw [List.filter_eq_nil_iff]
  intro i hi
  have hi' : i < l.length + 1 := by simpa using hi
  rcases Nat.lt_or_ge i l.length with h3 | h3
  · have h4 := h i h3
    have h5 : listed.getD i true = true := by
      rcases Nat.lt_or_ge i listed.size with h6 | h6
      · simpa [h6] using h4
      · simp [Array.getElem?_eq_none h6] at h4
    simp [h5]
  · obtain rfl : i = l.length := by omega
    simp [h2]
theorem set_getD (listed : Array Bool) (i j : Nat) (d : Bool) (h : listed.getD j d = true) : (listed.setIfInBounds i true).getD j d = true := by
  by_cases hij : i = j
  · subst hij
    rcases Nat.lt_or_ge i listed.size with h6 | h6
    · simp [h6]
    · simpa [Array.getElem?_eq_none h6, h6] using h
  · simpa [Array.getElem?_setIfInBounds_ne hij] using h
theorem set_getD_self (listed : Array Bool) (i : Nat) : (listed.setIfInBounds i true).getD i true = true := by
  rcases Nat.lt_or_ge i listed.size with h6 | h6
  · simp [h6]
  · simp [h6]
/-- Every operation waits for elder ones alone. -/
def ordered (l : List Oper) : Bool := (List.range l.length).all fun i => ((l[i]?).map fun o => o.after.all fun e => !Region.binds .any e || decide (e.on < i)).getD true
theorem some_ready (l : List Oper) (ho : ordered l = true) (listed : Array Bool) (hs : listed.size = l.length) : ∀ k, k ≤ l.length → (∀ i, i < k → listed.getD i false = true) ∨ ∃ i, i < k ∧ i ∈ Region.ready .any l.toArray listed := by
  intro k
  induction k with
  | zero => intro _; exact .inl fun i hi => absurd hi (Nat.not_lt_zero _)
  | succ k ih =>
    intro hk
    rcases ih (by omega) with h | ⟨i, hi, hr⟩
    · cases hb : listed.getD k false with
      | true =>
        refine .inl fun i hi => ?_
        rcases Nat.lt_or_ge i k with h1 | h1
        · exact h i h1
        · obtain rfl : i = k := by omega
          exact hb
      | false =>
        refine .inr ⟨k, Nat.lt_succ_self k, ?_⟩
        unfold Region.ready
        rw [List.mem_filter]
        have hkl : k < l.length := by omega
        have h1 := List.all_eq_true.1 ho k (List.mem_range.2 hkl)
        rw [List.getElem?_eq_getElem hkl] at h1
        simp only [Option.map_some, Option.getD_some] at h1
        refine ⟨by rw [List.mem_range]; simpa using hkl, ?_⟩
        rw [List.getElem?_toArray, List.getElem?_eq_getElem hkl]
        simp only [Option.map_some, Option.getD_some, Bool.and_eq_true]
        have hks : k < listed.size := by omega
        refine ⟨?_, ?_⟩
        · have h2 : listed[k] = false := by simpa [hks] using hb
          simp [hks, h2]
        · rw [Array.all_eq_true]
          intro j hj
          have h2 := Array.all_eq_true.1 h1 j hj
          simp only [Bool.or_eq_true, decide_eq_true_eq] at h2 ⊢
          exact h2.imp id fun h3 => h _ h3
    · exact .inr ⟨i, by omega, hr⟩
theorem wpAny_stood (l : List Oper) (o : Oper) (hd : o.dst = none) (ho : ordered (l ++ [stood o]) = true) (hall : ((List.range l.length).all fun i => o.after.any fun e => Region.binds .any e && e.on == i) = true) :
    ∀ (fuel : Nat) (listed : Array Bool) (a : Act) (w : World), C w → listed.size = l.length + 1 → listed.getD l.length true = false →
      wpAnyQ P .any (l ++ [stood o]).toArray C (fun a' => ∀ w', C w' → wpList P (l ++ [o]).toArray Q [o] a' w') fuel listed a → wpAny P .any (l ++ [o]).toArray Q fuel listed a w := by
  intro fuel
  induction fuel with
  | zero =>
    intro listed a w hC hs hun h
    exfalso
    rcases some_ready _ ho listed (by simpa using hs) (l.length + 1) (by simp) with h1 | ⟨i, _, h1⟩
    · have h2 := h1 l.length (Nat.lt_succ_self _)
      have hks : l.length < listed.size := by omega
      simp [hks] at hun h2
      rw [hun] at h2
      cases h2
    · rw [h.1] at h1
      cases h1
  | succ fuel ih =>
    intro listed a w hC hs hun h
    have hrd := stood_ready l o listed
    have hlast : ∀ i, i ∈ Region.ready .any (l ++ [o]).toArray listed → i < l.length ∨ i = l.length := fun i hi => by
      unfold Region.ready at hi
      have := List.mem_range.1 (List.mem_filter.1 hi).1
      simp at this
      omega
    refine ⟨fun hr => ?_, fun i hi => ?_⟩
    · exfalso
      rcases some_ready _ ho listed (by simpa using hs) (l.length + 1) (by simp) with h1 | ⟨i, _, h1⟩
      · have h2 := h1 l.length (Nat.lt_succ_self _)
        have hks : l.length < listed.size := by omega
        simp [hks] at hun h2
        rw [hun] at h2
        cases h2
      · rw [hrd, hr] at h1
        cases h1
    · have hq := h.2 i (by rw [hrd]; exact hi)
      rcases hlast i hi with hlt | rfl
      · have hw := wpOp_of_qOp (Q' := Q) (K' := wpAny P .any (l ++ [o]).toArray Q fuel (listed.setIfInBounds i true)) hC
          (fun a' w' hC' hk => ih _ a' w' hC' (by simpa using hs) (by simpa [Array.getElem?_setIfInBounds_ne (show i ≠ l.length by omega)] using hun) hk) hq
        unfold wpOp at hw ⊢
        rw [snoc_at _ _ _ hlt] at hw ⊢
        rw [stood_yielded _ _ hd] at hw
        exact hw
      · have hl := last_ready l o listed hall hi
        have hnone : Region.ready .any (l ++ [o]).toArray (listed.setIfInBounds l.length true) = [] := none_ready l o _ (fun i hi => set_getD _ _ _ _ (hl i hi)) (set_getD_self _ _)
        have hnone' : Region.ready .any (l ++ [stood o]).toArray (listed.setIfInBounds l.length true) = [] := by rw [stood_ready, hnone]
        have hQ : ∀ w', C w' → wpList P (l ++ [o]).toArray Q [o] a w' := by
          unfold qOp at hq
          rw [snoc_last] at hq
          have hwt : Region.wanted (stood o) (yielded (l ++ [stood o]).toArray a.tmps) = true := rfl
          simp only [hwt, if_true] at hq
          obtain ⟨v, _, h2⟩ := hq
          have h3 : wpAnyQ P .any (l ++ [stood o]).toArray C (fun a' => ∀ w', C w' → wpList P (l ++ [o]).toArray Q [o] a' w') fuel (listed.setIfInBounds l.length true) a := h2
          cases fuel with
          | zero => exact h3.2
          | succ fuel => exact h3.1 hnone'
        have hK : ∀ a' w', Q .normal a' w' → wpAny P .any (l ++ [o]).toArray Q fuel (listed.setIfInBounds l.length true) a' w' := by
          intro a' w' hn
          cases fuel with
          | zero => exact ⟨hnone, hn⟩
          | succ fuel => exact ⟨fun _ => hn, fun i hi => by rw [hnone] at hi; cases hi⟩
        have hl2 := hQ w hC
        unfold wpOp
        rw [snoc_last]
        unfold wpList at hl2
        simp only at hl2 ⊢
        split at hl2
        · rename_i hw
          simp only [hw, if_true]
          exact hl2.imp (Oper.wp_mono hK) id
        · rename_i hw
          simp only [hw]
          exact hK _ _ hl2
theorem wpQuiet_append {ops : Array Oper} {Q : Act → Prop} : ∀ (l1 l2 : List Oper) (a : Act), wpQuiet P ops C (wpQuiet P ops C Q l2) l1 a → wpQuiet P ops C Q (l1 ++ l2) a
  | [], _, _, h => h
  | o :: l1, l2, a, h => by
    unfold wpQuiet at h
    show wpQuiet P ops C Q (o :: (l1 ++ l2)) a
    unfold wpQuiet
    split at h
    · rename_i hw
      rw [if_pos hw]
      exact Oper.quiet_mono (fun a' h' => wpQuiet_append l1 l2 a' h') h
    · rename_i hw
      rw [if_neg hw]
      exact wpQuiet_append l1 l2 _ h
theorem wpQuiet_imp {ops : Array Oper} {Q Q' : Act → Prop} (hQ : ∀ a, Q a → Q' a) : ∀ (l : List Oper) (a : Act), wpQuiet P ops C Q l a → wpQuiet P ops C Q' l a
  | [], _, h => hQ _ h
  | o :: l, a, h => by
    unfold wpQuiet at h ⊢
    split at h
    · rename_i hw
      rw [if_pos hw]
      exact Oper.quiet_mono (fun a' h' => wpQuiet_imp hQ l a' h') h
    · rename_i hw
      rw [if_neg hw]
      exact wpQuiet_imp hQ l _ h
theorem stood_quiet (o : Oper) (ops : Array Oper) {Q : Act → Prop} {a : Act} (h : Q a) : wpQuiet P ops C Q [stood o] a := by
  unfold wpQuiet
  rw [if_pos (show Region.wanted (stood o) (yielded ops a.tmps) = true from rfl)]
  refine ⟨.bool true, fun w _ => ?_, h⟩
  unfold Oper.quietAt
  show Oper.quietUpon P C w (.bool true) ((execOp a.eval (stood o)).run P w)
  simp [execOp, stood, Oper.quietUpon, go_sem]
/-- READS AND QUIET CALLS, AND ONE STORE BEHIND THEM ALL: the walk of the text's order serves every order. -/
theorem wp_region_quiet_store {id : Nat} {a : Act} {w : World} {L : List Oper} (n : Nat) (hm : P.follows .mixedOrders = true) {o : Oper} (hL : L.drop n = [o]) (hd : o.dst = none)
    (hB : (Region.lexB .any (L.take n ++ [stood o]).toArray && ordered (L.take n ++ [stood o]) && (List.range (L.take n).length).all fun i => o.after.any fun e => Region.binds .any e && e.on == i) = true)
    (h : wpQuiet P (L.take n ++ [stood o]).toArray (fun w' => ∃ n, w' = w.drewN n) (fun a' => ∀ w', (∃ n, w' = w.drewN n) → wpList P L.toArray Q [o] a' w') (L.take n) a) : (Code.region id L.toArray true).wp P Q a w := by
  simp only [Bool.and_eq_true] at hB
  obtain ⟨⟨h1, h2⟩, h3⟩ := hB
  have hLL : L = L.take n ++ [o] := by rw [← hL, List.take_append_drop]
  generalize L.take n = l at *
  subst hLL
  refine wp_region_any hm ?_
  simp only [Region.lexB, Bool.and_eq_true] at h1
  have hq := wpAnyQ_lex (C := fun w' => ∃ n, w' = w.drewN n) (md := .any) h1.1 (l ++ [stood o]) 0 (Array.replicate (l ++ [stood o]).toArray.size false) a (by simp) (by simpa using h1.2)
    (wpQuiet_append l [stood o] a (by
      refine wpQuiet_imp ?_ l a h
      exact fun a' h' => stood_quiet o _ h'))
  have := wpAny_stood (Q := Q) l o hd h2 h3 (l ++ [stood o]).length (Array.replicate (l ++ [stood o]).toArray.size false) a { w with drawn := w.drawn + 1 } ⟨1, rfl⟩ (by simp) (by simp) hq
  simpa using this
end
end Go.Proofs.YtfameghednapkaaDoor.K
namespace Go.Proofs.YtfameghednapkaaDoor.Ten
open Go.RowKit Go.Proofs.YtfameghednapkaaDoorW.PrintWords Go.Proofs.YtfameghednapkaaDoorW.PrintLast Go.Proofs.YtfameghednapkaaDoorW.PrintMore Go.Proofs.YtfameghednapkaaDoor.K Go.Proofs.YtfameghednapkaaDoor.Fixed
set_option linter.unusedVariables false
set_option linter.unusedSimpArgs false
set_option maxHeartbeats 1000000 in
theorem tnumber_calls (x : Int) (w : World) :
    Calls Tryd.prog 36 #[.int .i64 x] w fun e w' => e = .returned (.bool (inR x)) ∧ Below w.heap.size w w' := by
  cases hx : inR x with
  | true =>
    go_enter Tryd.func36, Tryd.ntmps36
    go_wp2_with (fail)
    refine (Check_calls x w 0 (by rw [hx]; rfl)).mono ?_
    rintro e w' ⟨rfl, hb⟩
    go_wp2
    go_ret
    exact ⟨rfl, hb⟩
  | false =>
    go_enter Tryd.func36, Tryd.ntmps36
    go_wp2_with (fail)
    refine (Check_calls x w 10 (by rw [hx]; rfl)).mono ?_
    rintro e w' ⟨rfl, hb⟩
    go_wp2
    go_ret
    exact ⟨rfl, hb⟩
/-- A function value that tells of a number whether it is so, and makes memory at the most. -/
def Tells (fid : Nat) (fa lb : Array Value) (p : Int → Bool) (w : World) : Prop := ∀ x W, Below w.heap.size w W → Calls Tryd.prog fid (fa ++ #[.int .i64 x] ++ lb) W fun e W' => e = .returned (.bool (p x)) ∧ Below W.heap.size W W'
theorem any_take_succ {p : Int → Bool} {l : List Int} {k : Nat} (h : k < l.length) (hk : (l.take k).any p = false) : (l.take (k + 1)).any p = p (l.getD k 0) := by
  rw [List.take_succ_eq_append_getElem h, List.any_append, hk, List.getD_eq_getElem?_getD, List.getElem?_eq_getElem h]
  simp
theorem any_of_take {p : Int → Bool} {l : List Int} {k : Nat} (h : (l.take k).any p = true) : l.any p = true := by
  rw [← List.take_append_drop k l, List.any_append, h, Bool.true_or]
set_option maxHeartbeats 4000000 in
set_option maxRecDepth 100000 in
theorem indexf_calls (fid : Nat) (fa lb : Array Value) (p : Int → Bool) (A : Option Addr) (c : Nat) (l : List Int) (w : World) (hC : Kd.C (Kd.int .i64) w A l.length l) (eg : ∀ args w, (callFunc fid args).run Tryd.prog w = .ok (.enter fid args) w) (ht : Tells fid fa lb p w) :
    Calls Tryd.prog 73 #[.slice A l.length c, .func (.func fid) fa lb] w fun e w' => ∃ i : Int, e = .returned (.int .i64 i) ∧ decide (0 ≤ i) = l.any p ∧ Below w.heap.size w w' := by
  have HC := Aside0.mk hC
  have HT := Aside0.mk ht
  have hm := hC.2.1
  clear hC ht
  go_enter Tryd.func73, Tryd.ntmps73
  go_wp2_with (fail)
  go_loopw [8] (fun i wr => ∃ k : Nat, k ≤ l.length ∧ i = .int .i64 k ∧ Aside0 ((l.take k).any p = false ∧ Below w.heap.size w wr)) (fun i _ => l.length - (intOf i).toNat)
  case atStart => exact ⟨0, Nat.zero_le _, rfl, ⟨by simp, Below.refl _ _⟩⟩
  case round =>
    obtain ⟨k, hk, rfl, HR⟩ := hrel
    by_cases hlt : k < l.length
    · obtain ⟨ad, rfl, hc⟩ := int_at' HC.out HR.out.2 k hlt
      have HS := Aside0.mk (any_take_succ hlt HR.out.1)
      generalize l.getD k 0 = x at *
      go_wp2_with (fail)
      refine (HT.out x wr HR.out.2).mono ?_
      rintro e w1 ⟨rfl, hb⟩
      have HB := Aside0.mk (below_step HR.out.2 hb)
      clear hb hc
      cases hp : p x with
      | true =>
        have HF : Aside0 (l.any p = true) := ⟨any_of_take (by rw [HS.out, hp])⟩
        clear hp
        go_wp2
        go_ret
        exact ⟨_, rfl, by rw [HF.out]; simp, HB.out⟩
      | false =>
        have HF : Aside0 ((l.take (k + 1)).any p = false) := ⟨by rw [HS.out, hp]⟩
        clear hp
        go_wp2
        go_roundw
        case rel => exact ⟨k + 1, by omega, by go_num, ⟨HF.out, HB.out⟩⟩
        case measure => simp [intOf]; omega
    · obtain rfl : k = l.length := by omega
      have HF : Aside0 (l.any p = false) := ⟨by have := HR.out.1; rwa [List.take_of_length_le (Nat.le_refl _)] at this⟩
      go_wp2
      go_ret
      exact ⟨_, rfl, by rw [HF.out]; rfl, HR.out.2⟩
set_option maxHeartbeats 4000000 in
theorem containsf_calls (fid : Nat) (fa lb : Array Value) (p : Int → Bool) (A : Option Addr) (c : Nat) (l : List Int) (w : World) (hC : Kd.C (Kd.int .i64) w A l.length l) (eg : ∀ args w, (callFunc fid args).run Tryd.prog w = .ok (.enter fid args) w) (ht : Tells fid fa lb p w) :
    Calls Tryd.prog 62 #[.slice A l.length c, .func (.func fid) fa lb] w fun e w' => e = .returned (.bool (l.any p)) ∧ Below w.heap.size w w' := by
  go_enter Tryd.func62, Tryd.ntmps62
  go_wp2_with (fail)
  refine (indexf_calls fid fa lb p A c l w hC eg ht).mono ?_
  rintro e w' ⟨i, rfl, hi, hb⟩
  have HI := Aside0.mk hi
  have HB := Aside0.mk hb
  clear hi hb hC ht eg
  go_wp2
  go_ret
  exact ⟨congrArg (fun b => Ending.returned (Value.bool b)) HI.out, HB.out⟩
set_option maxHeartbeats 4000000 in
theorem not1_calls (fid : Nat) (fa lb : Array Value) (p : Int → Bool) (Bx : Nat) (x : Int) (w : World) (hbx : w.heap[Bx]? = some (.cells #[.func (.func fid) fa lb] 54 (0, 0))) (eg : ∀ args w, (callFunc fid args).run Tryd.prog w = .ok (.enter fid args) w)
    (ht : Calls Tryd.prog fid (fa ++ #[.int .i64 x] ++ lb) w fun e W' => e = .returned (.bool (p x)) ∧ Below w.heap.size w W') :
    Calls Tryd.prog 63 #[.int .i64 x, .pointer (some ⟨Bx, 0, none⟩)] w fun e w' => e = .returned (.bool (!p x)) ∧ Below w.heap.size w w' := by
  have hc := blk_cell hbx 0
  simp only [List.getElem?_toArray, List.getElem?_cons_zero] at hc
  have HT := Aside0.mk ht
  clear ht hbx
  go_enter Tryd.func63, Tryd.ntmps63
  go_wp2_with (fail)
  refine HT.out.mono ?_
  rintro e w' ⟨rfl, hb⟩
  go_wp2
  go_ret
  exact ⟨rfl, hb⟩
set_option maxHeartbeats 4000000 in
theorem all_calls (fid : Nat) (fa lb : Array Value) (p : Int → Bool) (A : Option Addr) (c : Nat) (l : List Int) (w : World) (hC : Kd.C (Kd.int .i64) w A l.length l) (eg : ∀ args w, (callFunc fid args).run Tryd.prog w = .ok (.enter fid args) w) (ht : Tells fid fa lb p w) :
    Calls Tryd.prog 34 #[.slice A l.length c, .func (.func fid) fa lb] w fun e w' => e = .returned (.bool (l.all p)) ∧ Below w.heap.size w w' := by
  have HB0 : Aside0 (Below w.heap.size w (w.alloc (.cells #[.func (.func fid) fa lb] 54))) := ⟨bel_alloc (Below.refl _ _) _⟩
  have hbx : (w.alloc (.cells #[.func (.func fid) fa lb] 54)).heap[w.heap.size]? = some (.cells #[.func (.func fid) fa lb] 54 (0, 0)) := heap_alloc_new _ _
  have HC := Aside0.mk (containsf_calls 63 #[] #[.pointer (some ⟨w.heap.size, 0, none⟩)] (fun x => !p x) A c l _ (Kd.C_below hC HB0.out) (enters_ Tryd.func63 (by kernel_rfl) rfl)
    (fun x W hb => not1_calls fid fa lb p w.heap.size x W ((hb.block _ (blk_lt hbx)).trans hbx) eg (ht x W (below_step HB0.out hb))))
  have HA : Aside0 ((!(l.any fun x => !p x)) = l.all p) := ⟨by rw [List.not_any_eq_all_not]; simp⟩
  clear hC ht hbx eg
  go_enter Tryd.func34, Tryd.ntmps34
  go_wp2_with (fail)
  refine HC.out.mono ?_
  rintro e w' ⟨rfl, hb⟩
  have HB := Aside0.mk (below_step HB0.out hb)
  clear hb
  go_wp2
  go_ret
  exact ⟨congrArg (fun b => Ending.returned (Value.bool b)) HA.out, HB.out⟩
def checkV (l : List Int) : Int := if l.length = 0 ∨ 512 < l.length then 13 else if l.all inR = true then 0 else 10
theorem checkV_size {l : List Int} (h : l.length = 0 ∨ 512 < l.length) : checkV l = 13 := if_pos h
theorem checkV_ok {l : List Int} (h : ¬ (l.length = 0 ∨ 512 < l.length)) (h2 : l.all inR = true) : checkV l = 0 := by rw [checkV, if_neg h, if_pos h2]
theorem checkV_bad {l : List Int} (h : ¬ (l.length = 0 ∨ 512 < l.length)) (h2 : l.all inR = false) : checkV l = 10 := by rw [checkV, if_neg h, if_neg (by rw [h2]; simp)]
set_option maxHeartbeats 4000000 in
theorem tcheck_calls (A : Option Addr) (c : Nat) (l : List Int) (w : World) (hC : Kd.C (Kd.int .i64) w A l.length l) :
    Calls Tryd.prog 24 #[.slice A l.length c] w fun e w' => e = .returned (.int .i64 (checkV l)) ∧ Below w.heap.size w w' := by
  have HC := Aside0.mk (all_calls 36 #[] #[] inR A c l w hC (enters_ Tryd.func36 (by kernel_rfl) rfl) (fun x W hb => tnumber_calls x W))
  by_cases h0 : l.length = 0
  · have HV := Aside0.mk (checkV_size (l := l) (.inl h0))
    have hD : ((l.length : Int) == 0) = true := by simp [h0]
    clear hC
    go_enter Tryd.func24, Tryd.ntmps24
    go_wp2
    go_ret
    exact ⟨congrArg (fun x => Ending.returned (Value.int .i64 x)) HV.out.symm, Below.refl _ _⟩
  · have hD : ((l.length : Int) == 0) = false := by simp; exact fun h => h0 (by rw [h]; rfl)
    by_cases h1 : 512 < l.length
    · have HV := Aside0.mk (checkV_size (l := l) (.inr h1))
      have hD1 : decide (512 < (l.length : Int)) = true := by simp; omega
      clear hC h0
      go_enter Tryd.func24, Tryd.ntmps24
      go_wp2
      go_ret
      exact ⟨congrArg (fun x => Ending.returned (Value.int .i64 x)) HV.out.symm, Below.refl _ _⟩
    · have hD1 : decide (512 < (l.length : Int)) = false := by simp; omega
      have HN : Aside0 (¬ (l.length = 0 ∨ 512 < l.length)) := ⟨by omega⟩
      clear hC h0 h1
      go_enter Tryd.func24, Tryd.ntmps24
      go_wp2_with (fail)
      refine HC.out.mono ?_
      rintro e w' ⟨rfl, hb⟩
      have HB := Aside0.mk hb
      clear hb
      cases hp : l.all inR with
      | true =>
        have HV := Aside0.mk (checkV_ok HN.out hp)
        clear hp
        go_wp2
        go_ret
        exact ⟨congrArg (fun x => Ending.returned (Value.int .i64 x)) HV.out.symm, HB.out⟩
      | false =>
        have HV := Aside0.mk (checkV_bad HN.out hp)
        clear hp
        go_wp2
        go_ret
        exact ⟨congrArg (fun x => Ending.returned (Value.int .i64 x)) HV.out.symm, HB.out⟩
end Go.Proofs.YtfameghednapkaaDoor.Ten
namespace Go.Proofs.YtfameghednapkaaDoor.Ten
open Go.RowKit Go.Proofs.YtfameghednapkaaDoorW.PrintWords Go.Proofs.YtfameghednapkaaDoorW.PrintLast Go.Proofs.YtfameghednapkaaDoorW.PrintMore Go.Proofs.YtfameghednapkaaDoor.K Go.Proofs.YtfameghednapkaaDoor.Fixed
set_option linter.unusedVariables false
set_option linter.unusedSimpArgs false
def isW (n : Int) : Bool := decide (-16777216 ≤ n ∧ n ≤ 16777216)
set_option maxHeartbeats 1000000 in
theorem weight_calls (x : Int) (w : World) :
    Calls Tryd.prog 35 #[.int .i64 x] w fun e w' => e = .returned (.bool (isW x)) ∧ Below w.heap.size w w' := by
  by_cases h1 : -16777216 ≤ x
  · have d1 : decide (-16777216 ≤ x) = true := by simpa using h1
    by_cases h2 : x ≤ 16777216
    · have d2 : decide (x ≤ 16777216) = true := by simpa using h2
      have HV : Aside0 (isW x = true) := ⟨decide_eq_true ⟨h1, h2⟩⟩
      clear h1 h2
      go_enter Tryd.func35, Tryd.ntmps35
      go_wp2
      go_ret
      exact ⟨congrArg (fun b => Ending.returned (Value.bool b)) HV.out.symm, Below.refl _ _⟩
    · have d2 : decide (x ≤ 16777216) = false := by simpa using h2
      have HV : Aside0 (isW x = false) := ⟨decide_eq_false (fun h => h2 h.2)⟩
      clear h1 h2
      go_enter Tryd.func35, Tryd.ntmps35
      go_wp2
      go_ret
      exact ⟨congrArg (fun b => Ending.returned (Value.bool b)) HV.out.symm, Below.refl _ _⟩
  · have d1 : decide (-16777216 ≤ x) = false := by simpa using h1
    have HV : Aside0 (isW x = false) := ⟨decide_eq_false (fun h => h1 h.1)⟩
    clear h1
    go_enter Tryd.func35, Tryd.ntmps35
    go_wp2
    go_ret
    exact ⟨congrArg (fun b => Ending.returned (Value.bool b)) HV.out.symm, Below.refl _ _⟩
def rndV (n : Int) : Int := (n + 32768) / 65536
def rtV (n : Int) : Int × Int := toldV (rndV n)
theorem rtV_ok {n : Int} (h : inR (rndV n) = true) : rtV n = (rndV n, 0) := by unfold rtV toldV; rw [if_pos h]
theorem rtV_bad {n : Int} (h : inR (rndV n) = false) : rtV n = (0, 17) := by unfold rtV toldV; rw [if_neg (by rw [h]; simp)]
set_option maxHeartbeats 1000000 in
theorem rounded_calls (n : Int) (w : World) (h0 : -4611686018427387904 ≤ n) (h1 : n ≤ 4611686018427387904) :
    Calls Tryd.prog 37 #[.int .i64 n] w fun e w' => e = .returned (.tuple #[.int .i64 (rtV n).1, .int .i64 (rtV n).2]) ∧ Below w.heap.size w w' := by
  have hw : IntKind.i64.wrap (n + 32768) = n + 32768 := by rw [IntKind.wrap_i64]; omega
  have HR : Aside0 ((n + 32768) / 65536 = rndV n) := ⟨rfl⟩
  have hw2 : IntKind.i64.wrap (rndV n) = rndV n := by unfold rndV; rw [IntKind.wrap_i64]; omega
  have hsh : IntKind.i64.wrap ((n + 32768) / 65536) = rndV n := hw2
  clear h0 h1
  cases hp : inR (rndV n) with
  | true =>
    have HV := Aside0.mk (rtV_ok hp)
    have HK := Aside0.mk (tnumber_calls (rndV n) w)
    rw [hp] at HK
    rw [HV.out]
    clear hp
    have hr := HR.out
    generalize rndV n = r at *
    go_enter Tryd.func37, Tryd.ntmps37
    go_wp2_with (fail)
    refine HK.out.mono ?_
    rintro e w' ⟨rfl, hb⟩
    go_wp2
    go_ret2
    exact ⟨rfl, hb⟩
  | false =>
    have HV := Aside0.mk (rtV_bad hp)
    have HK := Aside0.mk (tnumber_calls (rndV n) w)
    rw [hp] at HK
    rw [HV.out]
    clear hp
    have hr := HR.out
    generalize rndV n = r at *
    go_enter Tryd.func37, Tryd.ntmps37
    go_wp2_with (fail)
    refine HK.out.mono ?_
    rintro e w' ⟨rfl, hb⟩
    go_wp2
    go_ret2
    exact ⟨rfl, hb⟩
def dotS (r v : List Int) : Nat → Int
  | 0 => 0
  | k + 1 => dotS r v k + r.getD k 0 * v.getD k 0
def dotV (r v : List Int) : Int × Int :=
  if r.length ≠ v.length ∨ v.length = 0 ∨ 64 < v.length then (0, 13) else if r.all isW = true ∧ v.all inR = true then rtV (dotS r v v.length) else (0, 10)
theorem getD_w {r : List Int} (h : r.all isW = true) (k : Nat) : -16777216 ≤ r.getD k 0 ∧ r.getD k 0 ≤ 16777216 := by
  rcases Nat.lt_or_ge k r.length with h1 | h1
  · rw [List.getD_eq_getElem?_getD, List.getElem?_eq_getElem h1]
    exact of_decide_eq_true (List.all_eq_true.1 h _ (List.getElem_mem h1))
  · rw [List.getD_eq_getElem?_getD, List.getElem?_eq_none h1]
    decide
theorem getD_r {r : List Int} (h : r.all inR = true) (k : Nat) : -2147483648 ≤ r.getD k 0 ∧ r.getD k 0 ≤ 2147483647 := by
  rcases Nat.lt_or_ge k r.length with h1 | h1
  · rw [List.getD_eq_getElem?_getD, List.getElem?_eq_getElem h1]
    exact inR_true (List.all_eq_true.1 h _ (List.getElem_mem h1))
  · rw [List.getD_eq_getElem?_getD, List.getElem?_eq_none h1]
    decide
theorem mul_bd {a b A B : Int} (ha : -A ≤ a ∧ a ≤ A) (hb : -B ≤ b ∧ b ≤ B) (hA : 0 ≤ A) (hB : 0 ≤ B) : -(A * B) ≤ a * b ∧ a * b ≤ A * B := by
  have h : (a * b).natAbs ≤ A.natAbs * B.natAbs := by
    rw [Int.natAbs_mul]
    exact Nat.mul_le_mul (by omega) (by omega)
  have e : ((A.natAbs * B.natAbs : Nat) : Int) = A * B := by rw [Int.natCast_mul, Int.natAbs_of_nonneg hA, Int.natAbs_of_nonneg hB]
  omega
theorem dotS_bd {r v : List Int} (hr : r.all isW = true) (hv : v.all inR = true) : ∀ k : Nat, -((k : Int) * 36028797018963968) ≤ dotS r v k ∧ dotS r v k ≤ (k : Int) * 36028797018963968
  | 0 => by simp [dotS]
  | k + 1 => by
    have h1 := dotS_bd hr hv k
    have h2 := mul_bd (A := 16777216) (B := 2147483648) (getD_w hr k) (show -2147483648 ≤ v.getD k 0 ∧ v.getD k 0 ≤ 2147483648 by have := getD_r hv k; omega) (by decide) (by decide)
    simp only [dotS]
    rw [Int.natCast_add]
    omega
set_option maxHeartbeats 4000000 in
theorem dot_calls (A A' : Option Addr) (c c' : Nat) (r v : List Int) (w : World) (hr : Kd.C (Kd.int .i64) w A r.length r) (hv : Kd.C (Kd.int .i64) w A' v.length v) :
    Calls Tryd.prog 13 #[.slice A r.length c, .slice A' v.length c'] w fun e w' => e = .returned (.tuple #[.int .i64 (dotV r v).1, .int .i64 (dotV r v).2]) ∧ Below w.heap.size w w' := by
  have HR := Aside0.mk hr
  have HV := Aside0.mk hv
  have hm1 := hr.2.1
  have hm2 := hv.2.1
  clear hr hv
  have hend : (r.length ≠ v.length ∨ v.length = 0 ∨ 64 < v.length) → Aside0 (dotV r v = (0, 13)) := fun h => ⟨if_pos h⟩
  by_cases h1 : r.length ≠ v.length
  · have d1 : ((r.length : Int) != (v.length : Int)) = true := by simp; omega
    have HE := hend (.inl h1)
    rw [HE.out]
    clear hend h1
    go_enter Tryd.func13, Tryd.ntmps13
    go_wp2
    go_ret2
    exact ⟨rfl, Below.refl _ _⟩
  · have h1e : r.length = v.length := by omega
    have d1 : ((r.length : Int) != (v.length : Int)) = false := by simp [h1e]
    by_cases h2 : v.length = 0
    · have d2 : ((v.length : Int) == 0) = true := by simp [h2]
      have HE := hend (.inr (.inl h2))
      rw [HE.out]
      clear hend h1 h1e h2
      go_enter Tryd.func13, Tryd.ntmps13
      go_wp2
      go_ret2
      exact ⟨rfl, Below.refl _ _⟩
    · have d2 : ((v.length : Int) == 0) = false := by simp; exact fun h => h2 (by rw [h]; rfl)
      by_cases h3 : 64 < v.length
      · have d3 : decide (64 < (v.length : Int)) = true := by simp; omega
        have HE := hend (.inr (.inr h3))
        rw [HE.out]
        clear hend h1 h1e h2
        go_enter Tryd.func13, Tryd.ntmps13
        go_wp2
        go_ret2
        exact ⟨rfl, Below.refl _ _⟩
      · have d3 : decide (64 < (v.length : Int)) = false := by simp; omega
        have HE : Aside0 (dotV r v = if r.all isW = true ∧ v.all inR = true then rtV (dotS r v v.length) else (0, 10)) := ⟨if_neg (by omega)⟩
        have HN := Aside0.mk h1e
        clear hend h1 h2 h1e
        have hlen : v.length ≤ 64 := by omega
        have HK1 := Aside0.mk (all_calls 35 #[] #[] isW A c r w HR.out (enters_ Tryd.func35 (by kernel_rfl) rfl) (fun x W hb => weight_calls x W))
        have HK2 : Aside0 (∀ W, Below w.heap.size w W → Calls Tryd.prog 34 #[.slice A' v.length c', .func (.func 36) #[] #[]] W fun e w' => e = .returned (.bool (v.all inR)) ∧ Below W.heap.size W w') := ⟨fun W hb => all_calls 36 #[] #[] inR A' c' v W (Kd.C_below HV.out hb) (enters_ Tryd.func36 (by kernel_rfl) rfl) (fun x W hb => tnumber_calls x W)⟩
        go_enter Tryd.func13, Tryd.ntmps13
        go_wp2_with (fail)
        refine HK1.out.mono ?_
        rintro e w1 ⟨rfl, hb⟩
        have HB1 := Aside0.mk hb
        clear hb
        cases hp : r.all isW with
        | false =>
          have HE2 : Aside0 (dotV r v = (0, 10)) := ⟨by rw [HE.out, if_neg (by rw [hp]; simp)]⟩
          clear hp
          go_wp2
          go_ret2
          exact ⟨by rw [HE2.out]; rfl, HB1.out⟩
        | true =>
          have HP := Aside0.mk hp
          clear hp
          go_wp2_with (fail)
          refine (HK2.out w1 HB1.out).mono ?_
          rintro e w2 ⟨rfl, hb⟩
          have HB2 := Aside0.mk (below_step HB1.out hb)
          clear hb
          cases hq : v.all inR with
          | false =>
            have HE2 : Aside0 (dotV r v = (0, 10)) := ⟨by rw [HE.out, if_neg (by rw [hq]; simp)]⟩
            clear hq
            go_wp2
            go_ret2
            exact ⟨by rw [HE2.out]; rfl, HB2.out⟩
          | true =>
            have HE2 : Aside0 (dotV r v = rtV (dotS r v v.length)) := ⟨by rw [HE.out, if_pos ⟨HP.out, hq⟩]⟩
            have HBd := Aside0.mk (dotS_bd HP.out hq)
            have HW := Aside0.mk (getD_w HP.out)
            have HQ := Aside0.mk (getD_r hq)
            clear hq
            go_wp2_with (fail)
            go_loop [6, 36] (fun s i => ∃ k : Nat, k ≤ r.length ∧ i = .int .i64 k ∧ s = .int .i64 (dotS r v k)) (fun _ i => r.length - (intOf i).toNat)
            case atStart => exact ⟨0, Nat.zero_le _, rfl, rfl⟩
            case round =>
              obtain ⟨k, hk, rfl, rfl⟩ := hrel
              have hk64 : k ≤ 64 := by have := HN.out; omega
              by_cases hlt : k < r.length
              · obtain ⟨ad, rfl, hcr⟩ := int_at' HR.out HB2.out k hlt
                have hlt2 : k < v.length := by have := HN.out; omega
                obtain ⟨ad', rfl, hcv⟩ := int_at' HV.out HB2.out k hlt2
                have hS : ∃ y, y = dotS r v (k + 1) := ⟨_, rfl⟩
                obtain ⟨y, hy⟩ := hS
                have hx := mul_bd (A := 16777216) (B := 2147483648) (HW.out k) (show -2147483648 ≤ v.getD k 0 ∧ v.getD k 0 ≤ 2147483648 by have := HQ.out k; omega) (by decide) (by decide)
                have hs1 : IntKind.i64.wrap (r.getD k 0 * v.getD k 0) = r.getD k 0 * v.getD k 0 := by rw [IntKind.wrap_i64]; omega
                have hs2 : IntKind.i64.wrap (dotS r v k + r.getD k 0 * v.getD k 0) = y := by
                  have h9 := HBd.out k
                  rw [hy, show dotS r v (k + 1) = dotS r v k + r.getD k 0 * v.getD k 0 from rfl, IntKind.wrap_i64]
                  omega
                have HY := Aside0.mk hy
                clear hy hx
                generalize r.getD k 0 = a at *
                generalize v.getD k 0 = b at *
                generalize dotS r v k = s at *
                go_wp2
                refine ⟨⟨k + 1, by omega, by go_num, by rw [← HY.out]⟩, by simp [intOf]; omega⟩
              · obtain rfl : k = r.length := by omega
                have HK := Aside0.mk (rounded_calls (dotS r v r.length) w2 (by have := HBd.out r.length; have := HN.out; omega) (by have := HBd.out r.length; have := HN.out; omega))
                go_wp2_with (fail)
                refine HK.out.mono ?_
                rintro e w3 ⟨rfl, hb⟩
                have HB3 := Aside0.mk (below_step HB2.out hb)
                clear hb
                go_wp2_with (fail)
                go_ret2
                exact ⟨by rw [HE2.out, ← HN.out]; rfl, HB3.out⟩
end Go.Proofs.YtfameghednapkaaDoor.Ten
namespace Go.Proofs.YtfameghednapkaaDoor.Ten
def sumV : List Int → Int
  | [] => 0
  | x :: t => x + sumV t
theorem sumV_append (a b : List Int) : sumV (a ++ b) = sumV a + sumV b := by
  induction a with
  | nil => simp [sumV]
  | cons x t ih => simp only [List.cons_append, sumV, ih]; omega
theorem sumV_bd {l : List Int} (h : ∀ x ∈ l, 0 ≤ x ∧ x ≤ 65536) : 0 ≤ sumV l ∧ sumV l ≤ 65536 * (l.length : Int) := by
  induction l with
  | nil => simp [sumV]
  | cons x t ih =>
    have h1 := ih fun y hy => h y (List.Mem.tail _ hy)
    have h2 := h x (List.Mem.head _)
    simp only [sumV, List.length_cons]
    omega
theorem sumV_ge {l : List Int} (h : ∀ x ∈ l, 0 ≤ x) {y : Int} (hy : y ∈ l) : y ≤ sumV l := by
  induction l with
  | nil => cases hy
  | cons x t ih =>
    have h0 : ∀ z ∈ t, 0 ≤ z := fun z hz => h z (List.Mem.tail _ hz)
    have h1 : 0 ≤ sumV t := by
      clear ih hy
      induction t with
      | nil => simp [sumV]
      | cons a t ih => have := ih (fun z hz => h z (by cases hz with | head => exact List.Mem.head _ | tail _ hz => exact List.Mem.tail _ (List.Mem.tail _ hz))) (fun z hz => h0 z (List.Mem.tail _ hz)); have := h0 a (List.Mem.head _); simp only [sumV]; omega
    have h2 := h x (List.Mem.head _)
    simp only [sumV]
    cases hy with
    | head => omega
    | tail _ hy => have := ih h0 hy; omega
end Go.Proofs.YtfameghednapkaaDoor.Ten
namespace Go.Proofs.YtfameghednapkaaDoor.Fixed
open Go.RowKit Go.Proofs.YtfameghednapkaaDoorW.PrintWords Go.Proofs.YtfameghednapkaaDoorW.PrintLast Go.Proofs.YtfameghednapkaaDoorW.PrintMore Go.Proofs.YtfameghednapkaaDoor.K
set_option linter.unusedVariables false
theorem product_calls (a b : Int) (w : World) (r : Int) (h1 : -4611686018427387904 ≤ a * b) (h2 : a * b ≤ 4611686018427387904) (hr : prodV a b = r) :
    Calls Tryd.prog 67 #[.int .i64 a, .int .i64 b] w fun e w' => e = .returned (.int .i64 r) ∧ w = w' := by
  unfold prodV at hr
  obtain ⟨p, hp⟩ : ∃ p, a * b = p := ⟨_, rfl⟩
  rw [hp] at h1 h2 hr
  subst hr
  have hw1 : IntKind.i64.wrap p = p := IntWalk.i64_in _ (by omega)
  go_enter Tryd.func67, Tryd.ntmps67
  go_wp2
  go_ret
  exact ⟨rfl, rfl⟩
end Go.Proofs.YtfameghednapkaaDoor.Fixed
namespace Go.Proofs.YtfameghednapkaaDoor.Fixed
open Go.RowKit Go.Proofs.YtfameghednapkaaDoorW.PrintWords Go.Proofs.YtfameghednapkaaDoorW.PrintLast Go.Proofs.YtfameghednapkaaDoorW.PrintMore Go.Proofs.YtfameghednapkaaDoor.K
set_option linter.unusedVariables false
def stepsL : List Int := [22, 1200, 8869, 24109, 39750, 51039, 57835, 61565, 63520, 64520, 65026, 65280, 65408, 65472, 65504, 65520, 65528, 65532, 65534, 65535]
def stepsA : Array Value := (nums .i64 stepsL).toArray
def expStep (m : Int) (k : Nat) (out : Int) : Int := if m / 2 ^ (19 - k) % 2 = 0 then out else prodV out (stepsL.getD k 0)
def expF (m : Int) : Nat → Int
  | 0 => 65536
  | k + 1 => expStep m k (expF m k)
def expV (n : Int) : Int := if n ≤ -1048576 then 0 else expF (-n) 20
theorem steps_bound (k : Nat) : 0 ≤ stepsL.getD k 0 ∧ stepsL.getD k 0 ≤ 65535 := by
  have h : ∀ x ∈ stepsL, 0 ≤ x ∧ x ≤ 65535 := by decide
  rcases Nat.lt_or_ge k stepsL.length with hk | hk
  · rw [List.getD_eq_getElem?_getD, List.getElem?_eq_getElem hk]
    exact h _ (List.getElem_mem hk)
  · rw [List.getD_eq_getElem?_getD, List.getElem?_eq_none hk]
    exact ⟨by decide, by decide⟩
theorem prod_small {a b : Int} (ha : 0 ≤ a ∧ a ≤ 65536) (hb : 0 ≤ b ∧ b ≤ 65535) : 0 ≤ a * b ∧ a * b ≤ 65536 * 65535 :=
  ⟨Int.mul_nonneg ha.1 hb.1, Int.mul_le_mul ha.2 hb.2 hb.1 (by decide)⟩
theorem expF_bound (m : Int) (k : Nat) : 0 ≤ expF m k ∧ expF m k ≤ 65536 := by
  induction k with
  | zero => exact ⟨by show (0 : Int) ≤ 65536; decide, by show (65536 : Int) ≤ 65536; decide⟩
  | succ k ih =>
    show 0 ≤ expStep m k (expF m k) ∧ expStep m k (expF m k) ≤ 65536
    unfold expStep
    split
    · exact ih
    · have := prod_small ih (steps_bound k)
      unfold prodV
      omega
theorem expV_bound (n : Int) : 0 ≤ expV n ∧ expV n ≤ 65536 := by
  unfold expV
  split
  · exact ⟨by decide, by decide⟩
  · exact expF_bound _ _
theorem and_one (x : Int) (h0 : 0 ≤ x) (h1 : x < 9223372036854775808) : Go.bits .and .i64 x 1 = x % 2 :=
  bits_mask .i64 63 (by decide) (fun n h0 h1 => IntWalk.i64_in _ (by omega)) 1 (by decide) x h0 h1
theorem shr_small (m : Int) (j : Nat) (h0 : 0 ≤ m) (h1 : m < 1048576) : 0 ≤ m / 2 ^ j ∧ m / 2 ^ j < 9223372036854775808 := by
  have hp : (0 : Int) < 2 ^ j := Int.pow_pos (by decide)
  have h2 := Int.ediv_nonneg h0 (Int.le_of_lt hp)
  have h3 := Int.ediv_le_self (2 ^ j) h0
  omega
theorem info_int : (Tryd.prog.info? 3).map (fun i => (i.zero, i.size, i.bytes)) = some (some (.int .i64 0), 1, 8) := by kernel_rfl
theorem steps_at (k : Nat) (hk : k < 20) (W : World) : (Instr.index 77 (.agg stepsA) (.int .i64 (k : Int))).run Tryd.prog W = .ok (.int .i64 (stepsL.getD k 0)) W :=
  run_index_int 77 3 20 stepsA .i64 .i64 k Tryd.underlying77 Tryd.underlying3 info_int hk _ (by
    have hl : k < stepsL.length := hk
    simp [stepsA, nums, List.getElem?_eq_getElem hl, List.getD_eq_getElem?_getD]) W
set_option maxHeartbeats 1000000 in
set_option maxRecDepth 100000 in
theorem Exp_calls (n : Int) (w : World) (hL : LaidAt w 0 stepsA) (hn : n ≤ 0) (h9 : -9223372036854775808 ≤ n) :
    Calls Tryd.prog 45 #[.int .i64 n] w fun e w' => e = .returned (.tuple #[.int .i64 (expV n), .int .i64 0]) ∧ w = w' := by
  obtain ⟨lt, lfr, hblk⟩ := hL
  have HBk := Aside0.mk hblk
  clear hblk
  by_cases hs : n ≤ -1048576
  · have HV := Aside0.mk (show expV n = 0 from if_pos hs)
    rw [HV.out]
    have hnD : decide (0 < n) = false := by simp; omega
    have hnD2 : decide (n ≤ -1048576) = true := by simp; omega
    go_enter Tryd.func45, Tryd.ntmps45
    go_wp2
    go_step3
    go_wp2
    rw [Exit.noGoto_ret]
    go_ret2
    exact ⟨rfl, rfl⟩
  · have HV := Aside0.mk (show expV n = expF (-n) 20 from if_neg hs)
    rw [HV.out]
    clear HV
    have hnD : decide (0 < n) = false := by simp; omega
    obtain ⟨m, hm⟩ : ∃ m, -n = m := ⟨_, rfl⟩
    rw [hm]
    have hnD2 : decide (n ≤ -1048576) = false := by simp; omega
    have hm0 : 0 ≤ m := by omega
    have hm1 : m < 1048576 := by omega
    have hi := steps_at
    go_enter Tryd.func45, Tryd.ntmps45
    go_wp2
    go_step3
    go_wp2
    go_step3
    go_wp2_with (with_reducible refine wpList_load_row rfl 77 (.global 0) rfl 0 rfl lt stepsA lfr _ HBk.out Tryd.underlying77 rfl (by kernel_rfl) ?_)
    go_loop [4, 14] (fun v4 v14 => ∃ k : Nat, k ≤ 20 ∧ v14 = .int .i64 k ∧ v4 = .int .i64 (expF m k)) (fun _ v14 => 20 - (intOf v14).toNat)
    case atStart => exact ⟨0, Nat.zero_le _, rfl, rfl⟩
    case round =>
      obtain ⟨k, hk, rfl, rfl⟩ := hrel
      clear hi
      by_cases hlt : k < 20
      · have HE := Aside0.mk (expF_bound m k)
        have HN := Aside0.mk (show expF m (k + 1) = expStep m k (expF m k) from rfl)
        have hi1 := steps_at k hlt
        have HSb := Aside0.mk (steps_bound k)
        obtain ⟨g1, g2⟩ := shr_small m (19 - k) hm0 hm1
        have hand := and_one _ g1 g2
        clear g1 g2
        by_cases hz : m / 2 ^ (19 - k) % 2 = 0
        · have HN2 := Aside0.mk (show expF m (k + 1) = expF m k by rw [HN.out, expStep, if_pos hz])
          have hb : (Go.bits .and .i64 (m / 2 ^ (19 - k)) 1 == 0) = true := by rw [hand, hz]; rfl
          clear hz hand HN
          generalize expF m k = out at *
          go_wp2
          go_round
          case measure => simp [intOf]; omega
          case rel => exact ⟨k + 1, by omega, by go_num, by rw [HN2.out]⟩
        · have HN2 := Aside0.mk (show expF m (k + 1) = prodV (expF m k) (stepsL.getD k 0) by rw [HN.out, expStep, if_neg hz])
          have hb : (Go.bits .and .i64 (m / 2 ^ (19 - k)) 1 == 0) = false := by rw [hand, beq_eq_false_iff_ne]; exact hz
          clear hz hand HN
          have HP := Aside0.mk (prod_small HE.out HSb.out)
          generalize expF m k = out at *
          generalize stepsL.getD k 0 = sk at *
          go_wp2_with (go_at_call 67; refine (product_calls out sk _ (prodV out sk) (by have := HP.out; omega) (by have := HP.out; omega) rfl).mono ?_; rintro e w' ⟨rfl, rfl⟩)
          go_round
          case measure => simp [intOf]; omega
          case rel => exact ⟨k + 1, by omega, by go_num, by rw [HN2.out]⟩
      · obtain rfl : k = 20 := by omega
        go_wp2
        go_ret2
        exact ⟨rfl, rfl⟩
theorem Exp_pos_calls (n : Int) (w : World) (hn : 0 < n) :
    Calls Tryd.prog 45 #[.int .i64 n] w fun e w' => e = .returned (.tuple #[.int .i64 0, .int .i64 10]) ∧ w = w' := by
  have hnD : decide (0 < n) = true := by simpa using hn
  go_enter Tryd.func45, Tryd.ntmps45
  go_wp2
  go_step3
  go_wp2
  rw [Exit.noGoto_ret]
  go_ret2
  exact ⟨rfl, rfl⟩
end Go.Proofs.YtfameghednapkaaDoor.Fixed
namespace Go.Proofs.YtfameghednapkaaDoor.RI
open Go.Proofs.YtfameghednapkaaDoorW.PrintWords Go.Proofs.YtfameghednapkaaDoorW.PrintLast Go.Proofs.YtfameghednapkaaDoor.K
set_option linter.unusedVariables false
section
variable {P : Program} {ops : Array Oper} {Q : Exit → Act → World → Prop}
/-- Each operation waits for earlier ones alone. -/
def backB (ops : Array Oper) : Bool := (List.range ops.size).all fun j => match ops[j]? with
  | some o => o.after.all fun e => !Region.binds .any e || decide (e.on < j)
  | none => true
theorem backB_spec (hb : backB ops = true) {j : Nat} {o : Oper} (ho : ops[j]? = some o) : ∀ e ∈ o.after, Region.binds .any e = true → e.on < j := by
  intro e he hbe
  have hlt : j < ops.size := (Array.getElem?_eq_some_iff.1 ho).1
  have h1 := List.all_eq_true.1 hb j (List.mem_range.2 hlt)
  simp only [ho] at h1
  have h2 := Array.all_eq_true_iff_forall_mem.1 h1 e he
  simpa [hbe] using h2
theorem ready_empty (hb : backB ops = true) {l : Array Bool} (hl : l.size = ops.size) (hr : Region.ready .any ops l = []) : ∀ j, j < ops.size → l.getD j false = true := by
  intro j
  induction j using Nat.strongRecOn with
  | ind j ih =>
    intro hj
    cases hc : l.getD j false with
    | true => rfl
    | false =>
      exfalso
      have ho : ops[j]? = some ops[j] := Array.getElem?_eq_getElem hj
      have h1 : l.getD j true = false := by
        simp only [Array.getD_eq_getD_getElem?, Array.getElem?_eq_getElem (show j < l.size by omega), Option.getD_some] at hc ⊢
        exact hc
      have hm : j ∈ Region.ready .any ops l := mem_ready.2 ⟨h1, _, ho, fun e he hbe => ih e.on (backB_spec hb ho e he hbe) (by have := backB_spec hb ho e he hbe; omega)⟩
      rw [hr] at hm
      cases hm
theorem wpAny_all (hb : backB ops = true) (I : Array Bool → Act → World → Prop)
    (step : ∀ (l : Array Bool) a w i o, l.size = ops.size → ListedClosed .any ops l → I l a w → ops[i]? = some o → l.getD i true = false → (∀ e ∈ o.after, Region.binds .any e = true → l.getD e.on false = true) →
      ∀ K : Act → World → Prop, (∀ a' w', I (l.setIfInBounds i true) a' w' → K a' w') → if Region.wanted o (yielded ops a.tmps) = true then (Oper.wp P o a w K Q ∨ (o.asks P a w ∧ LetsOut Q)) else K (a.put o.dst undef) w)
    (fin : ∀ l a w, I l a w → (∀ j, j < ops.size → l.getD j false = true) → Q .normal a w) :
    ∀ (fuel : Nat) (l : Array Bool) (a : Act) (w : World), l.size = ops.size → l.toList.count false ≤ fuel → ListedClosed .any ops l → I l a w → wpAny P .any ops Q fuel l a w := by
  intro fuel
  induction fuel with
  | zero =>
    intro l a w hs hc hcl hI
    have hr : Region.ready .any ops l = [] := by
      refine List.eq_nil_iff_forall_not_mem.2 fun j hj => ?_
      obtain ⟨h1, o, ho, _⟩ := mem_ready.1 hj
      have hlt : j < l.size := by rw [hs]; exact (Array.getElem?_eq_some_iff.1 ho).1
      have h2 : l[j] = false := by simpa [Array.getD_eq_getD_getElem?, Array.getElem?_eq_getElem hlt] using h1
      have h3 : false ∈ l.toList := by rw [← h2]; exact Array.mem_toList_iff.2 (Array.getElem_mem hlt)
      have h4 : 0 < l.toList.count false := List.count_pos_iff.2 h3
      omega
    exact ⟨hr, fin l a w hI (ready_empty hb hs hr)⟩
  | succ fuel ih =>
    intro l a w hs hc hcl hI
    refine ⟨fun hr => fin l a w hI (ready_empty hb hs hr), fun i hi => ?_⟩
    have hcl' := hcl.set hi
    obtain ⟨h1, o, ho, hd⟩ := mem_ready.1 hi
    have hlt : i < l.size := by rw [hs]; exact (Array.getElem?_eq_some_iff.1 ho).1
    have h2 : l.toList[i]'(by simpa using hlt) = false := by simpa [Array.getD_eq_getD_getElem?, Array.getElem?_eq_getElem hlt] using h1
    have hcnt : (l.setIfInBounds i true).toList.count false ≤ fuel := by
      have h3 : 0 < l.toList.count false := List.count_pos_iff.2 (by rw [← h2]; exact List.getElem_mem _)
      rw [Array.toList_setIfInBounds, List.count_set (h := by simpa using hlt), h2]
      show l.toList.count false - 1 + 0 ≤ fuel
      omega
    have := step l a w i o hs hcl hI ho h1 hd (wpAny P .any ops Q fuel (l.setIfInBounds i true)) (fun a' w' h => ih _ _ _ (by simpa using hs) hcnt hcl' h)
    unfold wpOp
    rw [ho]
    show if Region.wanted o (yielded ops a.tmps) = true then _ else _
    split
    · rename_i hw; rw [if_pos hw] at this; exact this
    · rename_i hw; rw [if_neg hw] at this; exact this
/-! ### The frame: the slots that a region writes are variables. -/
def fillL : List Value → List Bool → (Nat → Value) → Nat → List Value
  | [], _, _, _ => []
  | x :: xs, [], _, _ => x :: xs
  | _ :: xs, true :: bs, v, k => v k :: fillL xs bs v (k + 1)
  | x :: xs, false :: bs, v, k => x :: fillL xs bs v (k + 1)
def fillA (a0 : Act) (m : List Bool) (v : Nat → Value) : Act := { a0 with tmps := (fillL a0.tmps.toList m v 0).toArray }
def upv (v : Nat → Value) (d : Nat) (x : Value) : Nat → Value := fun k => if k = d then x else v k
theorem upv_same (v : Nat → Value) (d : Nat) (x : Value) : upv v d x d = x := if_pos rfl
theorem upv_ne {v : Nat → Value} {d k : Nat} {x : Value} (h : k ≠ d) : upv v d x k = v k := if_neg h
theorem fillL_congr {v v' : Nat → Value} : ∀ (xs : List Value) (m : List Bool) (k : Nat), (∀ j, k ≤ j → v j = v' j) → fillL xs m v k = fillL xs m v' k
  | [], _, _, _ => by simp only [fillL]
  | _ :: _, [], _, _ => by simp only [fillL]
  | x :: xs, true :: bs, k, h => by simp only [fillL]; rw [h k (Nat.le_refl _), fillL_congr xs bs (k + 1) (fun j hj => h j (by omega))]
  | x :: xs, false :: bs, k, h => by simp only [fillL]; rw [fillL_congr xs bs (k + 1) (fun j hj => h j (by omega))]
theorem fillL_set {v : Nat → Value} {x : Value} : ∀ (xs : List Value) (m : List Bool) (k d : Nat), m.getD d false = true → (fillL xs m v k).set d x = fillL xs m (upv v (k + d) x) k
  | [], _, _, _, _ => by simp only [fillL, List.set_nil]
  | _ :: _, [], _, _, h => by simp at h
  | y :: xs, true :: bs, k, 0, _ => by
    simp only [fillL, List.set_cons_zero, Nat.add_zero, upv_same]
    rw [fillL_congr xs bs (k + 1) (v' := upv v k x) (fun j hj => (upv_ne (by omega)).symm)]
  | y :: xs, false :: bs, k, 0, h => by simp at h
  | y :: xs, true :: bs, k, d + 1, h => by
    simp only [fillL, List.set_cons_succ]
    rw [fillL_set xs bs (k + 1) d (by simpa using h), show k + 1 + d = k + (d + 1) by omega, upv_ne (by omega)]
  | y :: xs, false :: bs, k, d + 1, h => by
    simp only [fillL, List.set_cons_succ]
    rw [fillL_set xs bs (k + 1) d (by simpa using h), show k + 1 + d = k + (d + 1) by omega]
theorem fill_put {a0 : Act} {m : List Bool} {v : Nat → Value} {d : Nat} {x : Value} (h : m.getD d false = true) : (fillA a0 m v).put (some d) x = fillA a0 m (upv v d x) := by
  have := fillL_set (v := v) (x := x) a0.tmps.toList m 0 d h
  rw [Nat.zero_add] at this
  simp only [fillA, Act.put, List.setIfInBounds_toArray, this]
theorem fillL_start : ∀ (xs ys : List Value) (m : List Bool) (k : Nat), (∀ j, xs[j]? = ys[k + j]?) → fillL xs m (fun j => (ys[j]?).getD undef) k = xs
  | [], _, _, _, _ => by simp only [fillL]
  | _ :: _, _, [], _, _ => by simp only [fillL]
  | x :: xs, ys, true :: bs, k, h => by
    have h0 := h 0
    simp only [List.getElem?_cons_zero, Nat.add_zero] at h0
    simp only [fillL, ← h0, Option.getD_some]
    rw [fillL_start xs ys bs (k + 1) (fun j => by have := h (j + 1); simpa [Nat.add_assoc, Nat.add_comm 1 j] using this)]
  | x :: xs, ys, false :: bs, k, h => by
    simp only [fillL]
    rw [fillL_start xs ys bs (k + 1) (fun j => by have := h (j + 1); simpa [Nat.add_assoc, Nat.add_comm 1 j] using this)]
theorem fill_start (a0 : Act) (m : List Bool) : fillA a0 m (fun j => (a0.tmps.toList[j]?).getD undef) = a0 := by
  simp only [fillA, fillL_start a0.tmps.toList a0.tmps.toList m 0 (fun j => by simp)]
/-! ### The steps. -/
def AllOps (p : Nat → Oper → Prop) : List Oper → Nat → Prop
  | [], _ => True
  | o :: os, k => p k o ∧ AllOps p os (k + 1)
theorem AllOps.get {p : Nat → Oper → Prop} : ∀ {os : List Oper} {k : Nat}, AllOps p os k → ∀ {i : Nat} {o : Oper}, os[i]? = some o → p (k + i) o
  | [], _, _, _, _, h => by simp at h
  | x :: os, k, h, 0, o, hi => by
    obtain rfl : x = o := by simpa using hi
    exact h.1
  | x :: os, k, h, i + 1, o, hi => by
    have := AllOps.get h.2 (i := i) (o := o) (by simpa using hi)
    rwa [show k + 1 + i = k + (i + 1) by omega] at this
def StepOk (P : Program) (ops : Array Oper) (Q : Exit → Act → World → Prop) (o : Oper) (a : Act) (W : World) (G : Value → World → Prop) : Prop :=
  ∀ K : Act → World → Prop, (∀ x W', G x W' → K (a.put o.dst x) W') → if Region.wanted o (yielded ops a.tmps) = true then (Oper.wp P o a W K Q ∨ (o.asks P a W ∧ LetsOut Q)) else K (a.put o.dst undef) W
theorem StepOk.mono {o : Oper} {a : Act} {W : World} {G G' : Value → World → Prop} (h : StepOk P ops Q o a W G) (hg : ∀ x W', G x W' → G' x W') : StepOk P ops Q o a W G' := fun K hK => h K (fun x W' hx => hK x W' (hg x W' hx))
theorem wanted_none {o : Oper} (hg : o.guard = none) (y : Nat → Option Bool) : Region.wanted o y = true := by simp [Region.wanted, hg]
theorem step_value {o : Oper} {a : Act} {W W' : World} {x : Value} {G : Value → World → Prop} (hw : Region.wanted o (yielded ops a.tmps) = true) (hrun : (execOp a.eval o).run P W = .ok (.value x) W') (h : G x W') : StepOk P ops Q o a W G := fun K hK => by
  rw [if_pos hw]
  refine .inl ?_
  unfold Oper.wp
  rw [hrun]
  exact hK x W' h
theorem step_skip {o : Oper} {a : Act} {W W' : World} {G : Value → World → Prop} (hw : Region.wanted o (yielded ops a.tmps) = true) (hrun : (execOp a.eval o).run P W = .ok .skip W') (h : G undef W') : StepOk P ops Q o a W G := fun K hK => by
  rw [if_pos hw]
  refine .inl ?_
  unfold Oper.wp
  rw [hrun]
  exact hK undef W' h
theorem step_off {o : Oper} {a : Act} {W : World} {G : Value → World → Prop} (hw : Region.wanted o (yielded ops a.tmps) = false) (h : G undef W) : StepOk P ops Q o a W G := fun K hK => by
  rw [if_neg (by rw [hw]; simp)]
  exact hK undef W h
/-- One operation, as a walk of its own. -/
theorem step_list {o : Oper} {a : Act} {W : World} {G : Value → World → Prop} (h : ∀ K : Act → World → Prop, (∀ x W', G x W' → K (a.put o.dst x) W') → wpList P ops (Exit.then K Q) [o] a W) : StepOk P ops Q o a W G := fun K hK => by
  have h1 := h K hK
  unfold wpList at h1
  split at h1
  · rename_i hw
    rw [if_pos hw]
    refine h1.imp (fun h2 => ?_) (fun h2 => ⟨h2.1, h2.2⟩)
    unfold Oper.wp at *
    generalize (execOp a.eval o).run P W = r at *
    cases r with
    | ok n w' =>
      cases n <;> simp only [Oper.upon] at h2 ⊢ <;>
        first
          | exact h2
          | exact Calls.mono h2 (fun e w'' he => by cases e <;> exact he)
          | exact Rows.mono h2 (fun _ _ he => he)
    | halt x w' => cases x <;> simp only [Oper.upon] at h2 ⊢ <;> exact h2
  · rename_i hw
    rw [if_neg hw]
    exact h1
theorem fill_lit (xs : List Value) (ds : List Deferred) (m : List Bool) (v : Nat → Value) : fillA ⟨xs.toArray, ds⟩ m v = ⟨(fillL xs m v 0).toArray, ds⟩ := by simp only [fillA]
def dstOf (ops : Array Oper) (j : Nat) : Option Nat := (ops[j]?).bind (·.dst)
def valOf (ops : Array Oper) (v : Nat → Value) (j : Nat) : Value := match dstOf ops j with
  | some d => v d
  | none => undef
/-- The region's form: edges go back; its slots are the mask's, each written once; the last operation waits for all others. -/
def regB (ops : Array Oper) (m : List Bool) (z : Nat) : Bool :=
  backB ops && (List.range ops.size).all (fun j => (match dstOf ops j with | some d => m.getD d false | none => true) && (List.range j).all fun i => match dstOf ops i, dstOf ops j with | some d, some e => d != e | _, _ => true)
    && (List.range ops.size).all (fun j => j == z || Region.reachB .any ops j ops.size z) && (z < ops.size)
theorem regB_back {m : List Bool} {z : Nat} (h : regB ops m z = true) : backB ops = true := by
  simp only [regB, Bool.and_eq_true] at h
  exact h.1.1.1
theorem regB_in {m : List Bool} {z : Nat} (h : regB ops m z = true) {j d : Nat} (hj : dstOf ops j = some d) : m.getD d false = true := by
  simp only [regB, Bool.and_eq_true] at h
  have hlt : j < ops.size := by
    rcases Nat.lt_or_ge j ops.size with h' | h'
    · exact h'
    · simp [dstOf, Array.getElem?_eq_none h'] at hj
  have := List.all_eq_true.1 h.1.1.2 j (List.mem_range.2 hlt)
  simp only [hj, Bool.and_eq_true] at this
  exact this.1
theorem regB_ne {m : List Bool} {z : Nat} (h : regB ops m z = true) {i j d e : Nat} (hi : dstOf ops i = some d) (hj : dstOf ops j = some e) (hne : i ≠ j) : d ≠ e := by
  simp only [regB, Bool.and_eq_true] at h
  have lt : ∀ {i d}, dstOf ops i = some d → i < ops.size := fun {i d} hi => by
    rcases Nat.lt_or_ge i ops.size with h' | h'
    · exact h'
    · simp [dstOf, Array.getElem?_eq_none h'] at hi
  have go : ∀ {i j d e : Nat}, dstOf ops i = some d → dstOf ops j = some e → i < j → d ≠ e := fun {i j d e} hi hj hlt => by
    have h1 := List.all_eq_true.1 h.1.1.2 j (List.mem_range.2 (lt hj))
    simp only [Bool.and_eq_true] at h1
    have h2 := List.all_eq_true.1 h1.2 i (List.mem_range.2 hlt)
    simp only [hi, hj] at h2
    simpa using h2
  rcases Nat.lt_or_ge i j with h' | h'
  · exact go hi hj h'
  · exact (go hj hi (by omega)).symm
theorem regB_last {m : List Bool} {z : Nat} (h : regB ops m z = true) {j : Nat} (hj : j < ops.size) (hne : j ≠ z) : Region.reachB .any ops j ops.size z = true := by
  simp only [regB, Bool.and_eq_true] at h
  have := List.all_eq_true.1 h.1.2 j (List.mem_range.2 hj)
  simpa [hne] using this
theorem valOf_up {m : List Bool} {z : Nat} (h : regB ops m z = true) {v : Nat → Value} {i j d : Nat} {x : Value} (hi : dstOf ops i = some d) (hne : j ≠ i) : valOf ops (upv v d x) j = valOf ops v j := by
  unfold valOf
  cases hj : dstOf ops j with
  | none => rfl
  | some e => exact upv_ne (regB_ne h hj hi hne)
/-- A region that draws, with a last operation: each operation from what it waits for. -/
theorem wp_region_mono {id : Nat} {a0 : Act} {w : World} (z : Nat) (m : List Bool) (hm : P.follows .mixedOrders = true) (hr : regB ops m z = true) (B : World → Prop) (M : World → World → Prop) (F : Nat → Value → World → Prop)
    (hM : ∀ i x W W', B W → M W W' → F i x W → F i x W') (hB : B w.drew)
    (step : AllOps (fun i o => ∀ v W, B W → (∀ j, Region.reachB .any ops j ops.size i = true → F j (valOf ops v j) W) →
      StepOk P ops Q o (fillA a0 m v) W (fun x W' => if i = z then Q .normal ((fillA a0 m v).put o.dst x) W' else B W' ∧ M W W' ∧ F i (match o.dst with | some _ => x | none => undef) W')) ops.toList 0) :
    (Code.region id ops true).wp P Q a0 w := by
  refine wp_region_any hm ?_
  refine wpAny_all (regB_back hr) (fun l a W => if l.getD z false = true then Q .normal a W else ∃ v, a = fillA a0 m v ∧ B W ∧ ∀ j, l.getD j false = true → F j (valOf ops v j) W) ?_ ?_ ops.size _ _ _ (by simp) ?_ ?_ ?_
  · intro l a W i o hs hcl hI ho hun hd K hK
    have hlt : i < ops.size := (Array.getElem?_eq_some_iff.1 ho).1
    have hzf : l.getD z false = false := by
      cases hz : l.getD z false with
      | false => rfl
      | true =>
        have hi : l.getD i false = true := by
          by_cases h : i = z
          · rw [h]; exact hz
          · exact Region.reach_listed hcl _ _ (regB_last hr hlt h) hz
        have h1 : l.getD i false = l.getD i true := by
          simp only [Array.getD_eq_getD_getElem?, Array.getElem?_eq_getElem (show i < l.size by omega), Option.getD_some]
        rw [h1, hun] at hi
        cases hi
    rw [if_neg (by rw [hzf]; simp)] at hI
    obtain ⟨v, rfl, hBW, hF⟩ := hI
    have hst := AllOps.get step (i := i) (o := o) (by simpa using ho) v W hBW (fun j hj => hF j (by
      rw [Nat.zero_add] at hj
      have hdone : ListedClosed .any ops (l.setIfInBounds i true) := hcl.set (mem_ready.2 ⟨hun, o, ho, hd⟩)
      have h1 := Region.reach_listed hdone _ _ hj (by
        simp only [Array.getD_eq_getD_getElem?, Array.getElem?_setIfInBounds_self_of_lt (show i < l.size by omega), Option.getD_some])
      by_cases h : j = i
      · subst h
        exfalso
        have back : ∀ (fuel d : Nat), Region.reachB .any ops j fuel d = true → j < d := by
          intro fuel
          induction fuel with
          | zero => intro d h; simp [Region.reachB] at h
          | succ fuel ih =>
            intro d h
            unfold Region.reachB at h
            cases hod : ops[d]? with
            | none => rw [hod] at h; simp at h
            | some od =>
              rw [hod] at h
              obtain ⟨e, he, h1⟩ := Array.any_eq_true'.1 h
              simp only [Bool.and_eq_true, Bool.or_eq_true, beq_iff_eq] at h1
              have h2 := backB_spec (regB_back hr) hod e he h1.1
              rcases h1.2 with h3 | h3
              · omega
              · have := ih _ h3; omega
        have := back _ _ hj
        omega
      · rwa [getD_set_ne false (Ne.symm h)] at h1))
    rw [Nat.zero_add] at hst
    refine hst K fun x W' hg => hK _ _ ?_
    dsimp only at hg
    by_cases hiz : i = z
    · subst hiz
      rw [if_pos (by simp only [Array.getD_eq_getD_getElem?, Array.getElem?_setIfInBounds_self_of_lt (show i < l.size by omega), Option.getD_some])]
      rwa [if_pos rfl] at hg
    · rw [if_neg (by rw [getD_set_ne false hiz, hzf]; simp)]
      rw [if_neg hiz] at hg
      obtain ⟨hB', hMW, hFx⟩ := hg
      cases hdst : o.dst with
      | none =>
        refine ⟨v, rfl, hB', fun j hj => ?_⟩
        by_cases h : j = i
        · subst h
          have hv : valOf ops v j = undef := by simp [valOf, dstOf, ho, hdst]
          rw [hv]
          rw [hdst] at hFx
          exact hFx
        · rw [getD_set_ne false (Ne.symm h)] at hj
          exact hM j _ W W' hBW hMW (hF j hj)
      | some d =>
        have hdo : dstOf ops i = some d := by simp [dstOf, ho, hdst]
        refine ⟨upv v d x, fill_put (regB_in hr hdo), hB', fun j hj => ?_⟩
        by_cases h : j = i
        · subst h
          have hv : valOf ops (upv v d x) j = x := by simp only [valOf, hdo, upv_same]
          rw [hv]
          rw [hdst] at hFx
          exact hFx
        · rw [getD_set_ne false (Ne.symm h)] at hj
          rw [valOf_up hr hdo h]
          exact hM j _ W W' hBW hMW (hF j hj)
  · intro l a W hI hall
    have hz : z < ops.size := by
      simp only [regB, Bool.and_eq_true, decide_eq_true_eq] at hr
      exact hr.2
    rwa [if_pos (hall z hz)] at hI
  · simp
  · intro j oj _ hl
    rw [getD_replicate_false] at hl
    cases hl
  · rw [if_neg (by rw [getD_replicate_false]; simp)]
    exact ⟨_, (fill_start a0 m).symm, hB, fun j hj => by rw [getD_replicate_false] at hj; cases hj⟩
/-- The form of a region without a last operation. -/
def regB0 (ops : Array Oper) (m : List Bool) : Bool :=
  backB ops && (List.range ops.size).all (fun j => (match dstOf ops j with | some d => m.getD d false | none => true) && (List.range j).all fun i => match dstOf ops i, dstOf ops j with | some d, some e => d != e | _, _ => true)
theorem regB0_back {m : List Bool} (h : regB0 ops m = true) : backB ops = true := by
  simp only [regB0, Bool.and_eq_true] at h
  exact h.1
theorem regB0_in {m : List Bool} (h : regB0 ops m = true) {j d : Nat} (hj : dstOf ops j = some d) : m.getD d false = true := by
  simp only [regB0, Bool.and_eq_true] at h
  have hlt : j < ops.size := by
    rcases Nat.lt_or_ge j ops.size with h' | h'
    · exact h'
    · simp [dstOf, Array.getElem?_eq_none h'] at hj
  have := List.all_eq_true.1 h.2 j (List.mem_range.2 hlt)
  simp only [hj, Bool.and_eq_true] at this
  exact this.1
theorem regB0_ne {m : List Bool} (h : regB0 ops m = true) {i j d e : Nat} (hi : dstOf ops i = some d) (hj : dstOf ops j = some e) (hne : i ≠ j) : d ≠ e := by
  simp only [regB0, Bool.and_eq_true] at h
  have lt : ∀ {i d}, dstOf ops i = some d → i < ops.size := fun {i d} hi => by
    rcases Nat.lt_or_ge i ops.size with h' | h'
    · exact h'
    · simp [dstOf, Array.getElem?_eq_none h'] at hi
  have go : ∀ {i j d e : Nat}, dstOf ops i = some d → dstOf ops j = some e → i < j → d ≠ e := fun {i j d e} hi hj hlt => by
    have h1 := List.all_eq_true.1 h.2 j (List.mem_range.2 (lt hj))
    simp only [Bool.and_eq_true] at h1
    have h2 := List.all_eq_true.1 h1.2 i (List.mem_range.2 hlt)
    simp only [hi, hj] at h2
    simpa using h2
  rcases Nat.lt_or_ge i j with h' | h'
  · exact go hi hj h'
  · exact (go hj hi (by omega)).symm
theorem valOf_up0 {m : List Bool} (h : regB0 ops m = true) {v : Nat → Value} {i j d : Nat} {x : Value} (hi : dstOf ops i = some d) (hne : j ≠ i) : valOf ops (upv v d x) j = valOf ops v j := by
  unfold valOf
  cases hj : dstOf ops j with
  | none => rfl
  | some e => exact upv_ne (regB0_ne h hj hi hne)
/-- A region that draws, whatever comes last. -/
theorem wp_region_fin {id : Nat} {a0 : Act} {w : World} (m : List Bool) (hm : P.follows .mixedOrders = true) (hr : regB0 ops m = true) (B : World → Prop) (M : World → World → Prop) (F : Nat → Value → World → Prop)
    (hM : ∀ i x W W', B W → M W W' → F i x W → F i x W') (hB : B w.drew)
    (step : AllOps (fun i o => ∀ v W, B W → (∀ j, Region.reachB .any ops j ops.size i = true → F j (valOf ops v j) W) →
      StepOk P ops Q o (fillA a0 m v) W (fun x W' => B W' ∧ M W W' ∧ F i (match o.dst with | some _ => x | none => undef) W')) ops.toList 0)
    (fin : ∀ v W, B W → (∀ j, j < ops.size → F j (valOf ops v j) W) → Q .normal (fillA a0 m v) W) :
    (Code.region id ops true).wp P Q a0 w := by
  refine wp_region_any hm ?_
  refine wpAny_all (regB0_back hr) (fun l a W => ∃ v, a = fillA a0 m v ∧ B W ∧ ∀ j, l.getD j false = true → F j (valOf ops v j) W) ?_ ?_ ops.size _ _ _ (by simp) ?_ ?_ ?_
  · intro l a W i o hs hcl hI ho hun hd K hK
    have hlt : i < ops.size := (Array.getElem?_eq_some_iff.1 ho).1
    obtain ⟨v, rfl, hBW, hF⟩ := hI
    have hst := AllOps.get step (i := i) (o := o) (by simpa using ho) v W hBW (fun j hj => hF j (by
      rw [Nat.zero_add] at hj
      have hdone : ListedClosed .any ops (l.setIfInBounds i true) := hcl.set (mem_ready.2 ⟨hun, o, ho, hd⟩)
      have h1 := Region.reach_listed hdone _ _ hj (by
        simp only [Array.getD_eq_getD_getElem?, Array.getElem?_setIfInBounds_self_of_lt (show i < l.size by omega), Option.getD_some])
      by_cases h : j = i
      · subst h
        exfalso
        have back : ∀ (fuel d : Nat), Region.reachB .any ops j fuel d = true → j < d := by
          intro fuel
          induction fuel with
          | zero => intro d h; simp [Region.reachB] at h
          | succ fuel ih =>
            intro d h
            unfold Region.reachB at h
            cases hod : ops[d]? with
            | none => rw [hod] at h; simp at h
            | some od =>
              rw [hod] at h
              obtain ⟨e, he, h1⟩ := Array.any_eq_true'.1 h
              simp only [Bool.and_eq_true, Bool.or_eq_true, beq_iff_eq] at h1
              have h2 := backB_spec (regB0_back hr) hod e he h1.1
              rcases h1.2 with h3 | h3
              · omega
              · have := ih _ h3; omega
        have := back _ _ hj
        omega
      · rwa [getD_set_ne false (Ne.symm h)] at h1))
    rw [Nat.zero_add] at hst
    refine hst K fun x W' hg => hK _ _ ?_
    dsimp only at hg
    obtain ⟨hB', hMW, hFx⟩ := hg
    cases hdst : o.dst with
    | none =>
      refine ⟨v, rfl, hB', fun j hj => ?_⟩
      by_cases h : j = i
      · subst h
        have hv : valOf ops v j = undef := by simp [valOf, dstOf, ho, hdst]
        rw [hv]
        rw [hdst] at hFx
        exact hFx
      · rw [getD_set_ne false (Ne.symm h)] at hj
        exact hM j _ W W' hBW hMW (hF j hj)
    | some d =>
      have hdo : dstOf ops i = some d := by simp [dstOf, ho, hdst]
      refine ⟨upv v d x, fill_put (regB0_in hr hdo), hB', fun j hj => ?_⟩
      by_cases h : j = i
      · subst h
        have hv : valOf ops (upv v d x) j = x := by simp only [valOf, hdo, upv_same]
        rw [hv]
        rw [hdst] at hFx
        exact hFx
      · rw [getD_set_ne false (Ne.symm h)] at hj
        rw [valOf_up0 hr hdo h]
        exact hM j _ W W' hBW hMW (hF j hj)
  · intro l a W hI hall
    obtain ⟨v, rfl, hBW, hF⟩ := hI
    exact fin v W hBW (fun j hj => hF j (hall j hj))
  · simp
  · intro j oj _ hl
    rw [getD_replicate_false] at hl
    cases hl
  · exact ⟨_, (fill_start a0 m).symm, hB, fun j hj => by rw [getD_replicate_false] at hj; cases hj⟩
/-- A composite value, by its own run. -/
theorem wpList_build {rest : List Oper} {o : Oper} {a : Act} {w : World} (hg : o.guard = none) (t : TypeId) (ps : Array (Nat × Operand)) (ho : o.op = .build t ps) (vs : Array (Nat × Value)) (hv : (ps.map fun (i, x) => (i, a.eval x)) = vs) (x : Value)
    (hrun : (Instr.build t vs).run P w = .ok x w) (h : wpList P ops Q rest (a.put o.dst x) w) : wpList P ops Q (o :: rest) a w :=
  wpList_plain hg fun K hK => by
    have h1 : (execOp a.eval o).run P w = .ok (.value x) w := by
      unfold execOp
      simp only [ho, hv, Sem.run_bind, Sem.run_pure, Result.andThen_ok, hrun]
    unfold Oper.wp
    rw [h1]
    exact hK _ _ h
end
end Go.Proofs.YtfameghednapkaaDoor.RI
namespace Go.Proofs.YtfameghednapkaaDoor.RI
open Go.Proofs.YtfameghednapkaaDoorW.PrintWords Go.Proofs.YtfameghednapkaaDoorW.PrintLast Go.Proofs.YtfameghednapkaaDoor.K
set_option linter.unusedVariables false
section
variable {P : Program} {ops : Array Oper} {Q : Exit → Act → World → Prop}
/-- A region that draws; what holds of the world may hang on what has come up. -/
theorem wp_region_gen {id : Nat} {a0 : Act} {w : World} (m : List Bool) (hm : P.follows .mixedOrders = true) (hr : regB0 ops m = true) (B : (Nat → Bool) → World → Prop) (M : World → World → Prop) (F : Nat → Value → World → Prop)
    (hM : ∀ i x W W', M W W' → F i x W → F i x W') (hB : B (fun _ => false) w.drew)
    (step : AllOps (fun i o => ∀ ℓ v W, B ℓ W → ℓ i = false → (∀ j, Region.reachB .any ops j ops.size i = true → ℓ j = true ∧ F j (valOf ops v j) W) → (∀ j, Region.reachB .any ops i ops.size j = true → ℓ j = false) →
      StepOk P ops Q o (fillA a0 m v) W (fun x W' => B (fun j => j == i || ℓ j) W' ∧ M W W' ∧ F i (match o.dst with | some _ => x | none => undef) W')) ops.toList 0)
    (fin : ∀ ℓ v W, B ℓ W → (∀ j, j < ops.size → ℓ j = true) → (∀ j, j < ops.size → F j (valOf ops v j) W) → Q .normal (fillA a0 m v) W) :
    (Code.region id ops true).wp P Q a0 w := by
  refine wp_region_any hm ?_
  refine wpAny_all (regB0_back hr) (fun l a W => ∃ v, a = fillA a0 m v ∧ B (fun j => l.getD j false) W ∧ ∀ j, l.getD j false = true → F j (valOf ops v j) W) ?_ ?_ ops.size _ _ _ (by simp) ?_ ?_ ?_
  · intro l a W i o hs hcl hI ho hun hd K hK
    have hlt : i < ops.size := (Array.getElem?_eq_some_iff.1 ho).1
    obtain ⟨v, rfl, hBW, hF⟩ := hI
    have hif : l.getD i false = false := by
      simp only [Array.getD_eq_getD_getElem?, Array.getElem?_eq_getElem (show i < l.size by omega), Option.getD_some] at hun ⊢
      exact hun
    have hst := AllOps.get step (i := i) (o := o) (by simpa using ho) (fun j => l.getD j false) v W hBW (by rw [Nat.zero_add]; exact hif) (fun j hj => (fun hl => ⟨hl, hF j hl⟩) (by
      rw [Nat.zero_add] at hj
      have hdone : ListedClosed .any ops (l.setIfInBounds i true) := hcl.set (mem_ready.2 ⟨hun, o, ho, hd⟩)
      have h1 := Region.reach_listed hdone _ _ hj (by
        simp only [Array.getD_eq_getD_getElem?, Array.getElem?_setIfInBounds_self_of_lt (show i < l.size by omega), Option.getD_some])
      by_cases h : j = i
      · subst h
        exfalso
        have back : ∀ (fuel d : Nat), Region.reachB .any ops j fuel d = true → j < d := by
          intro fuel
          induction fuel with
          | zero => intro d h; simp [Region.reachB] at h
          | succ fuel ih =>
            intro d h
            unfold Region.reachB at h
            cases hod : ops[d]? with
            | none => rw [hod] at h; simp at h
            | some od =>
              rw [hod] at h
              obtain ⟨e, he, h1⟩ := Array.any_eq_true'.1 h
              simp only [Bool.and_eq_true, Bool.or_eq_true, beq_iff_eq] at h1
              have h2 := backB_spec (regB0_back hr) hod e he h1.1
              rcases h1.2 with h3 | h3
              · omega
              · have := ih _ h3; omega
        have := back _ _ hj
        omega
      · rwa [getD_set_ne false (Ne.symm h)] at h1)) (fun j hj => by
        rw [Nat.zero_add] at hj
        cases hl : l.getD j false with
        | false => rfl
        | true => have := Region.reach_listed hcl _ _ hj hl; rw [hif] at this; cases this)
    rw [Nat.zero_add] at hst
    have hset : (fun j => (l.setIfInBounds i true).getD j false) = (fun j => j == i || l.getD j false) := by
      funext j
      by_cases h : j = i
      · subst h
        simp only [Array.getD_eq_getD_getElem?, Array.getElem?_setIfInBounds_self_of_lt (show j < l.size by omega), Option.getD_some, beq_self_eq_true, Bool.true_or]
      · rw [getD_set_ne false (Ne.symm h)]
        simp [h]
    refine hst K fun x W' hg => hK _ _ ?_
    dsimp only at hg
    obtain ⟨hB', hMW, hFx⟩ := hg
    cases hdst : o.dst with
    | none =>
      refine ⟨v, rfl, by rw [hset]; exact hB', fun j hj => ?_⟩
      by_cases h : j = i
      · subst h
        have hv : valOf ops v j = undef := by simp [valOf, dstOf, ho, hdst]
        rw [hv]
        rw [hdst] at hFx
        exact hFx
      · rw [getD_set_ne false (Ne.symm h)] at hj
        exact hM j _ W W' hMW (hF j hj)
    | some d =>
      have hdo : dstOf ops i = some d := by simp [dstOf, ho, hdst]
      refine ⟨upv v d x, fill_put (regB0_in hr hdo), by rw [hset]; exact hB', fun j hj => ?_⟩
      by_cases h : j = i
      · subst h
        have hv : valOf ops (upv v d x) j = x := by simp only [valOf, hdo, upv_same]
        rw [hv]
        rw [hdst] at hFx
        exact hFx
      · rw [getD_set_ne false (Ne.symm h)] at hj
        rw [valOf_up0 hr hdo h]
        exact hM j _ W W' hMW (hF j hj)
  · intro l a W hI hall
    obtain ⟨v, rfl, hBW, hF⟩ := hI
    exact fin _ v W hBW hall (fun j hj => hF j (hall j hj))
  · simp
  · intro j oj _ hl
    rw [getD_replicate_false] at hl
    cases hl
  · refine ⟨_, (fill_start a0 m).symm, ?_, fun j hj => by rw [getD_replicate_false] at hj; cases hj⟩
    have : (fun j => (Array.replicate ops.size false).getD j false) = fun _ => false := funext fun j => getD_replicate_false _ _
    rw [this]
    exact hB
end
def TwoB (w1 w2 w3 : World) : Bool → Bool → World → Prop
  | _, true, W => Drawn0 w3 W
  | true, false, W => Drawn0 w2 W
  | false, false, W => Drawn0 w1 W
/-- Two stores, s and t: what the world is ahead of both, between, and behind. -/
def Two (w1 w2 w3 : World) (s t : Nat) (ℓ : Nat → Bool) (W : World) : Prop := TwoB w1 w2 w3 (ℓ s) (ℓ t) W
section
variable {w1 w2 w3 W W' : World} {s t i : Nat} {ℓ : Nat → Bool}
theorem Two.keep (h : Two w1 w2 w3 s t ℓ W) (h1 : i ≠ s) (h2 : i ≠ t) : Two w1 w2 w3 s t (fun j => j == i || ℓ j) W := by
  have e1 : (s == i || ℓ s) = ℓ s := by simp [Ne.symm h1]
  have e2 : (t == i || ℓ t) = ℓ t := by simp [Ne.symm h2]
  show TwoB w1 w2 w3 (s == i || ℓ s) (t == i || ℓ t) W
  rw [e1, e2]
  exact h
theorem Two.none_ (h : Two w1 w2 w3 s t ℓ W) (hs : ℓ s = false) (ht : ℓ t = false) : Drawn0 w1 W := by
  unfold Two at h
  rwa [hs, ht] at h
theorem Two.one_ (h : Two w1 w2 w3 s t ℓ W) (hs : ℓ s = true) (ht : ℓ t = false) : Drawn0 w2 W := by
  unfold Two at h
  rwa [hs, ht] at h
theorem Two.done_ (h : Two w1 w2 w3 s t ℓ W) (ht : ℓ t = true) : Drawn0 w3 W := by
  unfold Two at h
  rw [ht] at h
  cases ℓ s <;> exact h
theorem Two.mk2 (h : Drawn0 w2 W) (ht : ℓ t = false) (hst : s ≠ t) : Two w1 w2 w3 s t (fun j => j == s || ℓ j) W := by
  show TwoB w1 w2 w3 (s == s || ℓ s) (t == s || ℓ t) W
  rw [show (t == s || ℓ t) = false by simp [Ne.symm hst, ht], show (s == s || ℓ s) = true by simp]
  exact h
theorem Two.mk3 (h : Drawn0 w3 W) : Two w1 w2 w3 s t (fun j => j == t || ℓ j) W := by
  show TwoB w1 w2 w3 (s == t || ℓ s) (t == t || ℓ t) W
  rw [show (t == t || ℓ t) = true by simp]
  cases (s == t || ℓ s) <;> exact h
theorem Two.start (h : Drawn0 w1 W) : Two w1 w2 w3 s t (fun _ => false) W := h
theorem drawn_set (w : World) (n : Nat) (a : Addr) (x : Value) : Drawn0 (w.setCell a x) ((w.drewN n).setCell a x) := ⟨⟨n, rfl⟩⟩
end
end Go.Proofs.YtfameghednapkaaDoor.RI
