/- Texts put together: K, RegInv, RegGen, Sort1, Sort2, CloneI, FixedC. -/
import Derived.Test.YtdmeocoehahopaaDoorWMore
import Derived.Test.YtdmeocoehahopaaDoorProg
import Derived.WalkKit
import Derived.WalkSpells
import Derived.LoopN
import Derived.WalkMore
import Derived.ScopeJumps
import Derived.Laws.Rows
import Derived.Lib.SlBytesConst
import Derived.StillTail
import Derived.StillTailTactics
import Derived.Deep.DeepCutAuto
import Derived.Deep.CutRange
set_option linter.unusedVariables false
set_option linter.unusedSimpArgs false
namespace Go.Proofs.YtdmeocoehahopaaDoor.K
open Go.RowKit Go.Proofs.YtdmeocoehahopaaDoorW.PrintWords Go.Proofs.YtdmeocoehahopaaDoorW.PrintLast Go.Proofs.YtdmeocoehahopaaDoorW.PrintMore

theorem own_int {k : IntKind} {e : Nat} {w : World} {B : Nat} {ok : Nat → Prop} {v : Value} {xs : List Int} (h : Kd.R (Kd.int k) e w B ok v xs) : w.ownsRow B e 1 v xs.length (nums k xs) := Kd.own_of_R h
theorem R_int {k : IntKind} {e : Nat} {w : World} {B : Nat} {v : Value} {xs : List Int} (h : w.ownsRow B e 1 v xs.length (nums k xs)) : Kd.R (Kd.int k) e w B (fun _ => True) v xs := Kd.R_of_own h (fun _ _ => trivial)
theorem reads_int {k : IntKind} {w : World} {A : Option Addr} {n : Nat} {xs : List Int} (h : Kd.C (Kd.int k) w A n xs) : ReadsInt w k A n xs := Kd.reads_of_C (d := (0 : Int)) h
theorem C_int {k : IntKind} {w : World} {A : Option Addr} {n : Nat} {xs : List Int} (h : ReadsInt w k A n xs) : Kd.C (Kd.int k) w A n xs := Kd.C_of_reads (d := (0 : Int)) h
theorem own_C {k : IntKind} {e : Nat} {w : World} {B n c : Nat} {A : Option Addr} {xs : List Int} (h : w.ownsRow B e 1 (.slice A n c) xs.length (nums k xs)) : Kd.C (Kd.int k) w A xs.length xs := (Kd.R_reads' (R_int h)).2.2
theorem C_len {α : Type} {d : Kd α} {w : World} {A : Option Addr} {n : Nat} {xs : List α} (h : Kd.C d w A n xs) : xs.length = n := h.1

/-- An element of a row of rows: the slice that lies there. -/
theorem row_at {α : Type} {d : Kd α} {e : Nat} {w : World} {A : Option Addr} {n : Nat} {xs : List (List α)} (h : Kd.C (Kd.slice e d) w A n xs) (i : Nat) (h1 : i < n) :
    ∃ ad A0 c0, A = some ad ∧ w.cell? (ad.add i) = some (.slice A0 (xs.getD i []).length c0) ∧ (xs.getD i []).length ≤ c0 ∧ d.C w A0 (xs.getD i []).length (xs.getD i []) := by
  obtain ⟨ad, c, e, _, hK, hc0⟩ := Kd.C_get h ([] : List α) i (by omega) (by omega)
  have hc : ∀ j u, c[j]? = some u → w.cell? (ad.add (i * 1 + j)) = some u := hc0
  obtain ⟨A0, c0, rfl, l0, g0⟩ := hK
  exact ⟨ad, A0, c0, e, by have hq := hc 0 _ rfl; rwa [Nat.mul_one, Nat.add_zero] at hq, l0, g0⟩
/-- The same, in a later world. -/
theorem row_at' {α : Type} {d : Kd α} {e : Nat} {w w1 : World} {A : Option Addr} {n : Nat} {xs : List (List α)} (h : Kd.C (Kd.slice e d) w A n xs) (hb : Below w.heap.size w w1) (i : Nat) (h1 : i < n) :
    ∃ ad A0 c0, A = some ad ∧ w1.cell? (ad.add i) = some (.slice A0 (xs.getD i []).length c0) ∧ (xs.getD i []).length ≤ c0 ∧ d.C w A0 (xs.getD i []).length (xs.getD i []) := by
  obtain ⟨ad, A0, c0, h1, h2, h3, h4⟩ := row_at h i h1
  exact ⟨ad, A0, c0, h1, (hb.cell (World.block_lt_of_cell? w _ h2)).trans h2, h3, h4⟩
/-- The same, in whatever later world. -/
theorem row_get {α : Type} {d : Kd α} {e : Nat} {w : World} {A : Option Addr} {n : Nat} {xs : List (List α)} (h : Kd.C (Kd.slice e d) w A n xs) (i : Nat) (h1 : i < n) :
    ∃ ad A0 c0, A = some ad ∧ (∀ w2, Below w.heap.size w w2 → w2.cell? (ad.add i) = some (.slice A0 (xs.getD i []).length c0)) ∧ (xs.getD i []).length ≤ c0 ∧ d.C w A0 (xs.getD i []).length (xs.getD i []) := by
  obtain ⟨ad, A0, c0, h1, h2, h3, h4⟩ := row_at h i h1
  exact ⟨ad, A0, c0, h1, fun w2 hb => (hb.cell (World.block_lt_of_cell? w _ h2)).trans h2, h3, h4⟩
/-- A number of a row. -/
theorem int_at {k : IntKind} {w : World} {A : Option Addr} {n : Nat} {xs : List Int} (h : Kd.C (Kd.int k) w A n xs) (i : Nat) (h1 : i < n) :
    ∃ ad, A = some ad ∧ w.cell? (ad.add i) = some (.int k (xs.getD i 0)) := (reads_int h).2.2 (by omega) |>.imp fun _ h => ⟨h.1, h.2 i h1⟩
theorem int_at' {k : IntKind} {w w1 : World} {A : Option Addr} {n : Nat} {xs : List Int} (h : Kd.C (Kd.int k) w A n xs) (hb : Below w.heap.size w w1) (i : Nat) (h1 : i < n) :
    ∃ ad, A = some ad ∧ w1.cell? (ad.add i) = some (.int k (xs.getD i 0)) := int_at (Kd.C_below h hb) i h1

theorem int_cell {k : IntKind} {w w1 : World} {ad : Addr} {n : Nat} {xs : List Int} (h : Kd.C (Kd.int k) w (some ad) n xs) (hb : Below w.heap.size w w1) (i : Nat) (h1 : i < n) :
    w1.cell? (ad.add i) = some (.int k (xs.getD i 0)) := by
  obtain ⟨ad', e, hx⟩ := int_at' h hb i h1
  cases e
  exact hx
theorem row_cell {α : Type} {d : Kd α} {e : Nat} {w w1 : World} {ad : Addr} {n : Nat} {xs : List (List α)} (h : Kd.C (Kd.slice e d) w (some ad) n xs) (hb : Below w.heap.size w w1) (i : Nat) (h1 : i < n) :
    ∃ A0 c0, w1.cell? (ad.add i) = some (.slice A0 (xs.getD i []).length c0) ∧ (xs.getD i []).length ≤ c0 ∧ d.C w A0 (xs.getD i []).length (xs.getD i []) := by
  obtain ⟨ad', A0, c0, e, hx⟩ := row_at' h hb i h1
  cases e
  exact ⟨A0, c0, hx⟩
/-- 'xs[m:]' of a row that is read. -/
theorem cut_int {P : Program} {k : IntKind} (t e : TypeId) (ht : P.underlying t = some (.slice e)) {z : Value} {by_ : Nat} (hi : (P.info? e).map (fun i => (i.zero, i.size, i.bytes)) = some (some z, 1, by_)) (A : Option Addr) (c : Nat) (xs : List Int) (m : Nat) (hm : m ≤ xs.length) (hc : xs.length ≤ c) :
    ∃ A' : Option Addr, (∀ W : World, (Instr.slice t (.slice A xs.length c) (some (.int .i64 (m : Int))) none none).run P W = .ok (.slice A' (xs.drop m).length (c - m)) W) ∧
      ∀ (w : World), Kd.C (Kd.int k) w A xs.length xs → Kd.C (Kd.int k) w A' (xs.drop m).length (xs.drop m) := by
  obtain ⟨i0, hi0, hzz⟩ := Option.map_eq_some_iff.1 hi
  simp only [Prod.mk.injEq] at hzz
  obtain ⟨A', h1, h2⟩ := print_cut (P := P) t e .i64 ht hi0 hzz.2.1 A xs.length c m hm
  exact ⟨A', fun W => by rw [List.length_drop]; exact h1 W, fun w h => by rw [List.length_drop]; exact C_int (h2 w k xs hc (reads_int h))⟩
/-- 'xs[a:b]' of a row that is read. -/
theorem mid_int {P : Program} {k : IntKind} (t e : TypeId) (ht : P.underlying t = some (.slice e)) {z : Value} {by_ : Nat} (hi : (P.info? e).map (fun i => (i.zero, i.size, i.bytes)) = some (some z, 1, by_)) (A : Option Addr) (c : Nat) (xs : List Int) (a b : Int) (i n : Nat) (ha : a = i) (hb : b = ((i + n : Nat) : Int)) (hm : i + n ≤ xs.length) (hc : xs.length ≤ c) :
    ∃ A' : Option Addr, (∀ W : World, (Instr.slice t (.slice A xs.length c) (some (.int .i64 a)) (some (.int .i64 b)) none).run P W = .ok (.slice A' ((xs.drop i).take n).length (c - i)) W) ∧
      (∀ (w : World), Kd.C (Kd.int k) w A xs.length xs → Kd.C (Kd.int k) w A' ((xs.drop i).take n).length ((xs.drop i).take n)) ∧ ((xs.drop i).take n).length ≤ c - i := by
  obtain ⟨i0, hi0, hzz⟩ := Option.map_eq_some_iff.1 hi
  simp only [Prod.mk.injEq] at hzz
  subst ha hb
  obtain ⟨A', h1, h2, h3⟩ := print_mid_int (P := P) (k := k) t e ht hi0 hzz.2.1 A c xs i ((i + n : Nat) : Int) (by omega) (by omega) (by omega) hc
  simp only [Int.toNat_natCast, List.drop_take, Nat.add_sub_cancel_left] at h1 h2 h3
  exact ⟨A', h1, fun w h => C_int (h2 w (reads_int h)), h3⟩
theorem take_rows {α : Type} {d : Kd α} {w : World} {A : Option Addr} {n : Nat} {xs : List α} (m : Nat) (hm : m ≤ xs.length) (h : Kd.C d w A n xs) : Kd.C d w A m (xs.take m) := by
  obtain rfl := h.1
  have := Kd.C_take h hm
  rwa [show (xs.take m).length = m by rw [List.length_take]; omega] at this
theorem take_int {k : IntKind} {w : World} {A : Option Addr} {xs : List Int} (m : Nat) (hm : m ≤ xs.length) (h : Kd.C (Kd.int k) w A xs.length xs) : Kd.C (Kd.int k) w A m (xs.take m) := C_int ((reads_int h).take_ m hm)

/-- The cells of a block that was just made. -/
theorem reads_lit (w : World) (k : IntKind) (t : Nat) (xs : List Int) (h : xs.length ≤ 9223372036854775807) : ReadsInt (w.alloc (.cells (nums k xs).toArray t)) k (some ⟨w.heap.size, 0, none⟩) xs.length xs := by
  refine ⟨rfl, h, fun _ => ⟨_, rfl, fun j hj => ?_⟩⟩
  rw [add_plain]
  rw [World.cell?, heap_alloc_new]
  simp [nums, List.getElem?_eq_getElem hj, List.getD_eq_getElem?_getD]
/-- The same of a block whose bytes came of a constant (it bears a mark behind its last cell). -/
theorem reads_lit_fr (w : World) (k : IntKind) (t : Nat) (fr : Nat × Nat) (xs : List Int) (h : xs.length ≤ 9223372036854775807) : ReadsInt (w.alloc (.cells (nums k xs).toArray t fr)) k (some ⟨w.heap.size, 0, none⟩) xs.length xs := by
  refine ⟨rfl, h, fun _ => ⟨_, rfl, fun j hj => ?_⟩⟩
  rw [add_plain]
  rw [World.cell?, heap_alloc_new]
  simp [nums, List.getElem?_eq_getElem hj, List.getD_eq_getElem?_getD]
theorem size_drewN (W : World) (m : Nat) : (W.drewN m).heap.size = W.heap.size := rfl
/-- The slices of a block that was just made. -/
theorem rows_lit {α : Type} {d : Kd α} {e : Nat} (w : World) (t : Nat) (vs : List Value) (xs : List (List α)) (hm : xs.length ≤ 9223372036854775807)
    (h : ∀ (j : Nat) (x : List α), xs[j]? = some x → ∃ A c, vs[j]? = some (.slice A x.length c) ∧ x.length ≤ c ∧ Kd.C d w A x.length x) :
    Kd.C (Kd.slice e d) (w.alloc (.cells vs.toArray t)) (some ⟨w.heap.size, 0, none⟩) xs.length xs := by
  refine ⟨rfl, hm, fun _ => ⟨_, rfl, fun j p hj => ?_⟩⟩
  obtain ⟨A, c, h1, h2, h3⟩ := h j p hj
  refine ⟨[.slice A p.length c], rfl, ⟨A, c, rfl, h2, Kd.C_alloc h3 _⟩, fun i u hu => ?_⟩
  obtain ⟨rfl, rfl⟩ : i = 0 ∧ u = .slice A p.length c := by
    cases i with
    | zero => exact ⟨rfl, by simpa using hu.symm⟩
    | succ i => simp at hu
  rw [add_plain, World.cell?, heap_alloc_new]
  simpa [Kd.slice] using h1
theorem bel_size {w W : World} (h : Below w.heap.size w W) (o : Obj) : w.heap.size ≤ (W.alloc o).heap.size := by
  have := h.size
  simp only [World.alloc, Array.size_push]
  omega
theorem bel_alloc {w W : World} (h : Below w.heap.size w W) (o : Obj) : Below w.heap.size w (W.alloc o) := below_alloc h o

/-- A scope with one label: the code behind the label is walked once. -/
theorem wp_scope_once {P : Program} {a : Act} {w : World} {Q : Exit → Act → World → Prop} {c X : Code} (l : Nat) (J : Act → World → Prop) (μ : Act → World → Nat) (hf : findLabel c l = some (.seq .skip X))
    (pass : ∀ a w, J a w → X.wp P (Exit.jump l (fun a' w' => J a' w' ∧ μ a' w' < μ a w) Q) a w)
    (first : (∀ a w, J a w → X.wp P (Exit.jump l J Q) a w) → c.wp P (Exit.jump l J Q) a w) : (Code.scope c).wp P Q a w :=
  wp_scope_jumps l J μ hf (first fun a w hJ => Code.wp_mono (fun e a w q => by
    cases e with
    | goto l' => exact ⟨q.1, q.2.1⟩
    | _ => exact q) (pass a w hJ)) (fun a w hJ => wp_seq (wp_skip (pass a w hJ)))
theorem or_step (m x : Int) (h0 : 0 ≤ m) (h1 : m < 36028797018963968) (h2 : 0 ≤ x) (h3 : x < 256) : Go.bits .or .i64 (m * 256) x = m * 256 + x :=
  bits_join .i64 63 (by decide) (fun n h0 h1 => IntWalk.i64_in _ (by omega)) 8 _ _ (by omega) (by omega) (by omega) h2 (by omega) (by omega)
theorem byte_at {l : List Int} (hb : ∀ x ∈ l, 0 ≤ x ∧ x < 256) (i : Nat) : 0 ≤ l.getD i 0 ∧ l.getD i 0 < 256 := by
  rcases Nat.lt_or_ge i l.length with h | h
  · rw [List.getD_eq_getElem?_getD, List.getElem?_eq_getElem h]; exact hb _ (List.getElem_mem h)
  · rw [List.getD_eq_getElem?_getD, List.getElem?_eq_none h]; exact ⟨by decide, by decide⟩

theorem drawn_cell {w w1 : World} (h : Drawn0 w w1) (a : Addr) : w1.cell? a = w.cell? a := by
  obtain ⟨n, rfl⟩ := h
  rfl
theorem take_eq_step {α : Type} {xs ys : List α} (d : α) (k : Nat) (h : xs.take k = ys.take k) (h1 : k < xs.length) (h2 : k < ys.length) (he : xs.getD k d = ys.getD k d) : xs.take (k + 1) = ys.take (k + 1) := by
  rw [List.take_succ_eq_append_getElem h1, List.take_succ_eq_append_getElem h2, h]
  simp only [List.getD_eq_getElem?_getD, List.getElem?_eq_getElem h1, List.getElem?_eq_getElem h2, Option.getD_some] at he
  rw [he]
theorem Drawn0.trans_ {w w1 w2 : World} (h : Drawn0 w w1) (k : Drawn0 w1 w2) : Drawn0 w w2 := by
  obtain ⟨n, rfl⟩ := h
  obtain ⟨m, rfl⟩ := k
  exact ⟨⟨n + m, World.drewN_drewN ..⟩⟩
theorem C_fix {α : Type} {d : Kd α} {w W : World} {A : Option Addr} {n : Nat} {xs : List α} (h : Kd.C d w A n xs) (hb : Below w.heap.size w W) : Kd.C (Kd.fixed d w) W A n xs := ReadsRow.imp_ h hb (fun _ _ hp => hp)
theorem C_unfix {α : Type} {d : Kd α} {w w1 : World} (hb : Below w.heap.size w w1) {A : Option Addr} {n : Nat} {xs : List α} (h : Kd.C (Kd.fixed d w) w1 A n xs) : Kd.C d w1 A n xs :=
  ⟨h.1, h.2.1, fun hn => by
    obtain ⟨ad, e, hc⟩ := h.2.2 hn
    refine ⟨ad, e, fun j p hj => ?_⟩
    obtain ⟨c, h1, h2, h3⟩ := hc j p hj
    exact ⟨c, h1, d.K_below hb h2, h3⟩⟩
theorem C_drawn {α : Type} {d : Kd α} {w w1 : World} {A : Option Addr} {n : Nat} {xs : List α} (h : Kd.C d w A n xs) (hd : Drawn0 w w1) : Kd.C d w1 A n xs := by
  obtain ⟨m, rfl⟩ := hd
  exact Kd.C_drewN h m
theorem drewN_add (w : World) (a b c : Nat) : (w.drewN (a + b)).drewN c = w.drewN (a + (b + c)) := by rw [World.drewN_drewN, Nat.add_assoc]
theorem drew_C {α : Type} {d : Kd α} {w : World} {A : Option Addr} {n : Nat} {xs : List α} (h : Kd.C d w A n xs) (m : Nat) : Kd.C d (w.drewN m) A n xs := Kd.C_drewN h m

/-- Arrays by value: an element. -/
theorem run_size {P : Program} {e : TypeId} {z : Option Value} {sz by_ : Nat} (hi : (P.info? e).map (fun i => (i.zero, i.size, i.bytes)) = some (z, sz, by_)) (w : World) : (Go.sizeOf e).run P w = Result.ok sz w := by
  obtain ⟨i0, hi0, hzz⟩ := Option.map_eq_some_iff.1 hi
  simp only [Prod.mk.injEq] at hzz
  simp [Go.sizeOf, typeInfo, hi0, hzz.2.1, go_sem]
theorem run_isAgg {P : Program} {e : TypeId} {d : TypeDesc} (h : P.underlying e = some d) (w : World) : (isAgg e).run P w = Result.ok (match d with | .struct _ | .array _ _ => true | _ => false) w := by
  unfold isAgg
  rw [Sem.run_bind, run_underlying h w]
  cases d <;> simp_all
theorem run_index_int {P : Program} (t e : TypeId) (n : Nat) (cs : Array Value) (k ke : IntKind) (i : Nat) (h : P.underlying t = some (.array n e)) (he : P.underlying e = some (.int ke)) {z : Option Value} {by_ : Nat} (hinfo : (P.info? e).map (fun i => (i.zero, i.size, i.bytes)) = some (z, 1, by_)) (hi : i < n) (v : Value) (hv : cs[i]? = some v) (w : World) :
    (Instr.index t (.agg cs) (.int k (i : Int))).run P w = .ok v w := by
  simp only [Instr.index, asIntOf, Sem.run_bind, Sem.run_pure, Result.andThen_ok, run_underlying h]
  have hn : (0 ≤ (i : Int) ∧ (i : Int) < (n : Int)) := by omega
  rw [if_pos hn]
  simp [run_size hinfo, part, run_isAgg he, hv]
theorem run_index_agg {P : Program} (t e : TypeId) (n : Nat) (cs : Array Value) (k : IntKind) (i : Nat) (h : P.underlying t = some (.array n e)) {d : TypeDesc} (he : P.underlying e = some d) (hd : (match d with | .struct _ | .array _ _ => true | _ => false) = true) {z : Option Value} {sz by_ : Nat} (hinfo : (P.info? e).map (fun i => (i.zero, i.size, i.bytes)) = some (z, sz, by_)) (hi : i < n) (w : World) :
    (Instr.index t (.agg cs) (.int k (i : Int))).run P w = .ok (.agg (cs.extract (i * sz) (i * sz + sz))) w := by
  simp only [Instr.index, asIntOf, Sem.run_bind, Sem.run_pure, Result.andThen_ok, run_underlying h]
  have hn : (0 ≤ (i : Int) ∧ (i : Int) < (n : Int)) := by omega
  rw [if_pos hn]
  simp [run_size hinfo, part, run_isAgg he, hd]
theorem cell_new1 (w : World) (v : Value) (t : Nat) : (w.alloc (.cells #[v] t)).cell? ⟨w.heap.size, 0, none⟩ = some v := by
  rw [World.cell?, heap_alloc_new]
  rfl
theorem cell_keep {w w1 : World} {a : Addr} {v : Value} (hb : Below w.heap.size w w1) (h : w.cell? a = some v) : w1.cell? a = some v := (hb.cell (World.block_lt_of_cell? w _ h)).trans h
/-- A package-level variable's block: its cells. -/
def LaidAt (w : World) (g : Nat) (cs : Array Value) : Prop := ∃ t fr, w.heap[g]? = some (.cells cs t fr)
theorem LaidAt.below {w w1 : World} {g : Nat} {cs : Array Value} (h : LaidAt w g cs) (hb : Below w.heap.size w w1) : LaidAt w1 g cs := by
  obtain ⟨t, fr, h⟩ := h
  exact ⟨t, fr, (hb.block g (Array.getElem?_eq_some_iff.1 h).1).trans h⟩

/-- Bytes of a number, four and eight, the highest one first. -/
def be4 (n : Nat) : List Int := [(n : Int) / 16777216 % 256, (n : Int) / 65536 % 256, (n : Int) / 256 % 256, (n : Int) % 256]
def joinL (l : List (List Int)) : List Int := l.flatMap fun p => be4 p.length ++ p
theorem joinL_snoc (l : List (List Int)) (k : Nat) (h : k < l.length) : joinL (l.take (k + 1)) = joinL (l.take k) ++ be4 (l.getD k []).length ++ l.getD k [] := by
  rw [List.take_succ_eq_append_getElem h, joinL, List.flatMap_append]
  simp [joinL, List.getElem?_eq_getElem h]
theorem joinL_le (l : List (List Int)) (k : Nat) : (joinL (l.take k)).length ≤ (joinL l).length := by
  conv => rhs; rw [← List.take_append_drop k l]
  rw [joinL, joinL, List.flatMap_append, List.length_append]
  omega
/-- The eight bytes of a number, as of 64 bits. -/
def be8 (n : Int) : List Int := [n / 72057594037927936 % 256, n / 281474976710656 % 256, n / 1099511627776 % 256, n / 4294967296 % 256, n / 16777216 % 256, n / 65536 % 256, n / 256 % 256, n % 256]
theorem be8_wrap (p q : Int) (h : IntKind.u64.wrap p = q) : be8 p = be8 q ∧ 0 ≤ q := by
  rw [IntKind.wrap_u64] at h
  subst h
  refine ⟨?_, by omega⟩
  simp only [be8, List.cons.injEq, and_true]
  refine ⟨?_, ?_, ?_, ?_, ?_, ?_, ?_, ?_⟩ <;> omega
def numsL (l : List Int) : List Int := l.flatMap be8
theorem numsL_snoc (l : List Int) (k : Nat) (h : k < l.length) : numsL (l.take (k + 1)) = numsL (l.take k) ++ be8 (l.getD k 0) := by
  rw [List.take_succ_eq_append_getElem h, numsL, List.flatMap_append]
  simp [numsL, List.getElem?_eq_getElem h]
theorem numsL_len (l : List Int) : (numsL l).length = 8 * l.length := by
  induction l with
  | nil => rfl
  | cons x l ih => rw [numsL, List.flatMap_cons, List.length_append, ← numsL, ih]; simp [be8]; omega
end Go.Proofs.YtdmeocoehahopaaDoor.K
namespace Go.Proofs.YtdmeocoehahopaaDoor.RI
open Go.Proofs.YtdmeocoehahopaaDoorW.PrintWords Go.Proofs.YtdmeocoehahopaaDoorW.PrintLast Go.Proofs.YtdmeocoehahopaaDoor.K
set_option linter.unusedVariables false
section
variable {P : Program} {ops : Array Oper} {Q : Exit → Act → World → Prop}
/-- Each operation waits for earlier ones alone. -/
def backB (ops : Array Oper) : Bool := (List.range ops.size).all fun j => match ops[j]? with
  | some o => o.after.all fun e => !Region.binds .any e || decide (e.on < j)
  | none => true
theorem backB_spec (hb : backB ops = true) {j : Nat} {o : Oper} (ho : ops[j]? = some o) : ∀ e ∈ o.after, Region.binds .any e = true → e.on < j := by
  intro e he hbe
  have hlt : j < ops.size := (Array.getElem?_eq_some_iff.1 ho).1
  have h1 := List.all_eq_true.1 hb j (List.mem_range.2 hlt)
  simp only [ho] at h1
  have h2 := Array.all_eq_true_iff_forall_mem.1 h1 e he
  simpa [hbe] using h2
theorem ready_empty (hb : backB ops = true) {l : Array Bool} (hl : l.size = ops.size) (hr : Region.ready .any ops l = []) : ∀ j, j < ops.size → l.getD j false = true := by
  intro j
  induction j using Nat.strongRecOn with
  | ind j ih =>
    intro hj
    cases hc : l.getD j false with
    | true => rfl
    | false =>
      exfalso
      have ho : ops[j]? = some ops[j] := Array.getElem?_eq_getElem hj
      have h1 : l.getD j true = false := by
        simp only [Array.getD_eq_getD_getElem?, Array.getElem?_eq_getElem (show j < l.size by omega), Option.getD_some] at hc ⊢
        exact hc
      have hm : j ∈ Region.ready .any ops l := mem_ready.2 ⟨h1, _, ho, fun e he hbe => ih e.on (backB_spec hb ho e he hbe) (by have := backB_spec hb ho e he hbe; omega)⟩
      rw [hr] at hm
      cases hm
theorem wpAny_all (hb : backB ops = true) (I : Array Bool → Act → World → Prop)
    (step : ∀ (l : Array Bool) a w i o, l.size = ops.size → ListedClosed .any ops l → I l a w → ops[i]? = some o → l.getD i true = false → (∀ e ∈ o.after, Region.binds .any e = true → l.getD e.on false = true) →
      ∀ K : Act → World → Prop, (∀ a' w', I (l.setIfInBounds i true) a' w' → K a' w') → if Region.wanted o (yielded ops a.tmps) = true then (Oper.wp P o a w K Q ∨ (o.asks P a w ∧ LetsOut Q)) else K (a.put o.dst undef) w)
    (fin : ∀ l a w, I l a w → (∀ j, j < ops.size → l.getD j false = true) → Q .normal a w) :
    ∀ (fuel : Nat) (l : Array Bool) (a : Act) (w : World), l.size = ops.size → l.toList.count false ≤ fuel → ListedClosed .any ops l → I l a w → wpAny P .any ops Q fuel l a w := by
  intro fuel
  induction fuel with
  | zero =>
    intro l a w hs hc hcl hI
    have hr : Region.ready .any ops l = [] := by
      refine List.eq_nil_iff_forall_not_mem.2 fun j hj => ?_
      obtain ⟨h1, o, ho, _⟩ := mem_ready.1 hj
      have hlt : j < l.size := by rw [hs]; exact (Array.getElem?_eq_some_iff.1 ho).1
      have h2 : l[j] = false := by simpa [Array.getD_eq_getD_getElem?, Array.getElem?_eq_getElem hlt] using h1
      have h3 : false ∈ l.toList := by rw [← h2]; exact Array.mem_toList_iff.2 (Array.getElem_mem hlt)
      have h4 : 0 < l.toList.count false := List.count_pos_iff.2 h3
      omega
    exact ⟨hr, fin l a w hI (ready_empty hb hs hr)⟩
  | succ fuel ih =>
    intro l a w hs hc hcl hI
    refine ⟨fun hr => fin l a w hI (ready_empty hb hs hr), fun i hi => ?_⟩
    have hcl' := hcl.set hi
    obtain ⟨h1, o, ho, hd⟩ := mem_ready.1 hi
    have hlt : i < l.size := by rw [hs]; exact (Array.getElem?_eq_some_iff.1 ho).1
    have h2 : l.toList[i]'(by simpa using hlt) = false := by simpa [Array.getD_eq_getD_getElem?, Array.getElem?_eq_getElem hlt] using h1
    have hcnt : (l.setIfInBounds i true).toList.count false ≤ fuel := by
      have h3 : 0 < l.toList.count false := List.count_pos_iff.2 (by rw [← h2]; exact List.getElem_mem _)
      rw [Array.toList_setIfInBounds, List.count_set (h := by simpa using hlt), h2]
      show l.toList.count false - 1 + 0 ≤ fuel
      omega
    have := step l a w i o hs hcl hI ho h1 hd (wpAny P .any ops Q fuel (l.setIfInBounds i true)) (fun a' w' h => ih _ _ _ (by simpa using hs) hcnt hcl' h)
    unfold wpOp
    rw [ho]
    show if Region.wanted o (yielded ops a.tmps) = true then _ else _
    split
    · rename_i hw; rw [if_pos hw] at this; exact this
    · rename_i hw; rw [if_neg hw] at this; exact this
/-! ### The frame: the slots that a region writes are variables. -/
def fillL : List Value → List Bool → (Nat → Value) → Nat → List Value
  | [], _, _, _ => []
  | x :: xs, [], _, _ => x :: xs
  | _ :: xs, true :: bs, v, k => v k :: fillL xs bs v (k + 1)
  | x :: xs, false :: bs, v, k => x :: fillL xs bs v (k + 1)
def fillA (a0 : Act) (m : List Bool) (v : Nat → Value) : Act := { a0 with tmps := (fillL a0.tmps.toList m v 0).toArray }
def upv (v : Nat → Value) (d : Nat) (x : Value) : Nat → Value := fun k => if k = d then x else v k
theorem upv_same (v : Nat → Value) (d : Nat) (x : Value) : upv v d x d = x := if_pos rfl
theorem upv_ne {v : Nat → Value} {d k : Nat} {x : Value} (h : k ≠ d) : upv v d x k = v k := if_neg h
theorem fillL_congr {v v' : Nat → Value} : ∀ (xs : List Value) (m : List Bool) (k : Nat), (∀ j, k ≤ j → v j = v' j) → fillL xs m v k = fillL xs m v' k
  | [], _, _, _ => by simp only [fillL]
  | _ :: _, [], _, _ => by simp only [fillL]
  | x :: xs, true :: bs, k, h => by simp only [fillL]; rw [h k (Nat.le_refl _), fillL_congr xs bs (k + 1) (fun j hj => h j (by omega))]
  | x :: xs, false :: bs, k, h => by simp only [fillL]; rw [fillL_congr xs bs (k + 1) (fun j hj => h j (by omega))]
theorem fillL_set {v : Nat → Value} {x : Value} : ∀ (xs : List Value) (m : List Bool) (k d : Nat), m.getD d false = true → (fillL xs m v k).set d x = fillL xs m (upv v (k + d) x) k
  | [], _, _, _, _ => by simp only [fillL, List.set_nil]
  | _ :: _, [], _, _, h => by simp at h
  | y :: xs, true :: bs, k, 0, _ => by
    simp only [fillL, List.set_cons_zero, Nat.add_zero, upv_same]
    rw [fillL_congr xs bs (k + 1) (v' := upv v k x) (fun j hj => (upv_ne (by omega)).symm)]
  | y :: xs, false :: bs, k, 0, h => by simp at h
  | y :: xs, true :: bs, k, d + 1, h => by
    simp only [fillL, List.set_cons_succ]
    rw [fillL_set xs bs (k + 1) d (by simpa using h), show k + 1 + d = k + (d + 1) by omega, upv_ne (by omega)]
  | y :: xs, false :: bs, k, d + 1, h => by
    simp only [fillL, List.set_cons_succ]
    rw [fillL_set xs bs (k + 1) d (by simpa using h), show k + 1 + d = k + (d + 1) by omega]
theorem fill_put {a0 : Act} {m : List Bool} {v : Nat → Value} {d : Nat} {x : Value} (h : m.getD d false = true) : (fillA a0 m v).put (some d) x = fillA a0 m (upv v d x) := by
  have := fillL_set (v := v) (x := x) a0.tmps.toList m 0 d h
  rw [Nat.zero_add] at this
  simp only [fillA, Act.put, List.setIfInBounds_toArray, this]
theorem fillL_start : ∀ (xs ys : List Value) (m : List Bool) (k : Nat), (∀ j, xs[j]? = ys[k + j]?) → fillL xs m (fun j => (ys[j]?).getD undef) k = xs
  | [], _, _, _, _ => by simp only [fillL]
  | _ :: _, _, [], _, _ => by simp only [fillL]
  | x :: xs, ys, true :: bs, k, h => by
    have h0 := h 0
    simp only [List.getElem?_cons_zero, Nat.add_zero] at h0
    simp only [fillL, ← h0, Option.getD_some]
    rw [fillL_start xs ys bs (k + 1) (fun j => by have := h (j + 1); simpa [Nat.add_assoc, Nat.add_comm 1 j] using this)]
  | x :: xs, ys, false :: bs, k, h => by
    simp only [fillL]
    rw [fillL_start xs ys bs (k + 1) (fun j => by have := h (j + 1); simpa [Nat.add_assoc, Nat.add_comm 1 j] using this)]
theorem fill_start (a0 : Act) (m : List Bool) : fillA a0 m (fun j => (a0.tmps.toList[j]?).getD undef) = a0 := by
  simp only [fillA, fillL_start a0.tmps.toList a0.tmps.toList m 0 (fun j => by simp)]
/-! ### The steps. -/
def AllOps (p : Nat → Oper → Prop) : List Oper → Nat → Prop
  | [], _ => True
  | o :: os, k => p k o ∧ AllOps p os (k + 1)
theorem AllOps.get {p : Nat → Oper → Prop} : ∀ {os : List Oper} {k : Nat}, AllOps p os k → ∀ {i : Nat} {o : Oper}, os[i]? = some o → p (k + i) o
  | [], _, _, _, _, h => by simp at h
  | x :: os, k, h, 0, o, hi => by
    obtain rfl : x = o := by simpa using hi
    exact h.1
  | x :: os, k, h, i + 1, o, hi => by
    have := AllOps.get h.2 (i := i) (o := o) (by simpa using hi)
    rwa [show k + 1 + i = k + (i + 1) by omega] at this
def StepOk (P : Program) (ops : Array Oper) (Q : Exit → Act → World → Prop) (o : Oper) (a : Act) (W : World) (G : Value → World → Prop) : Prop :=
  ∀ K : Act → World → Prop, (∀ x W', G x W' → K (a.put o.dst x) W') → if Region.wanted o (yielded ops a.tmps) = true then (Oper.wp P o a W K Q ∨ (o.asks P a W ∧ LetsOut Q)) else K (a.put o.dst undef) W
theorem StepOk.mono {o : Oper} {a : Act} {W : World} {G G' : Value → World → Prop} (h : StepOk P ops Q o a W G) (hg : ∀ x W', G x W' → G' x W') : StepOk P ops Q o a W G' := fun K hK => h K (fun x W' hx => hK x W' (hg x W' hx))
theorem wanted_none {o : Oper} (hg : o.guard = none) (y : Nat → Option Bool) : Region.wanted o y = true := by simp [Region.wanted, hg]
theorem step_value {o : Oper} {a : Act} {W W' : World} {x : Value} {G : Value → World → Prop} (hw : Region.wanted o (yielded ops a.tmps) = true) (hrun : (execOp a.eval o).run P W = .ok (.value x) W') (h : G x W') : StepOk P ops Q o a W G := fun K hK => by
  rw [if_pos hw]
  refine .inl ?_
  unfold Oper.wp
  rw [hrun]
  exact hK x W' h
theorem step_skip {o : Oper} {a : Act} {W W' : World} {G : Value → World → Prop} (hw : Region.wanted o (yielded ops a.tmps) = true) (hrun : (execOp a.eval o).run P W = .ok .skip W') (h : G undef W') : StepOk P ops Q o a W G := fun K hK => by
  rw [if_pos hw]
  refine .inl ?_
  unfold Oper.wp
  rw [hrun]
  exact hK undef W' h
theorem step_off {o : Oper} {a : Act} {W : World} {G : Value → World → Prop} (hw : Region.wanted o (yielded ops a.tmps) = false) (h : G undef W) : StepOk P ops Q o a W G := fun K hK => by
  rw [if_neg (by rw [hw]; simp)]
  exact hK undef W h
/-- One operation, as a walk of its own. -/
theorem step_list {o : Oper} {a : Act} {W : World} {G : Value → World → Prop} (h : ∀ K : Act → World → Prop, (∀ x W', G x W' → K (a.put o.dst x) W') → wpList P ops (Exit.then K Q) [o] a W) : StepOk P ops Q o a W G := fun K hK => by
  have h1 := h K hK
  unfold wpList at h1
  split at h1
  · rename_i hw
    rw [if_pos hw]
    refine h1.imp (fun h2 => ?_) (fun h2 => ⟨h2.1, h2.2⟩)
    unfold Oper.wp at *
    generalize (execOp a.eval o).run P W = r at *
    cases r with
    | ok n w' =>
      cases n <;> simp only [Oper.upon] at h2 ⊢ <;>
        first
          | exact h2
          | exact Calls.mono h2 (fun e w'' he => by cases e <;> exact he)
          | exact Rows.mono h2 (fun _ _ he => he)
    | halt x w' => cases x <;> simp only [Oper.upon] at h2 ⊢ <;> exact h2
  · rename_i hw
    rw [if_neg hw]
    exact h1
theorem fill_lit (xs : List Value) (ds : List Deferred) (m : List Bool) (v : Nat → Value) : fillA ⟨xs.toArray, ds⟩ m v = ⟨(fillL xs m v 0).toArray, ds⟩ := by simp only [fillA]
def dstOf (ops : Array Oper) (j : Nat) : Option Nat := (ops[j]?).bind (·.dst)
def valOf (ops : Array Oper) (v : Nat → Value) (j : Nat) : Value := match dstOf ops j with
  | some d => v d
  | none => undef
/-- The region's form: edges go back; its slots are the mask's, each written once; the last operation waits for all others. -/
def regB (ops : Array Oper) (m : List Bool) (z : Nat) : Bool :=
  backB ops && (List.range ops.size).all (fun j => (match dstOf ops j with | some d => m.getD d false | none => true) && (List.range j).all fun i => match dstOf ops i, dstOf ops j with | some d, some e => d != e | _, _ => true)
    && (List.range ops.size).all (fun j => j == z || Region.reachB .any ops j ops.size z) && (z < ops.size)
theorem regB_back {m : List Bool} {z : Nat} (h : regB ops m z = true) : backB ops = true := by
  simp only [regB, Bool.and_eq_true] at h
  exact h.1.1.1
theorem regB_in {m : List Bool} {z : Nat} (h : regB ops m z = true) {j d : Nat} (hj : dstOf ops j = some d) : m.getD d false = true := by
  simp only [regB, Bool.and_eq_true] at h
  have hlt : j < ops.size := by
    rcases Nat.lt_or_ge j ops.size with h' | h'
    · exact h'
    · simp [dstOf, Array.getElem?_eq_none h'] at hj
  have := List.all_eq_true.1 h.1.1.2 j (List.mem_range.2 hlt)
  simp only [hj, Bool.and_eq_true] at this
  exact this.1
theorem regB_ne {m : List Bool} {z : Nat} (h : regB ops m z = true) {i j d e : Nat} (hi : dstOf ops i = some d) (hj : dstOf ops j = some e) (hne : i ≠ j) : d ≠ e := by
  simp only [regB, Bool.and_eq_true] at h
  have lt : ∀ {i d}, dstOf ops i = some d → i < ops.size := fun {i d} hi => by
    rcases Nat.lt_or_ge i ops.size with h' | h'
    · exact h'
    · simp [dstOf, Array.getElem?_eq_none h'] at hi
  have go : ∀ {i j d e : Nat}, dstOf ops i = some d → dstOf ops j = some e → i < j → d ≠ e := fun {i j d e} hi hj hlt => by
    have h1 := List.all_eq_true.1 h.1.1.2 j (List.mem_range.2 (lt hj))
    simp only [Bool.and_eq_true] at h1
    have h2 := List.all_eq_true.1 h1.2 i (List.mem_range.2 hlt)
    simp only [hi, hj] at h2
    simpa using h2
  rcases Nat.lt_or_ge i j with h' | h'
  · exact go hi hj h'
  · exact (go hj hi (by omega)).symm
theorem regB_last {m : List Bool} {z : Nat} (h : regB ops m z = true) {j : Nat} (hj : j < ops.size) (hne : j ≠ z) : Region.reachB .any ops j ops.size z = true := by
  simp only [regB, Bool.and_eq_true] at h
  have := List.all_eq_true.1 h.1.2 j (List.mem_range.2 hj)
  simpa [hne] using this
theorem valOf_up {m : List Bool} {z : Nat} (h : regB ops m z = true) {v : Nat → Value} {i j d : Nat} {x : Value} (hi : dstOf ops i = some d) (hne : j ≠ i) : valOf ops (upv v d x) j = valOf ops v j := by
  unfold valOf
  cases hj : dstOf ops j with
  | none => rfl
  | some e => exact upv_ne (regB_ne h hj hi hne)
/-- A region that draws, with a last operation: each operation from what it waits for. -/
theorem wp_region_mono {id : Nat} {a0 : Act} {w : World} (z : Nat) (m : List Bool) (hm : P.follows .mixedOrders = true) (hr : regB ops m z = true) (B : World → Prop) (M : World → World → Prop) (F : Nat → Value → World → Prop)
    (hM : ∀ i x W W', B W → M W W' → F i x W → F i x W') (hB : B w.drew)
    (step : AllOps (fun i o => ∀ v W, B W → (∀ j, Region.reachB .any ops j ops.size i = true → F j (valOf ops v j) W) →
      StepOk P ops Q o (fillA a0 m v) W (fun x W' => if i = z then Q .normal ((fillA a0 m v).put o.dst x) W' else B W' ∧ M W W' ∧ F i (match o.dst with | some _ => x | none => undef) W')) ops.toList 0) :
    (Code.region id ops true).wp P Q a0 w := by
  refine wp_region_any hm ?_
  refine wpAny_all (regB_back hr) (fun l a W => if l.getD z false = true then Q .normal a W else ∃ v, a = fillA a0 m v ∧ B W ∧ ∀ j, l.getD j false = true → F j (valOf ops v j) W) ?_ ?_ ops.size _ _ _ (by simp) ?_ ?_ ?_
  · intro l a W i o hs hcl hI ho hun hd K hK
    have hlt : i < ops.size := (Array.getElem?_eq_some_iff.1 ho).1
    have hzf : l.getD z false = false := by
      cases hz : l.getD z false with
      | false => rfl
      | true =>
        have hi : l.getD i false = true := by
          by_cases h : i = z
          · rw [h]; exact hz
          · exact Region.reach_listed hcl _ _ (regB_last hr hlt h) hz
        have h1 : l.getD i false = l.getD i true := by
          simp only [Array.getD_eq_getD_getElem?, Array.getElem?_eq_getElem (show i < l.size by omega), Option.getD_some]
        rw [h1, hun] at hi
        cases hi
    rw [if_neg (by rw [hzf]; simp)] at hI
    obtain ⟨v, rfl, hBW, hF⟩ := hI
    have hst := AllOps.get step (i := i) (o := o) (by simpa using ho) v W hBW (fun j hj => hF j (by
      rw [Nat.zero_add] at hj
      have hdone : ListedClosed .any ops (l.setIfInBounds i true) := hcl.set (mem_ready.2 ⟨hun, o, ho, hd⟩)
      have h1 := Region.reach_listed hdone _ _ hj (by
        simp only [Array.getD_eq_getD_getElem?, Array.getElem?_setIfInBounds_self_of_lt (show i < l.size by omega), Option.getD_some])
      by_cases h : j = i
      · subst h
        exfalso
        have back : ∀ (fuel d : Nat), Region.reachB .any ops j fuel d = true → j < d := by
          intro fuel
          induction fuel with
          | zero => intro d h; simp [Region.reachB] at h
          | succ fuel ih =>
            intro d h
            unfold Region.reachB at h
            cases hod : ops[d]? with
            | none => rw [hod] at h; simp at h
            | some od =>
              rw [hod] at h
              obtain ⟨e, he, h1⟩ := Array.any_eq_true'.1 h
              simp only [Bool.and_eq_true, Bool.or_eq_true, beq_iff_eq] at h1
              have h2 := backB_spec (regB_back hr) hod e he h1.1
              rcases h1.2 with h3 | h3
              · omega
              · have := ih _ h3; omega
        have := back _ _ hj
        omega
      · rwa [getD_set_ne false (Ne.symm h)] at h1))
    rw [Nat.zero_add] at hst
    refine hst K fun x W' hg => hK _ _ ?_
    dsimp only at hg
    by_cases hiz : i = z
    · subst hiz
      rw [if_pos (by simp only [Array.getD_eq_getD_getElem?, Array.getElem?_setIfInBounds_self_of_lt (show i < l.size by omega), Option.getD_some])]
      rwa [if_pos rfl] at hg
    · rw [if_neg (by rw [getD_set_ne false hiz, hzf]; simp)]
      rw [if_neg hiz] at hg
      obtain ⟨hB', hMW, hFx⟩ := hg
      cases hdst : o.dst with
      | none =>
        refine ⟨v, rfl, hB', fun j hj => ?_⟩
        by_cases h : j = i
        · subst h
          have hv : valOf ops v j = undef := by simp [valOf, dstOf, ho, hdst]
          rw [hv]
          rw [hdst] at hFx
          exact hFx
        · rw [getD_set_ne false (Ne.symm h)] at hj
          exact hM j _ W W' hBW hMW (hF j hj)
      | some d =>
        have hdo : dstOf ops i = some d := by simp [dstOf, ho, hdst]
        refine ⟨upv v d x, fill_put (regB_in hr hdo), hB', fun j hj => ?_⟩
        by_cases h : j = i
        · subst h
          have hv : valOf ops (upv v d x) j = x := by simp only [valOf, hdo, upv_same]
          rw [hv]
          rw [hdst] at hFx
          exact hFx
        · rw [getD_set_ne false (Ne.symm h)] at hj
          rw [valOf_up hr hdo h]
          exact hM j _ W W' hBW hMW (hF j hj)
  · intro l a W hI hall
    have hz : z < ops.size := by
      simp only [regB, Bool.and_eq_true, decide_eq_true_eq] at hr
      exact hr.2
    rwa [if_pos (hall z hz)] at hI
  · simp
  · intro j oj _ hl
    rw [getD_replicate_false] at hl
    cases hl
  · rw [if_neg (by rw [getD_replicate_false]; simp)]
    exact ⟨_, (fill_start a0 m).symm, hB, fun j hj => by rw [getD_replicate_false] at hj; cases hj⟩
/-- The form of a region without a last operation. -/
def regB0 (ops : Array Oper) (m : List Bool) : Bool :=
  backB ops && (List.range ops.size).all (fun j => (match dstOf ops j with | some d => m.getD d false | none => true) && (List.range j).all fun i => match dstOf ops i, dstOf ops j with | some d, some e => d != e | _, _ => true)
theorem regB0_back {m : List Bool} (h : regB0 ops m = true) : backB ops = true := by
  simp only [regB0, Bool.and_eq_true] at h
  exact h.1
theorem regB0_in {m : List Bool} (h : regB0 ops m = true) {j d : Nat} (hj : dstOf ops j = some d) : m.getD d false = true := by
  simp only [regB0, Bool.and_eq_true] at h
  have hlt : j < ops.size := by
    rcases Nat.lt_or_ge j ops.size with h' | h'
    · exact h'
    · simp [dstOf, Array.getElem?_eq_none h'] at hj
  have := List.all_eq_true.1 h.2 j (List.mem_range.2 hlt)
  simp only [hj, Bool.and_eq_true] at this
  exact this.1
theorem regB0_ne {m : List Bool} (h : regB0 ops m = true) {i j d e : Nat} (hi : dstOf ops i = some d) (hj : dstOf ops j = some e) (hne : i ≠ j) : d ≠ e := by
  simp only [regB0, Bool.and_eq_true] at h
  have lt : ∀ {i d}, dstOf ops i = some d → i < ops.size := fun {i d} hi => by
    rcases Nat.lt_or_ge i ops.size with h' | h'
    · exact h'
    · simp [dstOf, Array.getElem?_eq_none h'] at hi
  have go : ∀ {i j d e : Nat}, dstOf ops i = some d → dstOf ops j = some e → i < j → d ≠ e := fun {i j d e} hi hj hlt => by
    have h1 := List.all_eq_true.1 h.2 j (List.mem_range.2 (lt hj))
    simp only [Bool.and_eq_true] at h1
    have h2 := List.all_eq_true.1 h1.2 i (List.mem_range.2 hlt)
    simp only [hi, hj] at h2
    simpa using h2
  rcases Nat.lt_or_ge i j with h' | h'
  · exact go hi hj h'
  · exact (go hj hi (by omega)).symm
theorem valOf_up0 {m : List Bool} (h : regB0 ops m = true) {v : Nat → Value} {i j d : Nat} {x : Value} (hi : dstOf ops i = some d) (hne : j ≠ i) : valOf ops (upv v d x) j = valOf ops v j := by
  unfold valOf
  cases hj : dstOf ops j with
  | none => rfl
  | some e => exact upv_ne (regB0_ne h hj hi hne)
/-- A region that draws, whatever comes last. -/
theorem wp_region_fin {id : Nat} {a0 : Act} {w : World} (m : List Bool) (hm : P.follows .mixedOrders = true) (hr : regB0 ops m = true) (B : World → Prop) (M : World → World → Prop) (F : Nat → Value → World → Prop)
    (hM : ∀ i x W W', B W → M W W' → F i x W → F i x W') (hB : B w.drew)
    (step : AllOps (fun i o => ∀ v W, B W → (∀ j, Region.reachB .any ops j ops.size i = true → F j (valOf ops v j) W) →
      StepOk P ops Q o (fillA a0 m v) W (fun x W' => B W' ∧ M W W' ∧ F i (match o.dst with | some _ => x | none => undef) W')) ops.toList 0)
    (fin : ∀ v W, B W → (∀ j, j < ops.size → F j (valOf ops v j) W) → Q .normal (fillA a0 m v) W) :
    (Code.region id ops true).wp P Q a0 w := by
  refine wp_region_any hm ?_
  refine wpAny_all (regB0_back hr) (fun l a W => ∃ v, a = fillA a0 m v ∧ B W ∧ ∀ j, l.getD j false = true → F j (valOf ops v j) W) ?_ ?_ ops.size _ _ _ (by simp) ?_ ?_ ?_
  · intro l a W i o hs hcl hI ho hun hd K hK
    have hlt : i < ops.size := (Array.getElem?_eq_some_iff.1 ho).1
    obtain ⟨v, rfl, hBW, hF⟩ := hI
    have hst := AllOps.get step (i := i) (o := o) (by simpa using ho) v W hBW (fun j hj => hF j (by
      rw [Nat.zero_add] at hj
      have hdone : ListedClosed .any ops (l.setIfInBounds i true) := hcl.set (mem_ready.2 ⟨hun, o, ho, hd⟩)
      have h1 := Region.reach_listed hdone _ _ hj (by
        simp only [Array.getD_eq_getD_getElem?, Array.getElem?_setIfInBounds_self_of_lt (show i < l.size by omega), Option.getD_some])
      by_cases h : j = i
      · subst h
        exfalso
        have back : ∀ (fuel d : Nat), Region.reachB .any ops j fuel d = true → j < d := by
          intro fuel
          induction fuel with
          | zero => intro d h; simp [Region.reachB] at h
          | succ fuel ih =>
            intro d h
            unfold Region.reachB at h
            cases hod : ops[d]? with
            | none => rw [hod] at h; simp at h
            | some od =>
              rw [hod] at h
              obtain ⟨e, he, h1⟩ := Array.any_eq_true'.1 h
              simp only [Bool.and_eq_true, Bool.or_eq_true, beq_iff_eq] at h1
              have h2 := backB_spec (regB0_back hr) hod e he h1.1
              rcases h1.2 with h3 | h3
              · omega
              · have := ih _ h3; omega
        have := back _ _ hj
        omega
      · rwa [getD_set_ne false (Ne.symm h)] at h1))
    rw [Nat.zero_add] at hst
    refine hst K fun x W' hg => hK _ _ ?_
    dsimp only at hg
    obtain ⟨hB', hMW, hFx⟩ := hg
    cases hdst : o.dst with
    | none =>
      refine ⟨v, rfl, hB', fun j hj => ?_⟩
      by_cases h : j = i
      · subst h
        have hv : valOf ops v j = undef := by simp [valOf, dstOf, ho, hdst]
        rw [hv]
        rw [hdst] at hFx
        exact hFx
      · rw [getD_set_ne false (Ne.symm h)] at hj
        exact hM j _ W W' hBW hMW (hF j hj)
    | some d =>
      have hdo : dstOf ops i = some d := by simp [dstOf, ho, hdst]
      refine ⟨upv v d x, fill_put (regB0_in hr hdo), hB', fun j hj => ?_⟩
      by_cases h : j = i
      · subst h
        have hv : valOf ops (upv v d x) j = x := by simp only [valOf, hdo, upv_same]
        rw [hv]
        rw [hdst] at hFx
        exact hFx
      · rw [getD_set_ne false (Ne.symm h)] at hj
        rw [valOf_up0 hr hdo h]
        exact hM j _ W W' hBW hMW (hF j hj)
  · intro l a W hI hall
    obtain ⟨v, rfl, hBW, hF⟩ := hI
    exact fin v W hBW (fun j hj => hF j (hall j hj))
  · simp
  · intro j oj _ hl
    rw [getD_replicate_false] at hl
    cases hl
  · exact ⟨_, (fill_start a0 m).symm, hB, fun j hj => by rw [getD_replicate_false] at hj; cases hj⟩
/-- A composite value, by its own run. -/
theorem wpList_build {rest : List Oper} {o : Oper} {a : Act} {w : World} (hg : o.guard = none) (t : TypeId) (ps : Array (Nat × Operand)) (ho : o.op = .build t ps) (vs : Array (Nat × Value)) (hv : (ps.map fun (i, x) => (i, a.eval x)) = vs) (x : Value)
    (hrun : (Instr.build t vs).run P w = .ok x w) (h : wpList P ops Q rest (a.put o.dst x) w) : wpList P ops Q (o :: rest) a w :=
  wpList_plain hg fun K hK => by
    have h1 : (execOp a.eval o).run P w = .ok (.value x) w := by
      unfold execOp
      simp only [ho, hv, Sem.run_bind, Sem.run_pure, Result.andThen_ok, hrun]
    unfold Oper.wp
    rw [h1]
    exact hK _ _ h
end
end Go.Proofs.YtdmeocoehahopaaDoor.RI
namespace Go.Proofs.YtdmeocoehahopaaDoor.RI
open Go.Proofs.YtdmeocoehahopaaDoorW.PrintWords Go.Proofs.YtdmeocoehahopaaDoorW.PrintLast Go.Proofs.YtdmeocoehahopaaDoor.K
set_option linter.unusedVariables false
section
variable {P : Program} {ops : Array Oper} {Q : Exit → Act → World → Prop}
/-- A region that draws; what holds of the world may hang on what has come up. -/
theorem wp_region_gen {id : Nat} {a0 : Act} {w : World} (m : List Bool) (hm : P.follows .mixedOrders = true) (hr : regB0 ops m = true) (B : (Nat → Bool) → World → Prop) (M : World → World → Prop) (F : Nat → Value → World → Prop)
    (hM : ∀ i x W W', M W W' → F i x W → F i x W') (hB : B (fun _ => false) w.drew)
    (step : AllOps (fun i o => ∀ ℓ v W, B ℓ W → ℓ i = false → (∀ j, Region.reachB .any ops j ops.size i = true → ℓ j = true ∧ F j (valOf ops v j) W) → (∀ j, Region.reachB .any ops i ops.size j = true → ℓ j = false) →
      StepOk P ops Q o (fillA a0 m v) W (fun x W' => B (fun j => j == i || ℓ j) W' ∧ M W W' ∧ F i (match o.dst with | some _ => x | none => undef) W')) ops.toList 0)
    (fin : ∀ ℓ v W, B ℓ W → (∀ j, j < ops.size → ℓ j = true) → (∀ j, j < ops.size → F j (valOf ops v j) W) → Q .normal (fillA a0 m v) W) :
    (Code.region id ops true).wp P Q a0 w := by
  refine wp_region_any hm ?_
  refine wpAny_all (regB0_back hr) (fun l a W => ∃ v, a = fillA a0 m v ∧ B (fun j => l.getD j false) W ∧ ∀ j, l.getD j false = true → F j (valOf ops v j) W) ?_ ?_ ops.size _ _ _ (by simp) ?_ ?_ ?_
  · intro l a W i o hs hcl hI ho hun hd K hK
    have hlt : i < ops.size := (Array.getElem?_eq_some_iff.1 ho).1
    obtain ⟨v, rfl, hBW, hF⟩ := hI
    have hif : l.getD i false = false := by
      simp only [Array.getD_eq_getD_getElem?, Array.getElem?_eq_getElem (show i < l.size by omega), Option.getD_some] at hun ⊢
      exact hun
    have hst := AllOps.get step (i := i) (o := o) (by simpa using ho) (fun j => l.getD j false) v W hBW (by rw [Nat.zero_add]; exact hif) (fun j hj => (fun hl => ⟨hl, hF j hl⟩) (by
      rw [Nat.zero_add] at hj
      have hdone : ListedClosed .any ops (l.setIfInBounds i true) := hcl.set (mem_ready.2 ⟨hun, o, ho, hd⟩)
      have h1 := Region.reach_listed hdone _ _ hj (by
        simp only [Array.getD_eq_getD_getElem?, Array.getElem?_setIfInBounds_self_of_lt (show i < l.size by omega), Option.getD_some])
      by_cases h : j = i
      · subst h
        exfalso
        have back : ∀ (fuel d : Nat), Region.reachB .any ops j fuel d = true → j < d := by
          intro fuel
          induction fuel with
          | zero => intro d h; simp [Region.reachB] at h
          | succ fuel ih =>
            intro d h
            unfold Region.reachB at h
            cases hod : ops[d]? with
            | none => rw [hod] at h; simp at h
            | some od =>
              rw [hod] at h
              obtain ⟨e, he, h1⟩ := Array.any_eq_true'.1 h
              simp only [Bool.and_eq_true, Bool.or_eq_true, beq_iff_eq] at h1
              have h2 := backB_spec (regB0_back hr) hod e he h1.1
              rcases h1.2 with h3 | h3
              · omega
              · have := ih _ h3; omega
        have := back _ _ hj
        omega
      · rwa [getD_set_ne false (Ne.symm h)] at h1)) (fun j hj => by
        rw [Nat.zero_add] at hj
        cases hl : l.getD j false with
        | false => rfl
        | true => have := Region.reach_listed hcl _ _ hj hl; rw [hif] at this; cases this)
    rw [Nat.zero_add] at hst
    have hset : (fun j => (l.setIfInBounds i true).getD j false) = (fun j => j == i || l.getD j false) := by
      funext j
      by_cases h : j = i
      · subst h
        simp only [Array.getD_eq_getD_getElem?, Array.getElem?_setIfInBounds_self_of_lt (show j < l.size by omega), Option.getD_some, beq_self_eq_true, Bool.true_or]
      · rw [getD_set_ne false (Ne.symm h)]
        simp [h]
    refine hst K fun x W' hg => hK _ _ ?_
    dsimp only at hg
    obtain ⟨hB', hMW, hFx⟩ := hg
    cases hdst : o.dst with
    | none =>
      refine ⟨v, rfl, by rw [hset]; exact hB', fun j hj => ?_⟩
      by_cases h : j = i
      · subst h
        have hv : valOf ops v j = undef := by simp [valOf, dstOf, ho, hdst]
        rw [hv]
        rw [hdst] at hFx
        exact hFx
      · rw [getD_set_ne false (Ne.symm h)] at hj
        exact hM j _ W W' hMW (hF j hj)
    | some d =>
      have hdo : dstOf ops i = some d := by simp [dstOf, ho, hdst]
      refine ⟨upv v d x, fill_put (regB0_in hr hdo), by rw [hset]; exact hB', fun j hj => ?_⟩
      by_cases h : j = i
      · subst h
        have hv : valOf ops (upv v d x) j = x := by simp only [valOf, hdo, upv_same]
        rw [hv]
        rw [hdst] at hFx
        exact hFx
      · rw [getD_set_ne false (Ne.symm h)] at hj
        rw [valOf_up0 hr hdo h]
        exact hM j _ W W' hMW (hF j hj)
  · intro l a W hI hall
    obtain ⟨v, rfl, hBW, hF⟩ := hI
    exact fin _ v W hBW hall (fun j hj => hF j (hall j hj))
  · simp
  · intro j oj _ hl
    rw [getD_replicate_false] at hl
    cases hl
  · refine ⟨_, (fill_start a0 m).symm, ?_, fun j hj => by rw [getD_replicate_false] at hj; cases hj⟩
    have : (fun j => (Array.replicate ops.size false).getD j false) = fun _ => false := funext fun j => getD_replicate_false _ _
    rw [this]
    exact hB
end
def TwoB (w1 w2 w3 : World) : Bool → Bool → World → Prop
  | _, true, W => Drawn0 w3 W
  | true, false, W => Drawn0 w2 W
  | false, false, W => Drawn0 w1 W
/-- Two stores, s and t: what the world is ahead of both, between, and behind. -/
def Two (w1 w2 w3 : World) (s t : Nat) (ℓ : Nat → Bool) (W : World) : Prop := TwoB w1 w2 w3 (ℓ s) (ℓ t) W
section
variable {w1 w2 w3 W W' : World} {s t i : Nat} {ℓ : Nat → Bool}
theorem Two.keep (h : Two w1 w2 w3 s t ℓ W) (h1 : i ≠ s) (h2 : i ≠ t) : Two w1 w2 w3 s t (fun j => j == i || ℓ j) W := by
  have e1 : (s == i || ℓ s) = ℓ s := by simp [Ne.symm h1]
  have e2 : (t == i || ℓ t) = ℓ t := by simp [Ne.symm h2]
  show TwoB w1 w2 w3 (s == i || ℓ s) (t == i || ℓ t) W
  rw [e1, e2]
  exact h
theorem Two.none_ (h : Two w1 w2 w3 s t ℓ W) (hs : ℓ s = false) (ht : ℓ t = false) : Drawn0 w1 W := by
  unfold Two at h
  rwa [hs, ht] at h
theorem Two.one_ (h : Two w1 w2 w3 s t ℓ W) (hs : ℓ s = true) (ht : ℓ t = false) : Drawn0 w2 W := by
  unfold Two at h
  rwa [hs, ht] at h
theorem Two.done_ (h : Two w1 w2 w3 s t ℓ W) (ht : ℓ t = true) : Drawn0 w3 W := by
  unfold Two at h
  rw [ht] at h
  cases ℓ s <;> exact h
theorem Two.mk2 (h : Drawn0 w2 W) (ht : ℓ t = false) (hst : s ≠ t) : Two w1 w2 w3 s t (fun j => j == s || ℓ j) W := by
  show TwoB w1 w2 w3 (s == s || ℓ s) (t == s || ℓ t) W
  rw [show (t == s || ℓ t) = false by simp [Ne.symm hst, ht], show (s == s || ℓ s) = true by simp]
  exact h
theorem Two.mk3 (h : Drawn0 w3 W) : Two w1 w2 w3 s t (fun j => j == t || ℓ j) W := by
  show TwoB w1 w2 w3 (s == t || ℓ s) (t == t || ℓ t) W
  rw [show (t == t || ℓ t) = true by simp]
  cases (s == t || ℓ s) <;> exact h
theorem Two.start (h : Drawn0 w1 W) : Two w1 w2 w3 s t (fun _ => false) W := h
theorem drawn_set (w : World) (n : Nat) (a : Addr) (x : Value) : Drawn0 (w.setCell a x) ((w.drewN n).setCell a x) := ⟨⟨n, rfl⟩⟩
end
end Go.Proofs.YtdmeocoehahopaaDoor.RI
namespace Go.Proofs.YtdmeocoehahopaaDoor.Sort
open Go.RowKit Go.Proofs.YtdmeocoehahopaaDoorW.PrintWords Go.Proofs.YtdmeocoehahopaaDoorW.PrintLast Go.Proofs.YtdmeocoehahopaaDoorW.PrintMore Go.Proofs.YtdmeocoehahopaaDoor.K Go.Proofs.YtdmeocoehahopaaDoor.RI
set_option linter.unusedVariables false
set_option linter.unusedSimpArgs false
/-- Block g, of c cells, begins with the numbers xs. -/
structure Dat (W : World) (g c : Nat) (xs : List Int) : Prop where
  at_ : ∀ j, j < xs.length → W.cell? ⟨g, j, none⟩ = some (.int .i64 (xs.getD j 0)) ∧ W.frozen? ⟨g, j, none⟩ = false
  blk : ∃ cur, W.heap[g]? = some (.cells cur 3 (0, 0)) ∧ cur.size = c
structure DatM (B g c : Nat) (w w' : World) (xs : List Int) : Prop where
  dat : Dat w' g c xs
  keep : KeepBut w w' g none
  bel : Below B w w'
theorem DatM.refl {B g c : Nat} {w : World} {xs : List Int} (h : Dat w g c xs) : DatM B g c w w xs := ⟨h, KeepBut.refl _ _ _, Below.refl _ _⟩
theorem DatM.drawn {B g c : Nat} {w w1 w2 : World} {xs : List Int} (h : DatM B g c w w1 xs) (hd : Drawn0 w1 w2) : DatM B g c w w2 xs := by
  obtain ⟨n, rfl⟩ := hd
  exact ⟨⟨h.dat.at_, h.dat.blk⟩, h.keep, h.bel.trans (pw_below_drewN (Below.refl _ _) n)⟩
theorem DatM.trans {B g c : Nat} {w w1 w2 : World} {xs ys : List Int} (h : DatM B g c w w1 xs) (k : DatM B g c w1 w2 ys) : DatM B g c w w2 ys := ⟨k.dat, h.keep.trans k.keep (.inl rfl), h.bel.trans k.bel⟩
theorem Dat.set {W : World} {g c : Nat} {xs : List Int} (h : Dat W g c xs) (j : Nat) (x : Int) (hj : j < xs.length) : Dat (W.setCell ⟨g, j, none⟩ (.int .i64 x)) g c (xs.set j x) := by
  refine ⟨fun i hi => ?_, ?_⟩
  · rw [List.length_set] at hi
    have hf : (W.setCell ⟨g, j, none⟩ (.int .i64 x)).frozen? ⟨g, i, none⟩ = W.frozen? ⟨g, i, none⟩ := by simp
    refine ⟨?_, by rw [hf]; exact (h.at_ i hi).2⟩
    by_cases e : i = j
    · subst e
      rw [List.getD_eq_getElem?_getD, List.getElem?_set_self (by omega)]
      exact World.cell?_setCell_same' _ _ _ (by rw [(h.at_ i hi).1]; rfl)
    · rw [List.getD_eq_getElem?_getD, List.getElem?_set_ne (fun h => e h.symm), ← List.getD_eq_getElem?_getD]
      rw [← (h.at_ i hi).1]
      have hne : (⟨g, j, none⟩ : Addr) ≠ ⟨g, i, none⟩ := fun h2 => e (by injection h2 with _ h3; exact h3.symm)
      exact World.cell?_setCell_other W _ _ _ hne
  · obtain ⟨cur, h1, h2⟩ := h.blk
    exact ⟨_, blk_set h1 j _, by rw [Array.size_setIfInBounds]; exact h2⟩
theorem DatM.set {B g c : Nat} {w w1 : World} {xs : List Int} (h : DatM B g c w w1 xs) (hB : B ≤ g) (j : Nat) (x : Int) (hj : j < xs.length) : DatM B g c w (w1.setCell ⟨g, j, none⟩ (.int .i64 x)) (xs.set j x) :=
  ⟨h.dat.set j x hj, h.keep.set_ _ _, h.bel.setCell hB _⟩
/-- Again a row of the call's own. -/
theorem Dat.own {W : World} {g c : Nat} {xs : List Int} (h : Dat W g c xs) (h1 : xs.length ≤ c) (h2 : c ≤ maxLen) : W.ownsRow g 3 1 (.slice (some ⟨g, 0, none⟩) xs.length c) xs.length (nums .i64 xs) := by
  obtain ⟨cur, hb, hs⟩ := h.blk
  refine ⟨by simp [nums], .inr ⟨g, c, cur, rfl, Nat.le_refl _, hb, h1, h2, by rw [hs, Nat.mul_one], ?_⟩⟩
  rw [Nat.mul_one]
  refine List.ext_getElem (by simp [nums, hs]; omega) fun j h3 h4 => ?_
  have hj : j < xs.length := by simpa [nums] using h4
  have h5 := (h.at_ j hj).1
  rw [blk_cell hb j] at h5
  simp only [List.getElem_take, nums, List.getElem_map]
  rw [Array.getElem?_eq_getElem (by omega)] at h5
  have h6 := Option.some.inj h5
  simp only [Array.getElem_toList]
  rw [h6, List.getD_eq_getElem?_getD, List.getElem?_eq_getElem hj]
  rfl
/-- What a comparison answers, whatever became of the row that is sorted. -/
structure Cmp (fid : Nat) (fa lb : Array Value) (cf : Int → Int → Int) (D : Int → Prop) (B g : Nat) (w : World) : Prop where
  enters : ∀ args w, (callFunc fid args).run Tryd.prog w = .ok (.enter fid args) w
  calls : ∀ x y W, D x → D y → KeepBut w W g none → Below B w W → Calls Tryd.prog fid (fa ++ (#[.int .i64 x, .int .i64 y] ++ lb)) W fun e W' => e = .returned (.int .i64 (cf x y)) ∧ Drawn0 W W'
theorem Cmp.later {fid : Nat} {fa lb : Array Value} {cf : Int → Int → Int} {D : Int → Prop} {B g c : Nat} {w w1 : World} {xs : List Int} (h : Cmp fid fa lb cf D B g w) (k : DatM B g c w w1 xs) : Cmp fid fa lb cf D B g w1 := ⟨h.enters, fun x y W hx hy hk hb => h.calls x y W hx hy (k.keep.trans hk (.inl rfl)) (k.bel.trans hb)⟩
/-- Neighbours k - 1 and k changed. -/
def swp (xs : List Int) (k : Nat) : List Int := (xs.set (k + 1) (xs.getD k 0)).set k (xs.getD (k + 1) 0)
def insIn (lt : Int → Int → Bool) (a : Nat) : Nat → List Int → List Int
  | 0, xs => xs
  | j + 1, xs => if a < j + 1 ∧ lt (xs.getD (j + 1) 0) (xs.getD j 0) = true then insIn lt a j (swp xs j) else xs
def insOut (lt : Int → Int → Bool) (a : Nat) : Nat → List Int → List Int
  | 0, xs => xs
  | m + 1, xs => insIn lt a (a + 1 + m) (insOut lt a m xs)
theorem swp_length (xs : List Int) (k : Nat) : (swp xs k).length = xs.length := by simp [swp]
theorem insIn_length (lt : Int → Int → Bool) (a : Nat) : ∀ (j : Nat) (xs : List Int), (insIn lt a j xs).length = xs.length
  | 0, xs => rfl
  | j + 1, xs => by
    unfold insIn
    split
    · rw [insIn_length lt a j, swp_length]
    · rfl
theorem insIn_self (lt : Int → Int → Bool) (a : Nat) (xs : List Int) : insIn lt a a xs = xs := by
  cases a with
  | zero => rfl
  | succ p => unfold insIn; rw [if_neg (by omega)]
theorem insOut_length (lt : Int → Int → Bool) (a : Nat) (xs : List Int) : ∀ m, (insOut lt a m xs).length = xs.length
  | 0 => rfl
  | m + 1 => by unfold insOut; rw [insIn_length, insOut_length lt a xs m]
theorem all_set {D : Int → Prop} {xs : List Int} (h : ∀ x ∈ xs, D x) (j : Nat) {x : Int} (hx : D x) : ∀ y ∈ xs.set j x, D y := fun y hy => by
  rcases List.mem_or_eq_of_mem_set hy with h1 | h1
  · exact h y h1
  · rw [h1]; exact hx
theorem getD_all {D : Int → Prop} {xs : List Int} (h : ∀ x ∈ xs, D x) {j : Nat} (hj : j < xs.length) : D (xs.getD j 0) := by
  rw [List.getD_eq_getElem?_getD, List.getElem?_eq_getElem hj]
  exact h _ (List.getElem_mem hj)
theorem swp_all {D : Int → Prop} {xs : List Int} (h : ∀ x ∈ xs, D x) {k : Nat} (hk : k + 1 < xs.length) : ∀ x ∈ swp xs k, D x := all_set (all_set h _ (getD_all h (by omega))) _ (getD_all h hk)
def ltOf (cf : Int → Int → Int) (x y : Int) : Bool := decide (cf x y < 0)
def InsSw (g n c p : Nat) (u y : Int) (iv : Nat) (xv : Value) : Prop := match iv with
  | 0 => xv = .slice (some ⟨g, 0, none⟩) n c
  | 1 => xv = .int .i64 ((p : Int) + 1)
  | 2 => xv = .slice (some ⟨g, 0, none⟩) n c
  | 3 => xv = .int .i64 ((p : Int) + 1)
  | 4 => xv = .int .i64 (p : Int)
  | 5 => xv = .slice (some ⟨g, 0, none⟩) n c
  | 6 => xv = .int .i64 ((p : Int) + 1)
  | 7 => xv = .int .i64 (p : Int)
  | 8 => xv = .pointer (some ⟨g, p, none⟩)
  | 9 => xv = .int .i64 y
  | 10 => xv = .slice (some ⟨g, 0, none⟩) n c
  | 11 => xv = .int .i64 ((p : Int) + 1)
  | 12 => xv = .pointer (some ⟨g, p + 1, none⟩)
  | 13 => xv = .int .i64 u
  | 14 => xv = .pointer (some ⟨g, p + 1, none⟩)
  | 16 => xv = .pointer (some ⟨g, p, none⟩)
  | _ => True
def InsOn (fid : Nat) (fa lb : Array Value) (g n c a p : Nat) (u y r : Int) (iv : Nat) (xv : Value) : Prop := match iv with
  | 0 => xv = .int .i64 ((p : Int) + 1)
  | 1 => xv = .int .i64 (a : Int)
  | 2 => xv = .bool true
  | 3 => xv = .bool true
  | 4 => xv = .func (.func fid) fa lb
  | 5 => xv = .slice (some ⟨g, 0, none⟩) n c
  | 6 => xv = .int .i64 ((p : Int) + 1)
  | 7 => xv = .pointer (some ⟨g, p + 1, none⟩)
  | 8 => xv = .int .i64 u
  | 9 => xv = .slice (some ⟨g, 0, none⟩) n c
  | 10 => xv = .int .i64 ((p : Int) + 1)
  | 11 => xv = .int .i64 (p : Int)
  | 12 => xv = .pointer (some ⟨g, p, none⟩)
  | 13 => xv = .int .i64 y
  | 14 => xv = .int .i64 r
  | 15 => xv = .bool (decide (r < 0))
  | 16 => xv = .bool (decide (r < 0))
  | _ => True
def InsOff (a j : Nat) (iv : Nat) (xv : Value) : Prop := match iv with
  | 0 => xv = .int .i64 (j : Int)
  | 1 => xv = .int .i64 (a : Int)
  | 2 => xv = .bool false
  | 3 => xv = .bool false
  | 4 => xv = undef
  | 5 => xv = undef
  | 6 => xv = undef
  | 7 => xv = undef
  | 8 => xv = undef
  | 9 => xv = undef
  | 10 => xv = undef
  | 11 => xv = undef
  | 12 => xv = undef
  | 13 => xv = undef
  | 14 => xv = undef
  | 15 => xv = undef
  | 16 => xv = .bool false
  | _ => True
set_option maxHeartbeats 8000000 in
set_option maxRecDepth 100000 in
theorem insertion_calls (fid : Nat) (fa lb : Array Value) (cf : Int → Int → Int) (D : Int → Prop) (g n c B a b : Nat) (xs : List Int) (w : World) (hCmp : Cmp fid fa lb cf D B g w) (hxs : Dat w g c xs) (hn : xs.length = n) (hD : ∀ x ∈ xs, D x) (hB : B ≤ g) (hab : a ≤ b) (hbn : b ≤ n) (hm : n ≤ 1000000) :
    Calls Tryd.prog 74 #[.slice (some ⟨g, 0, none⟩) n c, .int .i64 (a : Int), .int .i64 (b : Int), .func (.func fid) fa lb] w fun e w' => e = .returned (.tuple #[]) ∧ DatM B g c w w' (insOut (ltOf cf) a (b - (a + 1)) xs) := by
  have hent := hCmp.enters
  have HCmp := Aside0.mk hCmp
  have HX := Aside0.mk (DatM.refl (B := B) hxs)
  have HD := Aside0.mk hD
  have HB := Aside0.mk hB
  have HN := Aside0.mk hn
  clear hCmp hxs hD hB hn
  go_enter Tryd.func74, Tryd.ntmps74
  go_wp2_with (fail)
  go_loopw [8] (fun i wr => ∃ m : Nat, (m = 0 ∨ a + 1 + m ≤ b) ∧ i = .int .i64 ((a : Int) + 1 + (m : Int)) ∧ Aside0 (DatM B g c w wr (insOut (ltOf cf) a m xs) ∧ ∀ x ∈ insOut (ltOf cf) a m xs, D x)) (fun i _ => b - (intOf i).toNat)
  case atStart => exact ⟨0, .inl rfl, by simp, ⟨HX.out, HD.out⟩⟩
  case round =>
    obtain ⟨m, hmm, rfl, HR⟩ := hrel
    by_cases hlt : a + 1 + m < b
    · obtain ⟨wo, rfl⟩ : ∃ wo : World, wo = wr := ⟨_, rfl⟩
      have HL : Aside0 ((insOut (ltOf cf) a m xs).length = n) := ⟨by rw [insOut_length, HN.out]⟩
      have HO : Aside0 (insOut (ltOf cf) a (m + 1) xs = insIn (ltOf cf) a (a + 1 + m) (insOut (ltOf cf) a m xs)) := ⟨rfl⟩
      have hltD : decide ((a : Int) + 1 + (m : Int) < (b : Int)) = true := by simp; omega
      generalize insOut (ltOf cf) a m xs = ys at *
      go_wp2_with (fail)
      go_loopw [9] (fun i wr => ∃ j : Nat, j ≤ a + 1 + m ∧ a ≤ j ∧ i = .int .i64 (j : Int) ∧ Aside0 (∃ us : List Int, DatM B g c w wr us ∧ (∀ x ∈ us, D x) ∧ us.length = n ∧ insIn (ltOf cf) a j us = insIn (ltOf cf) a (a + 1 + m) ys)) (fun i _ => (intOf i).toNat)
      case atStart => exact ⟨a + 1 + m, Nat.le_refl _, by omega, by go_num, ⟨ys, HR.out.1, HR.out.2, HL.out, rfl⟩⟩
      case round =>
        obtain ⟨j, hj1, hj2, rfl, HI⟩ := hrel
        obtain ⟨us, hU⟩ := HI.out
        have HU := Aside0.mk hU
        clear HI hU
        obtain ⟨wi, rfl⟩ : ∃ wi : World, wi = wr := ⟨_, rfl⟩
        by_cases hja : a < j
        · obtain ⟨p, rfl⟩ : ∃ p, j = p + 1 := ⟨j - 1, by omega⟩
          have hp1 : p + 1 < us.length := by have := HU.out.2.2.1; omega
          have hcu := (HU.out.1.dat.at_ (p + 1) hp1).1
          have hcy := (HU.out.1.dat.at_ p (by omega)).1
          have hfu := (HU.out.1.dat.at_ (p + 1) hp1).2
          have hfy := (HU.out.1.dat.at_ p (by omega)).2
          have HDu : Aside0 (D (us.getD (p + 1) 0)) := ⟨getD_all HU.out.2.1 hp1⟩
          have HDy : Aside0 (D (us.getD p 0)) := ⟨getD_all HU.out.2.1 (by omega)⟩
          have HM : Aside0 (DatM B g c w wi us) := ⟨HU.out.1⟩
          have HS : Aside0 (∃ s1 s2, s1 = us.getD (p + 1) 0 ∧ s2 = us.getD p 0) := ⟨⟨_, _, rfl, rfl⟩⟩
          obtain ⟨u, y, hu, hy⟩ := HS.out
          rw [← hu] at hcu HDu
          rw [← hy] at hcy HDy
          have HE := Aside0.mk (And.intro hu hy)
          have HIn : Aside0 (insIn (ltOf cf) a (p + 1) us = if a < p + 1 ∧ ltOf cf (us.getD (p + 1) 0) (us.getD p 0) = true then insIn (ltOf cf) a p (swp us p) else us) := ⟨rfl⟩
          have hpn1 : p + 1 < n := by have := HU.out.2.2.1; omega
          clear hu hy HS hp1
          rw [show ((p + 1 : Nat) : Int) = (p : Int) + 1 from Int.natCast_add p 1]
          go_upto_region 4 with (fail)
          go_cut [34] from 18 to 34 (fun s34 wx => s34 = .bool (ltOf cf u y) ∧ Drawn0 wi wx)
          case first =>
            clear hfu hfy
            refine wp_region_fin [false, false, false, false, false, false, false, false, false, false, false, false, false, false, false, false, false, false, true, true, true, true, true, true, true, true, true, true, true, true, true, true, true, true, true] (by kernel_rfl) (by kernel_rfl) (fun W => Drawn0 wi W) (fun W W' => True) (fun iv xv _ => InsOn fid fa lb g n c a p u y (cf u y) iv xv) (fun _ _ _ _ _ _ h => h) ⟨⟨1, rfl⟩⟩ ?_ ?_
            · refine ⟨?_, ?_, ?_, ?_, ?_, ?_, ?_, ?_, ?_, ?_, ?_, ?_, ?_, ?_, ?_, ?_, ?_, trivial⟩
              · intro v W hb hd
                obtain ⟨⟨nd, rfl⟩⟩ := hb
                refine step_list fun K hK => ?_
                simp only [fill_lit, fillL, Act.put, List.setIfInBounds_toArray, List.set_cons_zero, List.set_cons_succ, Nat.reduceAdd] at hK ⊢
                clear hd
                go_wp2
                exact ⟨⟨⟨nd, rfl⟩⟩, trivial, rfl⟩
              · intro v W hb hd
                obtain ⟨⟨nd, rfl⟩⟩ := hb
                refine step_list fun K hK => ?_
                simp only [fill_lit, fillL, Act.put, List.setIfInBounds_toArray, List.set_cons_zero, List.set_cons_succ, Nat.reduceAdd] at hK ⊢
                clear hd
                go_wp2
                exact ⟨⟨⟨nd, rfl⟩⟩, trivial, rfl⟩
              · intro v W hb hd
                obtain ⟨⟨nd, rfl⟩⟩ := hb
                have h0 : v 18 = .int .i64 ((p : Int) + 1) := hd 0 (by kernel_rfl)
                have h1 : v 19 = .int .i64 (a : Int) := hd 1 (by kernel_rfl)
                refine step_list fun K hK => ?_
                simp only [fill_lit, fillL, Act.put, List.setIfInBounds_toArray, List.set_cons_zero, List.set_cons_succ, Nat.reduceAdd] at hK ⊢
                rw [h0, h1] at hK ⊢
                clear hd h0 h1
                go_wp2
                exact ⟨⟨⟨nd, rfl⟩⟩, trivial, congrArg Value.bool (decide_eq_true (by omega))⟩
              · intro v W hb hd
                obtain ⟨⟨nd, rfl⟩⟩ := hb
                have h2 : v 20 = .bool true := hd 2 (by kernel_rfl)
                refine step_list fun K hK => ?_
                simp only [fill_lit, fillL, Act.put, List.setIfInBounds_toArray, List.set_cons_zero, List.set_cons_succ, Nat.reduceAdd] at hK ⊢
                rw [h2] at hK ⊢
                clear hd h2
                go_wp2
                exact ⟨⟨⟨nd, rfl⟩⟩, trivial, rfl⟩
              · intro v W hb hd
                obtain ⟨⟨nd, rfl⟩⟩ := hb
                have h3 : v 21 = .bool true := hd 3 (by kernel_rfl)
                refine step_list fun K hK => ?_
                simp only [fill_lit, fillL, Act.put, List.setIfInBounds_toArray, List.set_cons_zero, List.set_cons_succ, Nat.reduceAdd] at hK ⊢
                rw [h3] at hK ⊢
                clear hd h3
                go_wp2
                exact ⟨⟨⟨nd, rfl⟩⟩, trivial, rfl⟩
              · intro v W hb hd
                obtain ⟨⟨nd, rfl⟩⟩ := hb
                have h3 : v 21 = .bool true := hd 3 (by kernel_rfl)
                refine step_list fun K hK => ?_
                simp only [fill_lit, fillL, Act.put, List.setIfInBounds_toArray, List.set_cons_zero, List.set_cons_succ, Nat.reduceAdd] at hK ⊢
                rw [h3] at hK ⊢
                clear hd h3
                go_wp2
                exact ⟨⟨⟨nd, rfl⟩⟩, trivial, rfl⟩
              · intro v W hb hd
                obtain ⟨⟨nd, rfl⟩⟩ := hb
                have h3 : v 21 = .bool true := hd 3 (by kernel_rfl)
                refine step_list fun K hK => ?_
                simp only [fill_lit, fillL, Act.put, List.setIfInBounds_toArray, List.set_cons_zero, List.set_cons_succ, Nat.reduceAdd] at hK ⊢
                rw [h3] at hK ⊢
                clear hd h3
                go_wp2
                exact ⟨⟨⟨nd, rfl⟩⟩, trivial, rfl⟩
              · intro v W hb hd
                obtain ⟨⟨nd, rfl⟩⟩ := hb
                have h5 : v 23 = .slice (some ⟨g, 0, none⟩) n c := hd 5 (by kernel_rfl)
                have h6 : v 24 = .int .i64 ((p : Int) + 1) := hd 6 (by kernel_rfl)
                have h3 : v 21 = .bool true := hd 3 (by kernel_rfl)
                refine step_list fun K hK => ?_
                simp only [fill_lit, fillL, Act.put, List.setIfInBounds_toArray, List.set_cons_zero, List.set_cons_succ, Nat.reduceAdd] at hK ⊢
                rw [h5, h6, h3] at hK ⊢
                clear hd h5 h6 h3
                go_wp2
                exact ⟨⟨⟨nd, rfl⟩⟩, trivial, rfl⟩
              · intro v W hb hd
                obtain ⟨⟨nd, rfl⟩⟩ := hb
                have hu : (wi.drewN nd).cell? ⟨g, p + 1, none⟩ = some (.int .i64 u) := hcu
                have h7 : v 25 = .pointer (some ⟨g, p + 1, none⟩) := hd 7 (by kernel_rfl)
                have h3 : v 21 = .bool true := hd 3 (by kernel_rfl)
                refine step_list fun K hK => ?_
                simp only [fill_lit, fillL, Act.put, List.setIfInBounds_toArray, List.set_cons_zero, List.set_cons_succ, Nat.reduceAdd] at hK ⊢
                rw [h7, h3] at hK ⊢
                clear hd h7 h3
                go_wp2
                exact ⟨⟨⟨nd, rfl⟩⟩, trivial, rfl⟩
              · intro v W hb hd
                obtain ⟨⟨nd, rfl⟩⟩ := hb
                have h3 : v 21 = .bool true := hd 3 (by kernel_rfl)
                refine step_list fun K hK => ?_
                simp only [fill_lit, fillL, Act.put, List.setIfInBounds_toArray, List.set_cons_zero, List.set_cons_succ, Nat.reduceAdd] at hK ⊢
                rw [h3] at hK ⊢
                clear hd h3
                go_wp2
                exact ⟨⟨⟨nd, rfl⟩⟩, trivial, rfl⟩
              · intro v W hb hd
                obtain ⟨⟨nd, rfl⟩⟩ := hb
                have h3 : v 21 = .bool true := hd 3 (by kernel_rfl)
                refine step_list fun K hK => ?_
                simp only [fill_lit, fillL, Act.put, List.setIfInBounds_toArray, List.set_cons_zero, List.set_cons_succ, Nat.reduceAdd] at hK ⊢
                rw [h3] at hK ⊢
                clear hd h3
                go_wp2
                exact ⟨⟨⟨nd, rfl⟩⟩, trivial, rfl⟩
              · intro v W hb hd
                obtain ⟨⟨nd, rfl⟩⟩ := hb
                have h10 : v 28 = .int .i64 ((p : Int) + 1) := hd 10 (by kernel_rfl)
                have h3 : v 21 = .bool true := hd 3 (by kernel_rfl)
                refine step_list fun K hK => ?_
                simp only [fill_lit, fillL, Act.put, List.setIfInBounds_toArray, List.set_cons_zero, List.set_cons_succ, Nat.reduceAdd] at hK ⊢
                rw [h10, h3] at hK ⊢
                clear hd h10 h3
                go_wp2
                exact ⟨⟨⟨nd, rfl⟩⟩, trivial, rfl⟩
              · intro v W hb hd
                obtain ⟨⟨nd, rfl⟩⟩ := hb
                have h9 : v 27 = .slice (some ⟨g, 0, none⟩) n c := hd 9 (by kernel_rfl)
                have h11 : v 29 = .int .i64 (p : Int) := hd 11 (by kernel_rfl)
                have h3 : v 21 = .bool true := hd 3 (by kernel_rfl)
                refine step_list fun K hK => ?_
                simp only [fill_lit, fillL, Act.put, List.setIfInBounds_toArray, List.set_cons_zero, List.set_cons_succ, Nat.reduceAdd] at hK ⊢
                rw [h9, h11, h3] at hK ⊢
                clear hd h9 h11 h3
                go_wp2
                exact ⟨⟨⟨nd, rfl⟩⟩, trivial, rfl⟩
              · intro v W hb hd
                obtain ⟨⟨nd, rfl⟩⟩ := hb
                have hy : (wi.drewN nd).cell? ⟨g, p, none⟩ = some (.int .i64 y) := hcy
                have h12 : v 30 = .pointer (some ⟨g, p, none⟩) := hd 12 (by kernel_rfl)
                have h3 : v 21 = .bool true := hd 3 (by kernel_rfl)
                refine step_list fun K hK => ?_
                simp only [fill_lit, fillL, Act.put, List.setIfInBounds_toArray, List.set_cons_zero, List.set_cons_succ, Nat.reduceAdd] at hK ⊢
                rw [h12, h3] at hK ⊢
                clear hd h12 h3
                go_wp2
                exact ⟨⟨⟨nd, rfl⟩⟩, trivial, rfl⟩
              · intro v W hb hd
                obtain ⟨⟨nd, rfl⟩⟩ := hb
                have h4 : v 22 = .func (.func fid) fa lb := hd 4 (by kernel_rfl)
                have h8 : v 26 = .int .i64 u := hd 8 (by kernel_rfl)
                have h13 : v 31 = .int .i64 y := hd 13 (by kernel_rfl)
                have h3 : v 21 = .bool true := hd 3 (by kernel_rfl)
                refine step_list fun K hK => ?_
                simp only [fill_lit, fillL, Act.put, List.setIfInBounds_toArray, List.set_cons_zero, List.set_cons_succ, Nat.reduceAdd] at hK ⊢
                rw [h4, h8, h13, h3] at hK ⊢
                clear hd h4 h8 h13 h3
                go_wp2_with (fail)
                refine (HCmp.out.calls u y _ HDu.out HDy.out (HM.out.drawn ⟨⟨nd, rfl⟩⟩).keep (HM.out.drawn ⟨⟨nd, rfl⟩⟩).bel).mono ?_
                rintro e W' ⟨rfl, hb'⟩
                obtain ⟨⟨ne, rfl⟩⟩ := hb'
                go_wp2_with (fail)
                exact ⟨⟨⟨nd + ne, rfl⟩⟩, trivial, rfl⟩
              · intro v W hb hd
                obtain ⟨⟨nd, rfl⟩⟩ := hb
                have h14 : v 32 = .int .i64 (cf u y) := hd 14 (by kernel_rfl)
                have h3 : v 21 = .bool true := hd 3 (by kernel_rfl)
                refine step_list fun K hK => ?_
                simp only [fill_lit, fillL, Act.put, List.setIfInBounds_toArray, List.set_cons_zero, List.set_cons_succ, Nat.reduceAdd] at hK ⊢
                rw [h14, h3] at hK ⊢
                clear hd h14 h3
                go_wp2
                exact ⟨⟨⟨nd, rfl⟩⟩, trivial, rfl⟩
              · intro v W hb hd
                obtain ⟨⟨nd, rfl⟩⟩ := hb
                have h3 : v 21 = .bool true := hd 3 (by kernel_rfl)
                have h15 : v 33 = .bool (decide (cf u y < 0)) := hd 15 (by kernel_rfl)
                refine step_list fun K hK => ?_
                simp only [fill_lit, fillL, Act.put, List.setIfInBounds_toArray, List.set_cons_zero, List.set_cons_succ, Nat.reduceAdd] at hK ⊢
                rw [h3, h15] at hK ⊢
                clear hd h3 h15
                go_wp2
                exact ⟨⟨⟨nd, rfl⟩⟩, trivial, rfl⟩
            · intro v W hb hF
              have h16 : v 34 = .bool (decide (cf u y < 0)) := hF 16 (of_decide_eq_true (by kernel_rfl))
              simp only [fill_lit, fillL, Nat.reduceAdd]
              rw [h16]
              clear hF h16
              go_wp2
              go_meet
              case rel => exact ⟨rfl, hb⟩
          case rest =>
            obtain ⟨rfl, hdr⟩ := hcut
            obtain ⟨⟨nd, rfl⟩⟩ := hdr
            have hcu2 : (wi.drewN nd).cell? ⟨g, p + 1, none⟩ = some (.int .i64 u) := hcu
            have hcy2 : (wi.drewN nd).cell? ⟨g, p, none⟩ = some (.int .i64 y) := hcy
            have hfu2 : (wi.drewN nd).frozen? ⟨g, p + 1, none⟩ = false := hfu
            have hfy2 : (wi.drewN nd).frozen? ⟨g, p, none⟩ = false := hfy
            have HM2 : Aside0 (DatM B g c w (wi.drewN nd) us) := ⟨HM.out.drawn ⟨⟨nd, rfl⟩⟩⟩
            clear hcu hcy hfu hfy HM
            generalize wi.drewN nd = wx at *
            cases hlt2 : ltOf cf u y with
            | true =>
              have HF : Aside0 (insIn (ltOf cf) a (p + 1) us = insIn (ltOf cf) a p (swp us p)) := ⟨by rw [HIn.out, if_pos ⟨hja, by rw [← HE.out.1, ← HE.out.2]; exact hlt2⟩]⟩
              clear hlt2
              have hwp : IntKind.i64.wrap (p : Int) = p := IntWalk.i64_in _ (by omega)
              have hi0 : (0 : Int) ≤ (p : Int) := by omega
              have hi1 : (p : Int) < (n : Int) := by omega
              have hi2 : (0 : Int) ≤ (p : Int) + 1 := by omega
              have hi3 : (p : Int) + 1 < (n : Int) := by omega
              have hpl : p + 1 < us.length := by have := HU.out.2.2.1; omega
              have HW : Aside0 (DatM B g c w ((wx.setCell ⟨g, p + 1, none⟩ (.int .i64 y)).setCell ⟨g, p, none⟩ (.int .i64 u)) (swp us p)) := ⟨by
                have h1 := (HM2.out.set HB.out (p + 1) (us.getD p 0) hpl).set HB.out p (us.getD (p + 1) 0) (by rw [List.length_set]; omega)
                unfold swp
                rw [HE.out.1, HE.out.2]
                exact h1⟩
              have HA : Aside0 (∀ x ∈ swp us p, D x) := ⟨swp_all HU.out.2.1 hpl⟩
              have hne : (⟨g, p + 1, none⟩ : Addr) ≠ ⟨g, p, none⟩ := by simp
              have hfy3 : (wx.setCell ⟨g, p + 1, none⟩ (.int .i64 y)).frozen? ⟨g, p, none⟩ = false := by simpa using hfy2
              have hcy3 : (wx.setCell ⟨g, p + 1, none⟩ (.int .i64 y)).cell? ⟨g, p, none⟩ = some (.int .i64 y) := (World.cell?_setCell_other wx _ _ _ hne).trans hcy2
              clear hpl hne
              go_wp2
              refine wp_region_gen [false, false, false, false, false, false, false, false, false, false, false, false, false, false, false, false, false, false, false, false, false, false, false, false, false, false, false, false, false, false, false, false, false, false, false, false, false, true, true, true, true, true, true, true, true, true, true, true, true, true, true, true, true] (by kernel_rfl) (by kernel_rfl) (Two wx (wx.setCell ⟨g, p + 1, none⟩ (.int .i64 y)) ((wx.setCell ⟨g, p + 1, none⟩ (.int .i64 y)).setCell ⟨g, p, none⟩ (.int .i64 u)) 15 17) (fun W W' => True) (fun iv xv _ => InsSw g n c p u y iv xv) (fun _ _ _ _ _ h => h) (Two.start ⟨⟨1, rfl⟩⟩) ?_ ?_
              · refine ⟨?_, ?_, ?_, ?_, ?_, ?_, ?_, ?_, ?_, ?_, ?_, ?_, ?_, ?_, ?_, ?_, ?_, ?_, trivial⟩
                · intro ℓ v W hb hl hd hu
                  refine step_list fun K hK => ?_
                  simp only [fill_lit, fillL, Act.put, List.setIfInBounds_toArray, List.set_cons_zero, List.set_cons_succ, Nat.reduceAdd] at hK ⊢
                  clear hd hu
                  go_wp2
                  exact ⟨hb.keep (by decide) (by decide), trivial, rfl⟩
                · intro ℓ v W hb hl hd hu
                  refine step_list fun K hK => ?_
                  simp only [fill_lit, fillL, Act.put, List.setIfInBounds_toArray, List.set_cons_zero, List.set_cons_succ, Nat.reduceAdd] at hK ⊢
                  clear hd hu
                  go_wp2
                  exact ⟨hb.keep (by decide) (by decide), trivial, rfl⟩
                · intro ℓ v W hb hl hd hu
                  refine step_list fun K hK => ?_
                  simp only [fill_lit, fillL, Act.put, List.setIfInBounds_toArray, List.set_cons_zero, List.set_cons_succ, Nat.reduceAdd] at hK ⊢
                  clear hd hu
                  go_wp2
                  exact ⟨hb.keep (by decide) (by decide), trivial, rfl⟩
                · intro ℓ v W hb hl hd hu
                  refine step_list fun K hK => ?_
                  simp only [fill_lit, fillL, Act.put, List.setIfInBounds_toArray, List.set_cons_zero, List.set_cons_succ, Nat.reduceAdd] at hK ⊢
                  clear hd hu
                  go_wp2
                  exact ⟨hb.keep (by decide) (by decide), trivial, rfl⟩
                · intro ℓ v W hb hl hd hu
                  have h3 : v 40 = .int .i64 ((p : Int) + 1) := (hd 3 (by kernel_rfl)).2
                  refine step_list fun K hK => ?_
                  simp only [fill_lit, fillL, Act.put, List.setIfInBounds_toArray, List.set_cons_zero, List.set_cons_succ, Nat.reduceAdd] at hK ⊢
                  rw [h3] at hK ⊢
                  clear hd hu h3
                  go_wp2
                  exact ⟨hb.keep (by decide) (by decide), trivial, rfl⟩
                · intro ℓ v W hb hl hd hu
                  refine step_list fun K hK => ?_
                  simp only [fill_lit, fillL, Act.put, List.setIfInBounds_toArray, List.set_cons_zero, List.set_cons_succ, Nat.reduceAdd] at hK ⊢
                  clear hd hu
                  go_wp2
                  exact ⟨hb.keep (by decide) (by decide), trivial, rfl⟩
                · intro ℓ v W hb hl hd hu
                  refine step_list fun K hK => ?_
                  simp only [fill_lit, fillL, Act.put, List.setIfInBounds_toArray, List.set_cons_zero, List.set_cons_succ, Nat.reduceAdd] at hK ⊢
                  clear hd hu
                  go_wp2
                  exact ⟨hb.keep (by decide) (by decide), trivial, rfl⟩
                · intro ℓ v W hb hl hd hu
                  have h6 : v 43 = .int .i64 ((p : Int) + 1) := (hd 6 (by kernel_rfl)).2
                  refine step_list fun K hK => ?_
                  simp only [fill_lit, fillL, Act.put, List.setIfInBounds_toArray, List.set_cons_zero, List.set_cons_succ, Nat.reduceAdd] at hK ⊢
                  rw [h6] at hK ⊢
                  clear hd hu h6
                  go_wp2
                  exact ⟨hb.keep (by decide) (by decide), trivial, rfl⟩
                · intro ℓ v W hb hl hd hu
                  have h5 : v 42 = .slice (some ⟨g, 0, none⟩) n c := (hd 5 (by kernel_rfl)).2
                  have h7 : v 44 = .int .i64 (p : Int) := (hd 7 (by kernel_rfl)).2
                  refine step_list fun K hK => ?_
                  simp only [fill_lit, fillL, Act.put, List.setIfInBounds_toArray, List.set_cons_zero, List.set_cons_succ, Nat.reduceAdd] at hK ⊢
                  rw [h5, h7] at hK ⊢
                  clear hd hu h5 h7
                  go_wp2
                  exact ⟨hb.keep (by decide) (by decide), trivial, rfl⟩
                · intro ℓ v W hb hl hd hu
                  obtain ⟨⟨nd, rfl⟩⟩ := hb.none_ (hu 15 (by kernel_rfl)) (hu 17 (by kernel_rfl))
                  have hld : (wx.drewN nd).cell? ⟨g, p, none⟩ = some (.int .i64 y) := hcy2
                  have h8 : v 45 = .pointer (some ⟨g, p, none⟩) := (hd 8 (by kernel_rfl)).2
                  refine step_list fun K hK => ?_
                  simp only [fill_lit, fillL, Act.put, List.setIfInBounds_toArray, List.set_cons_zero, List.set_cons_succ, Nat.reduceAdd] at hK ⊢
                  rw [h8] at hK ⊢
                  clear hd hu h8
                  go_wp2
                  exact ⟨hb.keep (by decide) (by decide), trivial, rfl⟩
                · intro ℓ v W hb hl hd hu
                  refine step_list fun K hK => ?_
                  simp only [fill_lit, fillL, Act.put, List.setIfInBounds_toArray, List.set_cons_zero, List.set_cons_succ, Nat.reduceAdd] at hK ⊢
                  clear hd hu
                  go_wp2
                  exact ⟨hb.keep (by decide) (by decide), trivial, rfl⟩
                · intro ℓ v W hb hl hd hu
                  refine step_list fun K hK => ?_
                  simp only [fill_lit, fillL, Act.put, List.setIfInBounds_toArray, List.set_cons_zero, List.set_cons_succ, Nat.reduceAdd] at hK ⊢
                  clear hd hu
                  go_wp2
                  exact ⟨hb.keep (by decide) (by decide), trivial, rfl⟩
                · intro ℓ v W hb hl hd hu
                  have h10 : v 47 = .slice (some ⟨g, 0, none⟩) n c := (hd 10 (by kernel_rfl)).2
                  have h11 : v 48 = .int .i64 ((p : Int) + 1) := (hd 11 (by kernel_rfl)).2
                  refine step_list fun K hK => ?_
                  simp only [fill_lit, fillL, Act.put, List.setIfInBounds_toArray, List.set_cons_zero, List.set_cons_succ, Nat.reduceAdd] at hK ⊢
                  rw [h10, h11] at hK ⊢
                  clear hd hu h10 h11
                  go_wp2
                  exact ⟨hb.keep (by decide) (by decide), trivial, rfl⟩
                · intro ℓ v W hb hl hd hu
                  obtain ⟨⟨nd, rfl⟩⟩ := hb.none_ (hu 15 (by kernel_rfl)) (hu 17 (by kernel_rfl))
                  have hld : (wx.drewN nd).cell? ⟨g, p + 1, none⟩ = some (.int .i64 u) := hcu2
                  have h12 : v 49 = .pointer (some ⟨g, p + 1, none⟩) := (hd 12 (by kernel_rfl)).2
                  refine step_list fun K hK => ?_
                  simp only [fill_lit, fillL, Act.put, List.setIfInBounds_toArray, List.set_cons_zero, List.set_cons_succ, Nat.reduceAdd] at hK ⊢
                  rw [h12] at hK ⊢
                  clear hd hu h12
                  go_wp2
                  exact ⟨hb.keep (by decide) (by decide), trivial, rfl⟩
                · intro ℓ v W hb hl hd hu
                  have h0 : v 37 = .slice (some ⟨g, 0, none⟩) n c := (hd 0 (by kernel_rfl)).2
                  have h1 : v 38 = .int .i64 ((p : Int) + 1) := (hd 1 (by kernel_rfl)).2
                  refine step_list fun K hK => ?_
                  simp only [fill_lit, fillL, Act.put, List.setIfInBounds_toArray, List.set_cons_zero, List.set_cons_succ, Nat.reduceAdd] at hK ⊢
                  rw [h0, h1] at hK ⊢
                  clear hd hu h0 h1
                  go_wp2
                  exact ⟨hb.keep (by decide) (by decide), trivial, rfl⟩
                · intro ℓ v W hb hl hd hu
                  obtain ⟨⟨nd, rfl⟩⟩ := hb.none_ hl (hu 17 (by kernel_rfl))
                  have hut := hu 17 (by kernel_rfl)
                  have hfz : (wx.drewN nd).frozen? ⟨g, p + 1, none⟩ = false := hfu2
                  have hcz : (wx.drewN nd).cell? ⟨g, p + 1, none⟩ = some (.int .i64 u) := hcu2
                  have h14 : v 51 = .pointer (some ⟨g, p + 1, none⟩) := (hd 14 (by kernel_rfl)).2
                  have h9 : v 46 = .int .i64 y := (hd 9 (by kernel_rfl)).2
                  refine step_list fun K hK => ?_
                  simp only [fill_lit, fillL, Act.put, List.setIfInBounds_toArray, List.set_cons_zero, List.set_cons_succ, Nat.reduceAdd] at hK ⊢
                  rw [h14, h9] at hK ⊢
                  clear hd hu h14 h9
                  go_wp2
                  exact hK undef _ ⟨Two.mk2 ⟨⟨nd, rfl⟩⟩ hut (by decide), trivial, trivial⟩
                · intro ℓ v W hb hl hd hu
                  have h2 : v 39 = .slice (some ⟨g, 0, none⟩) n c := (hd 2 (by kernel_rfl)).2
                  have h4 : v 41 = .int .i64 (p : Int) := (hd 4 (by kernel_rfl)).2
                  refine step_list fun K hK => ?_
                  simp only [fill_lit, fillL, Act.put, List.setIfInBounds_toArray, List.set_cons_zero, List.set_cons_succ, Nat.reduceAdd] at hK ⊢
                  rw [h2, h4] at hK ⊢
                  clear hd hu h2 h4
                  go_wp2
                  exact ⟨hb.keep (by decide) (by decide), trivial, rfl⟩
                · intro ℓ v W hb hl hd hu
                  obtain ⟨⟨nd, rfl⟩⟩ := hb.one_ (hd 15 (by kernel_rfl)).1 hl
                  have hfz : ((wx.setCell ⟨g, p + 1, none⟩ (.int .i64 y)).drewN nd).frozen? ⟨g, p, none⟩ = false := hfy3
                  have hcz : ((wx.setCell ⟨g, p + 1, none⟩ (.int .i64 y)).drewN nd).cell? ⟨g, p, none⟩ = some (.int .i64 y) := hcy3
                  have h16 : v 52 = .pointer (some ⟨g, p, none⟩) := (hd 16 (by kernel_rfl)).2
                  have h13 : v 50 = .int .i64 u := (hd 13 (by kernel_rfl)).2
                  refine step_list fun K hK => ?_
                  simp only [fill_lit, fillL, Act.put, List.setIfInBounds_toArray, List.set_cons_zero, List.set_cons_succ, Nat.reduceAdd] at hK ⊢
                  rw [h16, h13] at hK ⊢
                  clear hd hu h16 h13
                  go_wp2
                  exact hK undef _ ⟨Two.mk3 ⟨⟨nd, rfl⟩⟩, trivial, trivial⟩
              · intro ℓ v W hb hall hF
                obtain ⟨⟨nd, rfl⟩⟩ := hb.done_ (hall 17 (of_decide_eq_true (by kernel_rfl)))
                clear hF hall hb
                simp only [fill_lit, fillL, Nat.reduceAdd]
                have HW2 : Aside0 (DatM B g c w (((wx.setCell ⟨g, p + 1, none⟩ (.int .i64 y)).setCell ⟨g, p, none⟩ (.int .i64 u)).drewN nd) (swp us p)) := ⟨HW.out.drawn ⟨⟨nd, rfl⟩⟩⟩
                generalize (((wx.setCell ⟨g, p + 1, none⟩ (.int .i64 y)).setCell ⟨g, p, none⟩ (.int .i64 u)).drewN nd) = wz at *
                clear hcy3 hfy3 hcu2 hcy2 hfu2 hfy2
                go_wp2
                refine ⟨⟨p, by omega, by omega, rfl, ⟨swp us p, HW2.out, HA.out, by rw [swp_length]; exact HU.out.2.2.1, by rw [← HF.out]; exact HU.out.2.2.2⟩⟩, by simp [intOf]⟩
            | false =>
              have HF : Aside0 (insIn (ltOf cf) a (p + 1) us = us) := ⟨by rw [HIn.out, if_neg (by rw [← HE.out.1, ← HE.out.2, hlt2]; simp)]⟩
              clear hlt2
              go_wp2
              refine ⟨⟨m + 1, .inr (by omega), by go_num, ⟨by rw [HO.out, ← HU.out.2.2.2, HF.out]; exact HM2.out, by rw [HO.out, ← HU.out.2.2.2, HF.out]; exact HU.out.2.1⟩⟩, by simp [intOf]; omega⟩
        · obtain rfl : j = a := by omega
          have HM : Aside0 (DatM B g c w wi us) := ⟨HU.out.1⟩
          have HF := Aside0.mk (insIn_self (ltOf cf) j us)
          go_upto_region 4 with (fail)
          go_cut [34] from 18 to 34 (fun s34 wx => s34 = .bool false ∧ Drawn0 wi wx)
          case first =>
            refine wp_region_fin [false, false, false, false, false, false, false, false, false, false, false, false, false, false, false, false, false, false, true, true, true, true, true, true, true, true, true, true, true, true, true, true, true, true, true] (by kernel_rfl) (by kernel_rfl) (fun W => Drawn0 wi W) (fun W W' => True) (fun iv xv _ => InsOff j j iv xv) (fun _ _ _ _ _ _ h => h) ⟨⟨1, rfl⟩⟩ ?_ ?_
            · refine ⟨?_, ?_, ?_, ?_, ?_, ?_, ?_, ?_, ?_, ?_, ?_, ?_, ?_, ?_, ?_, ?_, ?_, trivial⟩
              · intro v W hb hd
                obtain ⟨⟨nd, rfl⟩⟩ := hb
                refine step_list fun K hK => ?_
                simp only [fill_lit, fillL, Act.put, List.setIfInBounds_toArray, List.set_cons_zero, List.set_cons_succ, Nat.reduceAdd] at hK ⊢
                clear hd
                go_wp2
                exact ⟨⟨⟨nd, rfl⟩⟩, trivial, rfl⟩
              · intro v W hb hd
                obtain ⟨⟨nd, rfl⟩⟩ := hb
                refine step_list fun K hK => ?_
                simp only [fill_lit, fillL, Act.put, List.setIfInBounds_toArray, List.set_cons_zero, List.set_cons_succ, Nat.reduceAdd] at hK ⊢
                clear hd
                go_wp2
                exact ⟨⟨⟨nd, rfl⟩⟩, trivial, rfl⟩
              · intro v W hb hd
                obtain ⟨⟨nd, rfl⟩⟩ := hb
                have h0 : v 18 = .int .i64 (j : Int) := hd 0 (by kernel_rfl)
                have h1 : v 19 = .int .i64 (j : Int) := hd 1 (by kernel_rfl)
                refine step_list fun K hK => ?_
                simp only [fill_lit, fillL, Act.put, List.setIfInBounds_toArray, List.set_cons_zero, List.set_cons_succ, Nat.reduceAdd] at hK ⊢
                rw [h0, h1] at hK ⊢
                clear hd h0 h1
                go_wp2
                exact ⟨⟨⟨nd, rfl⟩⟩, trivial, rfl⟩
              · intro v W hb hd
                obtain ⟨⟨nd, rfl⟩⟩ := hb
                have h2 : v 20 = .bool false := hd 2 (by kernel_rfl)
                refine step_list fun K hK => ?_
                simp only [fill_lit, fillL, Act.put, List.setIfInBounds_toArray, List.set_cons_zero, List.set_cons_succ, Nat.reduceAdd] at hK ⊢
                rw [h2] at hK ⊢
                clear hd h2
                go_wp2
                exact ⟨⟨⟨nd, rfl⟩⟩, trivial, rfl⟩
              · intro v W hb hd
                obtain ⟨⟨nd, rfl⟩⟩ := hb
                have h3 : v 21 = .bool false := hd 3 (by kernel_rfl)
                refine step_list fun K hK => ?_
                simp only [fill_lit, fillL, Act.put, List.setIfInBounds_toArray, List.set_cons_zero, List.set_cons_succ, Nat.reduceAdd] at hK ⊢
                rw [h3] at hK ⊢
                clear hd h3
                go_wp2
                exact ⟨⟨⟨nd, rfl⟩⟩, trivial, rfl⟩
              · intro v W hb hd
                obtain ⟨⟨nd, rfl⟩⟩ := hb
                have h3 : v 21 = .bool false := hd 3 (by kernel_rfl)
                refine step_list fun K hK => ?_
                simp only [fill_lit, fillL, Act.put, List.setIfInBounds_toArray, List.set_cons_zero, List.set_cons_succ, Nat.reduceAdd] at hK ⊢
                rw [h3] at hK ⊢
                clear hd h3
                go_wp2
                exact ⟨⟨⟨nd, rfl⟩⟩, trivial, rfl⟩
              · intro v W hb hd
                obtain ⟨⟨nd, rfl⟩⟩ := hb
                have h3 : v 21 = .bool false := hd 3 (by kernel_rfl)
                refine step_list fun K hK => ?_
                simp only [fill_lit, fillL, Act.put, List.setIfInBounds_toArray, List.set_cons_zero, List.set_cons_succ, Nat.reduceAdd] at hK ⊢
                rw [h3] at hK ⊢
                clear hd h3
                go_wp2
                exact ⟨⟨⟨nd, rfl⟩⟩, trivial, rfl⟩
              · intro v W hb hd
                obtain ⟨⟨nd, rfl⟩⟩ := hb
                have h5 : v 23 = undef := hd 5 (by kernel_rfl)
                have h6 : v 24 = undef := hd 6 (by kernel_rfl)
                have h3 : v 21 = .bool false := hd 3 (by kernel_rfl)
                refine step_list fun K hK => ?_
                simp only [fill_lit, fillL, Act.put, List.setIfInBounds_toArray, List.set_cons_zero, List.set_cons_succ, Nat.reduceAdd] at hK ⊢
                rw [h5, h6, h3] at hK ⊢
                clear hd h5 h6 h3
                go_wp2
                exact ⟨⟨⟨nd, rfl⟩⟩, trivial, rfl⟩
              · intro v W hb hd
                obtain ⟨⟨nd, rfl⟩⟩ := hb
                have h7 : v 25 = undef := hd 7 (by kernel_rfl)
                have h3 : v 21 = .bool false := hd 3 (by kernel_rfl)
                refine step_list fun K hK => ?_
                simp only [fill_lit, fillL, Act.put, List.setIfInBounds_toArray, List.set_cons_zero, List.set_cons_succ, Nat.reduceAdd] at hK ⊢
                rw [h7, h3] at hK ⊢
                clear hd h7 h3
                go_wp2
                exact ⟨⟨⟨nd, rfl⟩⟩, trivial, rfl⟩
              · intro v W hb hd
                obtain ⟨⟨nd, rfl⟩⟩ := hb
                have h3 : v 21 = .bool false := hd 3 (by kernel_rfl)
                refine step_list fun K hK => ?_
                simp only [fill_lit, fillL, Act.put, List.setIfInBounds_toArray, List.set_cons_zero, List.set_cons_succ, Nat.reduceAdd] at hK ⊢
                rw [h3] at hK ⊢
                clear hd h3
                go_wp2
                exact ⟨⟨⟨nd, rfl⟩⟩, trivial, rfl⟩
              · intro v W hb hd
                obtain ⟨⟨nd, rfl⟩⟩ := hb
                have h3 : v 21 = .bool false := hd 3 (by kernel_rfl)
                refine step_list fun K hK => ?_
                simp only [fill_lit, fillL, Act.put, List.setIfInBounds_toArray, List.set_cons_zero, List.set_cons_succ, Nat.reduceAdd] at hK ⊢
                rw [h3] at hK ⊢
                clear hd h3
                go_wp2
                exact ⟨⟨⟨nd, rfl⟩⟩, trivial, rfl⟩
              · intro v W hb hd
                obtain ⟨⟨nd, rfl⟩⟩ := hb
                have h10 : v 28 = undef := hd 10 (by kernel_rfl)
                have h3 : v 21 = .bool false := hd 3 (by kernel_rfl)
                refine step_list fun K hK => ?_
                simp only [fill_lit, fillL, Act.put, List.setIfInBounds_toArray, List.set_cons_zero, List.set_cons_succ, Nat.reduceAdd] at hK ⊢
                rw [h10, h3] at hK ⊢
                clear hd h10 h3
                go_wp2
                exact ⟨⟨⟨nd, rfl⟩⟩, trivial, rfl⟩
              · intro v W hb hd
                obtain ⟨⟨nd, rfl⟩⟩ := hb
                have h9 : v 27 = undef := hd 9 (by kernel_rfl)
                have h11 : v 29 = undef := hd 11 (by kernel_rfl)
                have h3 : v 21 = .bool false := hd 3 (by kernel_rfl)
                refine step_list fun K hK => ?_
                simp only [fill_lit, fillL, Act.put, List.setIfInBounds_toArray, List.set_cons_zero, List.set_cons_succ, Nat.reduceAdd] at hK ⊢
                rw [h9, h11, h3] at hK ⊢
                clear hd h9 h11 h3
                go_wp2
                exact ⟨⟨⟨nd, rfl⟩⟩, trivial, rfl⟩
              · intro v W hb hd
                obtain ⟨⟨nd, rfl⟩⟩ := hb
                have h12 : v 30 = undef := hd 12 (by kernel_rfl)
                have h3 : v 21 = .bool false := hd 3 (by kernel_rfl)
                refine step_list fun K hK => ?_
                simp only [fill_lit, fillL, Act.put, List.setIfInBounds_toArray, List.set_cons_zero, List.set_cons_succ, Nat.reduceAdd] at hK ⊢
                rw [h12, h3] at hK ⊢
                clear hd h12 h3
                go_wp2
                exact ⟨⟨⟨nd, rfl⟩⟩, trivial, rfl⟩
              · intro v W hb hd
                obtain ⟨⟨nd, rfl⟩⟩ := hb
                have h4 : v 22 = undef := hd 4 (by kernel_rfl)
                have h8 : v 26 = undef := hd 8 (by kernel_rfl)
                have h13 : v 31 = undef := hd 13 (by kernel_rfl)
                have h3 : v 21 = .bool false := hd 3 (by kernel_rfl)
                refine step_list fun K hK => ?_
                simp only [fill_lit, fillL, Act.put, List.setIfInBounds_toArray, List.set_cons_zero, List.set_cons_succ, Nat.reduceAdd] at hK ⊢
                rw [h4, h8, h13, h3] at hK ⊢
                clear hd h4 h8 h13 h3
                go_wp2
                exact ⟨⟨⟨nd, rfl⟩⟩, trivial, rfl⟩
              · intro v W hb hd
                obtain ⟨⟨nd, rfl⟩⟩ := hb
                have h14 : v 32 = undef := hd 14 (by kernel_rfl)
                have h3 : v 21 = .bool false := hd 3 (by kernel_rfl)
                refine step_list fun K hK => ?_
                simp only [fill_lit, fillL, Act.put, List.setIfInBounds_toArray, List.set_cons_zero, List.set_cons_succ, Nat.reduceAdd] at hK ⊢
                rw [h14, h3] at hK ⊢
                clear hd h14 h3
                go_wp2
                exact ⟨⟨⟨nd, rfl⟩⟩, trivial, rfl⟩
              · intro v W hb hd
                obtain ⟨⟨nd, rfl⟩⟩ := hb
                have h3 : v 21 = .bool false := hd 3 (by kernel_rfl)
                have h15 : v 33 = undef := hd 15 (by kernel_rfl)
                refine step_list fun K hK => ?_
                simp only [fill_lit, fillL, Act.put, List.setIfInBounds_toArray, List.set_cons_zero, List.set_cons_succ, Nat.reduceAdd] at hK ⊢
                rw [h3, h15] at hK ⊢
                clear hd h3 h15
                go_wp2
                exact ⟨⟨⟨nd, rfl⟩⟩, trivial, rfl⟩
            · intro v W hb hF
              have h16 : v 34 = .bool false := hF 16 (of_decide_eq_true (by kernel_rfl))
              simp only [fill_lit, fillL, Nat.reduceAdd]
              rw [h16]
              clear hF h16
              go_wp2
              go_meet
              case rel => exact ⟨rfl, hb⟩
          case rest =>
            obtain ⟨rfl, hdr⟩ := hcut
            have HM2 := Aside0.mk (HM.out.drawn hdr)
            clear hdr
            go_wp2
            refine ⟨⟨m + 1, .inr (by omega), by go_num, ⟨by rw [HO.out, ← HU.out.2.2.2, HF.out]; exact HM2.out, by rw [HO.out, ← HU.out.2.2.2, HF.out]; exact HU.out.2.1⟩⟩, by simp [intOf]; omega⟩
    · have hltD : decide ((a : Int) + 1 + (m : Int) < (b : Int)) = false := by simp; omega
      have HF : Aside0 (DatM B g c w wr (insOut (ltOf cf) a (b - (a + 1)) xs)) := ⟨by
        rw [show b - (a + 1) = m by omega]
        exact HR.out.1⟩
      go_wp2
      go_end0
      exact ⟨rfl, HF.out⟩
end Go.Proofs.YtdmeocoehahopaaDoor.Sort
namespace Go.Proofs.YtdmeocoehahopaaDoor.Sort
open Go.RowKit Go.Proofs.YtdmeocoehahopaaDoorW.PrintWords Go.Proofs.YtdmeocoehahopaaDoorW.PrintLast Go.Proofs.YtdmeocoehahopaaDoorW.PrintMore Go.Proofs.YtdmeocoehahopaaDoor.K Go.Proofs.YtdmeocoehahopaaDoor.RI
set_option linter.unusedVariables false
set_option linter.unusedSimpArgs false
set_option maxHeartbeats 4000000 in
set_option maxRecDepth 100000 in
theorem stable_small_calls (fid : Nat) (fa lb : Array Value) (cf : Int → Int → Int) (D : Int → Prop) (g n c B : Nat) (xs : List Int) (w : World) (hCmp : Cmp fid fa lb cf D B g w) (hxs : Dat w g c xs) (hn : xs.length = n) (hD : ∀ x ∈ xs, D x) (hB : B ≤ g) (h20 : n < 20) :
    Calls Tryd.prog 69 #[.slice (some ⟨g, 0, none⟩) n c, .int .i64 (n : Int), .func (.func fid) fa lb] w fun e w' => e = .returned (.tuple #[]) ∧ DatM B g c w w' (insOut (ltOf cf) 0 (n - 1) xs) := by
  have HC := Aside0.mk (insertion_calls fid fa lb cf D g n c B 0 n xs w hCmp hxs hn hD hB (Nat.zero_le _) (Nat.le_refl _) (by omega))
  have hd1 : decide ((20 : Int) ≤ (n : Int)) = false := by simp; omega
  have hd2 : decide ((20 : Int) < (n : Int)) = false := by simp; omega
  clear hCmp hxs hn hD hB
  go_enter Tryd.func69, Tryd.ntmps69
  go_wp2_with (fail)
  refine wp_loop_rounds 1 ?_
  rw [rounds_succ]
  go_wp2_with (fail)
  refine HC.out.mono ?_
  rintro e w' ⟨rfl, hm⟩
  have HM := Aside0.mk hm
  clear hm
  go_wp2_with (fail)
  refine wp_loop_rounds 1 ?_
  rw [rounds_succ]
  go_wp2_with (fail)
  go_end0
  exact ⟨rfl, HM.out⟩
set_option maxHeartbeats 4000000 in
theorem sortstable_small_calls (fid : Nat) (fa lb : Array Value) (cf : Int → Int → Int) (D : Int → Prop) (g n c B : Nat) (xs : List Int) (w : World) (hCmp : Cmp fid fa lb cf D B g w) (hxs : Dat w g c xs) (hn : xs.length = n) (hD : ∀ x ∈ xs, D x) (hB : B ≤ g) (h20 : n < 20) :
    Calls Tryd.prog 60 #[.slice (some ⟨g, 0, none⟩) n c, .func (.func fid) fa lb] w fun e w' => e = .returned (.tuple #[]) ∧ DatM B g c w w' (insOut (ltOf cf) 0 (n - 1) xs) := by
  have HC := Aside0.mk (stable_small_calls fid fa lb cf D g n c B xs w hCmp hxs hn hD hB h20)
  clear hCmp hxs hn hD hB
  go_enter Tryd.func60, Tryd.ntmps60
  go_wp2_with (fail)
  refine HC.out.mono ?_
  rintro e w' ⟨rfl, hm⟩
  go_wp2_with (fail)
  go_end0
  exact ⟨rfl, hm⟩
end Go.Proofs.YtdmeocoehahopaaDoor.Sort
namespace Go.Proofs.YtdmeocoehahopaaDoor.CloneI
open Go.RowKit Go.Proofs.YtdmeocoehahopaaDoorW.PrintWords Go.Proofs.YtdmeocoehahopaaDoorW.PrintLast Go.Proofs.YtdmeocoehahopaaDoorW.PrintMore Go.Proofs.YtdmeocoehahopaaDoor.K
theorem info_i64 : (Tryd.prog.info? 3).map (fun i => (i.zero, i.size, i.bytes)) = some (some (.int .i64 0), 1, 8) := by kernel_rfl
set_option maxHeartbeats 400000 in
theorem clonei_calls (A : Option Addr) (n c : Nat) (l : List Int) (w : World) (hr0 : Kd.C (Kd.int .i64) w A n l) (hb : n ≤ 1000000) :
    Calls Tryd.prog 59 #[.slice A n c] w fun e w' => ∃ v0_ : Value, e = .returned (v0_) ∧ Kd.R (Kd.int .i64) 3 w' w.heap.size (fun _ => True) v0_ l ∧ Below w.heap.size w w' := by
  have HR0 := Aside0.mk (reads_int hr0)
  have HN := Aside0.mk (C_len hr0)
  have HL := Aside0.mk hb
  clear hr0 hb
  cases A with
  | none =>
    have h0 : l = [] := by
      have h1 := HR0.out
      have h2 := HN.out
      rcases Nat.eq_zero_or_pos n with h | h
      · exact List.eq_nil_of_length_eq_zero (by omega)
      · obtain ⟨_, h3, _⟩ := h1.2.2 h
        cases h3
    subst h0
    have hnil := fun (w : World) => Lib.run_eql_slice_nil (P := Tryd.prog) w 41 3 none n c 0 0 Tryd.underlying41
    go_enter Tryd.func59, Tryd.ntmps59
    go_wp2
    go_ret
    exact ⟨_, rfl, R_int (own_nil _ _ _ _), Below.refl _ _⟩
  | some a =>
    have hnil := fun (w : World) => Lib.run_eql_slice_nil (P := Tryd.prog) w 41 3 (some a) n c 0 0 Tryd.underlying41
    go_enter Tryd.func59, Tryd.ntmps59
    go_wp2_with (at_builtin; refine print_append_row (w0 := w) w.heap.size rfl (.tmp 5) (.tmp 6) 41 3 .i64 8 rfl Tryd.underlying41 info_i64 (by decide) (.slice (some ⟨w.heap.size, 0, none⟩) 0 0) [] l (some a) n c rfl rfl (own_lit w w.heap.size 3 .i64 [] (Nat.le_refl _) (by decide)) ((HR0.out).below (bel_alloc (Below.refl _ _) _)) (bel_alloc (Below.refl _ _) _) (bel_size (Below.refl _ _) _) (by have := HL.out; simp; omega) ?_; intro v1 w1 ho hb hg hat; have HO1 := Aside0.mk ho; have HB1 := Aside0.mk hb; clear ho hb hg hat)
    go_ret
    exact ⟨_, rfl, R_int (by simpa using HO1.out), HB1.out⟩
end Go.Proofs.YtdmeocoehahopaaDoor.CloneI
namespace Go.Proofs.YtdmeocoehahopaaDoor.Fixed
open Go.RowKit Go.Proofs.YtdmeocoehahopaaDoorW.PrintWords Go.Proofs.YtdmeocoehahopaaDoorW.PrintLast Go.Proofs.YtdmeocoehahopaaDoorW.PrintMore Go.Proofs.YtdmeocoehahopaaDoor.K
set_option linter.unusedVariables false
def inR (n : Int) : Bool := decide (-2147483648 ≤ n ∧ n ≤ 2147483647)
def toldV (n : Int) : Int × Int := if inR n = true then (n, 0) else (0, 17)
def prodV (a b : Int) : Int := (a * b + 32768) / 65536
def addV (a b : Int) : Int × Int := if inR a = true ∧ inR b = true then toldV (a + b) else (0, 10)
def mulV (a b : Int) : Int × Int := if inR a = true ∧ inR b = true then toldV (prodV a b) else (0, 10)
def divV (a b : Int) : Int × Int := if inR a = true ∧ inR b = true then (if b = 0 then (0, 26) else toldV (Int.fdiv (a * 65536) b)) else (0, 10)
theorem inR_true {n : Int} (h : inR n = true) : -2147483648 ≤ n ∧ n ≤ 2147483647 := of_decide_eq_true h
theorem inR_false {n : Int} (h : inR n = false) : n < -2147483648 ∨ 2147483647 < n := by
  have := of_decide_eq_false h
  omega
theorem one_int (w : World) (x : Int) : Kd.C (Kd.int .i64) (w.alloc (.cells #[.int .i64 x] 3)) (some ⟨w.heap.size, 0, none⟩) 1 [x] := C_int (reads_lit w .i64 3 [x] (by simp))
theorem two_ints (w : World) (x y : Int) : Kd.C (Kd.int .i64) (w.alloc (.cells #[.int .i64 x, .int .i64 y] 3)) (some ⟨w.heap.size, 0, none⟩) 2 [x, y] := C_int (reads_lit w .i64 3 [x, y] (by simp))
set_option maxHeartbeats 1000000 in
theorem check_n (A : Option Addr) (n c : Nat) (xs : List Int) (w : World) (hx : Kd.C (Kd.int .i64) w A n xs) (r : Int) (hr : (if xs.all inR = true then 0 else 10) = r) :
    Calls Tryd.prog 73 #[.slice A n c] w fun e w' => e = .returned (.int .i64 r) ∧ Drawn0 w w' := by
  obtain rfl := hx.1
  have HX := Aside0.mk hx
  have HRr := Aside0.mk hr
  have hm := hx.2.1
  clear hx hr
  go_enter Tryd.func73, Tryd.ntmps73
  go_wp2
  go_loop [7] (fun v7 => ∃ k : Nat, k ≤ xs.length ∧ v7 = .int .i64 k ∧ Aside0 ((xs.take k).all inR = true)) (fun v7 => xs.length - (intOf v7).toNat)
  case atStart => exact ⟨0, Nat.zero_le _, rfl, ⟨by simp⟩⟩
  case round =>
    obtain ⟨k, hk, rfl, HE⟩ := hrel
    by_cases hlt : k < xs.length
    · obtain ⟨ad, rfl, hx⟩ := int_at HX.out k hlt
      have HG := Aside0.mk (show xs.take (k + 1) = xs.take k ++ [xs.getD k 0] by rw [List.take_succ_eq_append_getElem hlt]; simp [List.getElem?_eq_getElem hlt])
      have HI := Aside0.mk (show xs.getD k 0 ∈ xs by rw [List.getD_eq_getElem?_getD, List.getElem?_eq_getElem hlt]; exact List.getElem_mem hlt)
      generalize xs.getD k 0 = x at *
      have HF : Aside0 (inR x = false → r = 10) := ⟨fun h => by
        rw [← HRr.out, if_neg]
        intro h2
        have := List.all_eq_true.1 h2 x HI.out
        rw [h] at this
        cases this⟩
      rcases Int.lt_or_le x (-2147483648) with h1 | h1
      · have h1D : decide (x < -2147483648) = true := by simpa using h1
        obtain rfl := HF.out (by unfold inR; simp; omega)
        go_wp2
        go_ret
        exact ⟨rfl, ⟨0, rfl⟩⟩
      · have h1D : decide (x < -2147483648) = false := by simp; omega
        rcases Int.lt_or_le 2147483647 x with h2 | h2
        · have h2D : decide (2147483647 < x) = true := by simpa using h2
          obtain rfl := HF.out (by unfold inR; simp; omega)
          go_wp2
          go_ret
          exact ⟨rfl, ⟨0, rfl⟩⟩
        · have h2D : decide (2147483647 < x) = false := by simp; omega
          have HX2 := Aside0.mk (show inR x = true by unfold inR; simp; omega)
          go_wp2
          go_round
          case measure => simp [intOf]; omega
          case rel => exact ⟨k + 1, by omega, by go_num, ⟨by rw [HG.out, List.all_append, HE.out]; simp [HX2.out]⟩⟩
    · obtain rfl : k = xs.length := by omega
      have hr0 : r = 0 := by
        have h1 := HE.out
        rw [List.take_length] at h1
        rw [← HRr.out, if_pos h1]
      subst hr0
      go_wp2
      go_ret
      exact ⟨rfl, ⟨0, rfl⟩⟩
theorem check1_val (x : Int) : (if [x].all inR = true then (0 : Int) else 10) = if inR x = true then 0 else 10 := by simp
theorem check2_val (x y : Int) : (if [x, y].all inR = true then (0 : Int) else 10) = if inR x = true ∧ inR y = true then 0 else 10 := by simp
theorem Check_calls (x : Int) (w : World) (r : Int) (hr : (if inR x = true then 0 else 10) = r) :
    Calls Tryd.prog 68 #[.int .i64 x] w fun e w' => e = .returned (.int .i64 r) ∧ Below w.heap.size w w' := by
  have HRr := Aside0.mk hr
  clear hr
  go_enter Tryd.func68, Tryd.ntmps68
  go_wp2_with (fail)
  refine (check_n _ _ _ [x] _ (one_int w x) r (by rw [check1_val]; exact HRr.out)).mono ?_
  rintro e w1 ⟨rfl, hd⟩
  have HB := Aside0.mk (below_step (bel_alloc (Below.refl _ _) _) hd.below)
  clear hd
  go_wp2_with (fail)
  go_ret
  exact ⟨rfl, HB.out⟩
end Go.Proofs.YtdmeocoehahopaaDoor.Fixed
