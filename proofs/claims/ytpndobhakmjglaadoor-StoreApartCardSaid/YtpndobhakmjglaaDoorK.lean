/- Small words for the walks: rows of whole numbers, read and made, in the two spellings; what an append leaves. -/
import Derived.Test.YtpndobhakmjglaaDoorWMore
import Derived.Test.YtpndobhakmjglaaDoorProg
import Derived.WalkKit
import Derived.WalkSpells
import Derived.LoopN
import Derived.WalkMore
import Derived.ScopeJumps
import Derived.Laws.Rows
import Derived.Lib.SlBytesConst
namespace Go.Proofs.YtpndobhakmjglaaDoor.K
open Go.RowKit Go.Proofs.YtpndobhakmjglaaDoorW.PrintWords Go.Proofs.YtpndobhakmjglaaDoorW.PrintLast Go.Proofs.YtpndobhakmjglaaDoorW.PrintMore

theorem own_int {k : IntKind} {e : Nat} {w : World} {B : Nat} {ok : Nat → Prop} {v : Value} {xs : List Int} (h : Kd.R (Kd.int k) e w B ok v xs) : w.ownsRow B e 1 v xs.length (nums k xs) := Kd.own_of_R h
theorem R_int {k : IntKind} {e : Nat} {w : World} {B : Nat} {v : Value} {xs : List Int} (h : w.ownsRow B e 1 v xs.length (nums k xs)) : Kd.R (Kd.int k) e w B (fun _ => True) v xs := Kd.R_of_own h (fun _ _ => trivial)
theorem reads_int {k : IntKind} {w : World} {A : Option Addr} {n : Nat} {xs : List Int} (h : Kd.C (Kd.int k) w A n xs) : ReadsInt w k A n xs := Kd.reads_of_C (d := (0 : Int)) h
theorem C_int {k : IntKind} {w : World} {A : Option Addr} {n : Nat} {xs : List Int} (h : ReadsInt w k A n xs) : Kd.C (Kd.int k) w A n xs := Kd.C_of_reads (d := (0 : Int)) h
theorem own_C {k : IntKind} {e : Nat} {w : World} {B n c : Nat} {A : Option Addr} {xs : List Int} (h : w.ownsRow B e 1 (.slice A n c) xs.length (nums k xs)) : Kd.C (Kd.int k) w A xs.length xs := (Kd.R_reads' (R_int h)).2.2
theorem C_len {α : Type} {d : Kd α} {w : World} {A : Option Addr} {n : Nat} {xs : List α} (h : Kd.C d w A n xs) : xs.length = n := h.1

/-- An element of a row of rows: the slice that lies there. -/
theorem row_at {α : Type} {d : Kd α} {e : Nat} {w : World} {A : Option Addr} {n : Nat} {xs : List (List α)} (h : Kd.C (Kd.slice e d) w A n xs) (i : Nat) (h1 : i < n) :
    ∃ ad A0 c0, A = some ad ∧ w.cell? (ad.add i) = some (.slice A0 (xs.getD i []).length c0) ∧ (xs.getD i []).length ≤ c0 ∧ d.C w A0 (xs.getD i []).length (xs.getD i []) := by
  obtain ⟨ad, c, e, _, hK, hc0⟩ := Kd.C_get h ([] : List α) i (by omega) (by omega)
  have hc : ∀ j u, c[j]? = some u → w.cell? (ad.add (i * 1 + j)) = some u := hc0
  obtain ⟨A0, c0, rfl, l0, g0⟩ := hK
  exact ⟨ad, A0, c0, e, by have hq := hc 0 _ rfl; rwa [Nat.mul_one, Nat.add_zero] at hq, l0, g0⟩
/-- The same, in a later world. -/
theorem row_at' {α : Type} {d : Kd α} {e : Nat} {w w1 : World} {A : Option Addr} {n : Nat} {xs : List (List α)} (h : Kd.C (Kd.slice e d) w A n xs) (hb : Below w.heap.size w w1) (i : Nat) (h1 : i < n) :
    ∃ ad A0 c0, A = some ad ∧ w1.cell? (ad.add i) = some (.slice A0 (xs.getD i []).length c0) ∧ (xs.getD i []).length ≤ c0 ∧ d.C w A0 (xs.getD i []).length (xs.getD i []) := by
  obtain ⟨ad, A0, c0, h1, h2, h3, h4⟩ := row_at h i h1
  exact ⟨ad, A0, c0, h1, (hb.cell (World.block_lt_of_cell? w _ h2)).trans h2, h3, h4⟩
/-- The same, in whatever later world. -/
theorem row_get {α : Type} {d : Kd α} {e : Nat} {w : World} {A : Option Addr} {n : Nat} {xs : List (List α)} (h : Kd.C (Kd.slice e d) w A n xs) (i : Nat) (h1 : i < n) :
    ∃ ad A0 c0, A = some ad ∧ (∀ w2, Below w.heap.size w w2 → w2.cell? (ad.add i) = some (.slice A0 (xs.getD i []).length c0)) ∧ (xs.getD i []).length ≤ c0 ∧ d.C w A0 (xs.getD i []).length (xs.getD i []) := by
  obtain ⟨ad, A0, c0, h1, h2, h3, h4⟩ := row_at h i h1
  exact ⟨ad, A0, c0, h1, fun w2 hb => (hb.cell (World.block_lt_of_cell? w _ h2)).trans h2, h3, h4⟩
/-- A number of a row. -/
theorem int_at {k : IntKind} {w : World} {A : Option Addr} {n : Nat} {xs : List Int} (h : Kd.C (Kd.int k) w A n xs) (i : Nat) (h1 : i < n) :
    ∃ ad, A = some ad ∧ w.cell? (ad.add i) = some (.int k (xs.getD i 0)) := (reads_int h).2.2 (by omega) |>.imp fun _ h => ⟨h.1, h.2 i h1⟩
theorem int_at' {k : IntKind} {w w1 : World} {A : Option Addr} {n : Nat} {xs : List Int} (h : Kd.C (Kd.int k) w A n xs) (hb : Below w.heap.size w w1) (i : Nat) (h1 : i < n) :
    ∃ ad, A = some ad ∧ w1.cell? (ad.add i) = some (.int k (xs.getD i 0)) := int_at (Kd.C_below h hb) i h1

theorem int_cell {k : IntKind} {w w1 : World} {ad : Addr} {n : Nat} {xs : List Int} (h : Kd.C (Kd.int k) w (some ad) n xs) (hb : Below w.heap.size w w1) (i : Nat) (h1 : i < n) :
    w1.cell? (ad.add i) = some (.int k (xs.getD i 0)) := by
  obtain ⟨ad', e, hx⟩ := int_at' h hb i h1
  cases e
  exact hx
theorem row_cell {α : Type} {d : Kd α} {e : Nat} {w w1 : World} {ad : Addr} {n : Nat} {xs : List (List α)} (h : Kd.C (Kd.slice e d) w (some ad) n xs) (hb : Below w.heap.size w w1) (i : Nat) (h1 : i < n) :
    ∃ A0 c0, w1.cell? (ad.add i) = some (.slice A0 (xs.getD i []).length c0) ∧ (xs.getD i []).length ≤ c0 ∧ d.C w A0 (xs.getD i []).length (xs.getD i []) := by
  obtain ⟨ad', A0, c0, e, hx⟩ := row_at' h hb i h1
  cases e
  exact ⟨A0, c0, hx⟩
/-- 'xs[m:]' of a row that is read. -/
theorem cut_int {P : Program} {k : IntKind} (t e : TypeId) (ht : P.underlying t = some (.slice e)) {z : Value} {by_ : Nat} (hi : (P.info? e).map (fun i => (i.zero, i.size, i.bytes)) = some (some z, 1, by_)) (A : Option Addr) (c : Nat) (xs : List Int) (m : Nat) (hm : m ≤ xs.length) (hc : xs.length ≤ c) :
    ∃ A' : Option Addr, (∀ W : World, (Instr.slice t (.slice A xs.length c) (some (.int .i64 (m : Int))) none none).run P W = .ok (.slice A' (xs.drop m).length (c - m)) W) ∧
      ∀ (w : World), Kd.C (Kd.int k) w A xs.length xs → Kd.C (Kd.int k) w A' (xs.drop m).length (xs.drop m) := by
  obtain ⟨i0, hi0, hzz⟩ := Option.map_eq_some_iff.1 hi
  simp only [Prod.mk.injEq] at hzz
  obtain ⟨A', h1, h2⟩ := print_cut (P := P) t e .i64 ht hi0 hzz.2.1 A xs.length c m hm
  exact ⟨A', fun W => by rw [List.length_drop]; exact h1 W, fun w h => by rw [List.length_drop]; exact C_int (h2 w k xs hc (reads_int h))⟩
/-- 'xs[a:b]' of a row that is read. -/
theorem mid_int {P : Program} {k : IntKind} (t e : TypeId) (ht : P.underlying t = some (.slice e)) {z : Value} {by_ : Nat} (hi : (P.info? e).map (fun i => (i.zero, i.size, i.bytes)) = some (some z, 1, by_)) (A : Option Addr) (c : Nat) (xs : List Int) (a b : Int) (i n : Nat) (ha : a = i) (hb : b = ((i + n : Nat) : Int)) (hm : i + n ≤ xs.length) (hc : xs.length ≤ c) :
    ∃ A' : Option Addr, (∀ W : World, (Instr.slice t (.slice A xs.length c) (some (.int .i64 a)) (some (.int .i64 b)) none).run P W = .ok (.slice A' ((xs.drop i).take n).length (c - i)) W) ∧
      (∀ (w : World), Kd.C (Kd.int k) w A xs.length xs → Kd.C (Kd.int k) w A' ((xs.drop i).take n).length ((xs.drop i).take n)) ∧ ((xs.drop i).take n).length ≤ c - i := by
  obtain ⟨i0, hi0, hzz⟩ := Option.map_eq_some_iff.1 hi
  simp only [Prod.mk.injEq] at hzz
  subst ha hb
  obtain ⟨A', h1, h2, h3⟩ := print_mid_int (P := P) (k := k) t e ht hi0 hzz.2.1 A c xs i ((i + n : Nat) : Int) (by omega) (by omega) (by omega) hc
  simp only [Int.toNat_natCast, List.drop_take, Nat.add_sub_cancel_left] at h1 h2 h3
  exact ⟨A', h1, fun w h => C_int (h2 w (reads_int h)), h3⟩
theorem take_rows {α : Type} {d : Kd α} {w : World} {A : Option Addr} {n : Nat} {xs : List α} (m : Nat) (hm : m ≤ xs.length) (h : Kd.C d w A n xs) : Kd.C d w A m (xs.take m) := by
  obtain rfl := h.1
  have := Kd.C_take h hm
  rwa [show (xs.take m).length = m by rw [List.length_take]; omega] at this
theorem take_int {k : IntKind} {w : World} {A : Option Addr} {xs : List Int} (m : Nat) (hm : m ≤ xs.length) (h : Kd.C (Kd.int k) w A xs.length xs) : Kd.C (Kd.int k) w A m (xs.take m) := C_int ((reads_int h).take_ m hm)

/-- The cells of a block that was just made. -/
theorem reads_lit (w : World) (k : IntKind) (t : Nat) (xs : List Int) (h : xs.length ≤ 9223372036854775807) : ReadsInt (w.alloc (.cells (nums k xs).toArray t)) k (some ⟨w.heap.size, 0, none⟩) xs.length xs := by
  refine ⟨rfl, h, fun _ => ⟨_, rfl, fun j hj => ?_⟩⟩
  rw [add_plain]
  rw [World.cell?, heap_alloc_new]
  simp [nums, List.getElem?_eq_getElem hj, List.getD_eq_getElem?_getD]
/-- The same of a block whose bytes came of a constant (it bears a mark behind its last cell). -/
theorem reads_lit_fr (w : World) (k : IntKind) (t : Nat) (fr : Nat × Nat) (xs : List Int) (h : xs.length ≤ 9223372036854775807) : ReadsInt (w.alloc (.cells (nums k xs).toArray t fr)) k (some ⟨w.heap.size, 0, none⟩) xs.length xs := by
  refine ⟨rfl, h, fun _ => ⟨_, rfl, fun j hj => ?_⟩⟩
  rw [add_plain]
  rw [World.cell?, heap_alloc_new]
  simp [nums, List.getElem?_eq_getElem hj, List.getD_eq_getElem?_getD]
theorem size_drewN (W : World) (m : Nat) : (W.drewN m).heap.size = W.heap.size := rfl
/-- The slices of a block that was just made. -/
theorem rows_lit {α : Type} {d : Kd α} {e : Nat} (w : World) (t : Nat) (vs : List Value) (xs : List (List α)) (hm : xs.length ≤ 9223372036854775807)
    (h : ∀ (j : Nat) (x : List α), xs[j]? = some x → ∃ A c, vs[j]? = some (.slice A x.length c) ∧ x.length ≤ c ∧ Kd.C d w A x.length x) :
    Kd.C (Kd.slice e d) (w.alloc (.cells vs.toArray t)) (some ⟨w.heap.size, 0, none⟩) xs.length xs := by
  refine ⟨rfl, hm, fun _ => ⟨_, rfl, fun j p hj => ?_⟩⟩
  obtain ⟨A, c, h1, h2, h3⟩ := h j p hj
  refine ⟨[.slice A p.length c], rfl, ⟨A, c, rfl, h2, Kd.C_alloc h3 _⟩, fun i u hu => ?_⟩
  obtain ⟨rfl, rfl⟩ : i = 0 ∧ u = .slice A p.length c := by
    cases i with
    | zero => exact ⟨rfl, by simpa using hu.symm⟩
    | succ i => simp at hu
  rw [add_plain, World.cell?, heap_alloc_new]
  simpa [Kd.slice] using h1
theorem bel_size {w W : World} (h : Below w.heap.size w W) (o : Obj) : w.heap.size ≤ (W.alloc o).heap.size := by
  have := h.size
  simp only [World.alloc, Array.size_push]
  omega
theorem bel_alloc {w W : World} (h : Below w.heap.size w W) (o : Obj) : Below w.heap.size w (W.alloc o) := below_alloc h o

/-- A scope with one label: the code behind the label is walked once. -/
theorem wp_scope_once {P : Program} {a : Act} {w : World} {Q : Exit → Act → World → Prop} {c X : Code} (l : Nat) (J : Act → World → Prop) (μ : Act → World → Nat) (hf : findLabel c l = some (.seq .skip X))
    (pass : ∀ a w, J a w → X.wp P (Exit.jump l (fun a' w' => J a' w' ∧ μ a' w' < μ a w) Q) a w)
    (first : (∀ a w, J a w → X.wp P (Exit.jump l J Q) a w) → c.wp P (Exit.jump l J Q) a w) : (Code.scope c).wp P Q a w :=
  wp_scope_jumps l J μ hf (first fun a w hJ => Code.wp_mono (fun e a w q => by
    cases e with
    | goto l' => exact ⟨q.1, q.2.1⟩
    | _ => exact q) (pass a w hJ)) (fun a w hJ => wp_seq (wp_skip (pass a w hJ)))
theorem or_step (m x : Int) (h0 : 0 ≤ m) (h1 : m < 36028797018963968) (h2 : 0 ≤ x) (h3 : x < 256) : Go.bits .or .i64 (m * 256) x = m * 256 + x :=
  bits_join .i64 63 (by decide) (fun n h0 h1 => IntWalk.i64_in _ (by omega)) 8 _ _ (by omega) (by omega) (by omega) h2 (by omega) (by omega)
theorem byte_at {l : List Int} (hb : ∀ x ∈ l, 0 ≤ x ∧ x < 256) (i : Nat) : 0 ≤ l.getD i 0 ∧ l.getD i 0 < 256 := by
  rcases Nat.lt_or_ge i l.length with h | h
  · rw [List.getD_eq_getElem?_getD, List.getElem?_eq_getElem h]; exact hb _ (List.getElem_mem h)
  · rw [List.getD_eq_getElem?_getD, List.getElem?_eq_none h]; exact ⟨by decide, by decide⟩

theorem drawn_cell {w w1 : World} (h : Drawn0 w w1) (a : Addr) : w1.cell? a = w.cell? a := by
  obtain ⟨n, rfl⟩ := h
  rfl
theorem take_eq_step {α : Type} {xs ys : List α} (d : α) (k : Nat) (h : xs.take k = ys.take k) (h1 : k < xs.length) (h2 : k < ys.length) (he : xs.getD k d = ys.getD k d) : xs.take (k + 1) = ys.take (k + 1) := by
  rw [List.take_succ_eq_append_getElem h1, List.take_succ_eq_append_getElem h2, h]
  simp only [List.getD_eq_getElem?_getD, List.getElem?_eq_getElem h1, List.getElem?_eq_getElem h2, Option.getD_some] at he
  rw [he]
theorem Drawn0.trans_ {w w1 w2 : World} (h : Drawn0 w w1) (k : Drawn0 w1 w2) : Drawn0 w w2 := by
  obtain ⟨n, rfl⟩ := h
  obtain ⟨m, rfl⟩ := k
  exact ⟨⟨n + m, World.drewN_drewN ..⟩⟩
theorem C_fix {α : Type} {d : Kd α} {w W : World} {A : Option Addr} {n : Nat} {xs : List α} (h : Kd.C d w A n xs) (hb : Below w.heap.size w W) : Kd.C (Kd.fixed d w) W A n xs := ReadsRow.imp_ h hb (fun _ _ hp => hp)
theorem C_unfix {α : Type} {d : Kd α} {w w1 : World} (hb : Below w.heap.size w w1) {A : Option Addr} {n : Nat} {xs : List α} (h : Kd.C (Kd.fixed d w) w1 A n xs) : Kd.C d w1 A n xs :=
  ⟨h.1, h.2.1, fun hn => by
    obtain ⟨ad, e, hc⟩ := h.2.2 hn
    refine ⟨ad, e, fun j p hj => ?_⟩
    obtain ⟨c, h1, h2, h3⟩ := hc j p hj
    exact ⟨c, h1, d.K_below hb h2, h3⟩⟩
theorem C_drawn {α : Type} {d : Kd α} {w w1 : World} {A : Option Addr} {n : Nat} {xs : List α} (h : Kd.C d w A n xs) (hd : Drawn0 w w1) : Kd.C d w1 A n xs := by
  obtain ⟨m, rfl⟩ := hd
  exact Kd.C_drewN h m
theorem drewN_add (w : World) (a b c : Nat) : (w.drewN (a + b)).drewN c = w.drewN (a + (b + c)) := by rw [World.drewN_drewN, Nat.add_assoc]
theorem drew_C {α : Type} {d : Kd α} {w : World} {A : Option Addr} {n : Nat} {xs : List α} (h : Kd.C d w A n xs) (m : Nat) : Kd.C d (w.drewN m) A n xs := Kd.C_drewN h m

/-- Arrays by value: an element. -/
theorem run_size {P : Program} {e : TypeId} {z : Option Value} {sz by_ : Nat} (hi : (P.info? e).map (fun i => (i.zero, i.size, i.bytes)) = some (z, sz, by_)) (w : World) : (Go.sizeOf e).run P w = Result.ok sz w := by
  obtain ⟨i0, hi0, hzz⟩ := Option.map_eq_some_iff.1 hi
  simp only [Prod.mk.injEq] at hzz
  simp [Go.sizeOf, typeInfo, hi0, hzz.2.1, go_sem]
theorem run_isAgg {P : Program} {e : TypeId} {d : TypeDesc} (h : P.underlying e = some d) (w : World) : (isAgg e).run P w = Result.ok (match d with | .struct _ | .array _ _ => true | _ => false) w := by
  unfold isAgg
  rw [Sem.run_bind, run_underlying h w]
  cases d <;> simp_all
theorem run_index_int {P : Program} (t e : TypeId) (n : Nat) (cs : Array Value) (k ke : IntKind) (i : Nat) (h : P.underlying t = some (.array n e)) (he : P.underlying e = some (.int ke)) {z : Option Value} {by_ : Nat} (hinfo : (P.info? e).map (fun i => (i.zero, i.size, i.bytes)) = some (z, 1, by_)) (hi : i < n) (v : Value) (hv : cs[i]? = some v) (w : World) :
    (Instr.index t (.agg cs) (.int k (i : Int))).run P w = .ok v w := by
  simp only [Instr.index, asIntOf, Sem.run_bind, Sem.run_pure, Result.andThen_ok, run_underlying h]
  have hn : (0 ≤ (i : Int) ∧ (i : Int) < (n : Int)) := by omega
  rw [if_pos hn]
  simp [run_size hinfo, part, run_isAgg he, hv]
theorem run_index_agg {P : Program} (t e : TypeId) (n : Nat) (cs : Array Value) (k : IntKind) (i : Nat) (h : P.underlying t = some (.array n e)) {d : TypeDesc} (he : P.underlying e = some d) (hd : (match d with | .struct _ | .array _ _ => true | _ => false) = true) {z : Option Value} {sz by_ : Nat} (hinfo : (P.info? e).map (fun i => (i.zero, i.size, i.bytes)) = some (z, sz, by_)) (hi : i < n) (w : World) :
    (Instr.index t (.agg cs) (.int k (i : Int))).run P w = .ok (.agg (cs.extract (i * sz) (i * sz + sz))) w := by
  simp only [Instr.index, asIntOf, Sem.run_bind, Sem.run_pure, Result.andThen_ok, run_underlying h]
  have hn : (0 ≤ (i : Int) ∧ (i : Int) < (n : Int)) := by omega
  rw [if_pos hn]
  simp [run_size hinfo, part, run_isAgg he, hd]
theorem cell_new1 (w : World) (v : Value) (t : Nat) : (w.alloc (.cells #[v] t)).cell? ⟨w.heap.size, 0, none⟩ = some v := by
  rw [World.cell?, heap_alloc_new]
  rfl
theorem cell_keep {w w1 : World} {a : Addr} {v : Value} (hb : Below w.heap.size w w1) (h : w.cell? a = some v) : w1.cell? a = some v := (hb.cell (World.block_lt_of_cell? w _ h)).trans h
/-- A package-level variable's block: its cells. -/
def LaidAt (w : World) (g : Nat) (cs : Array Value) : Prop := ∃ t fr, w.heap[g]? = some (.cells cs t fr)
theorem LaidAt.below {w w1 : World} {g : Nat} {cs : Array Value} (h : LaidAt w g cs) (hb : Below w.heap.size w w1) : LaidAt w1 g cs := by
  obtain ⟨t, fr, h⟩ := h
  exact ⟨t, fr, (hb.block g (Array.getElem?_eq_some_iff.1 h).1).trans h⟩

/-- Bytes of a number, four and eight, the highest one first. -/
def be4 (n : Nat) : List Int := [(n : Int) / 16777216 % 256, (n : Int) / 65536 % 256, (n : Int) / 256 % 256, (n : Int) % 256]
def joinL (l : List (List Int)) : List Int := l.flatMap fun p => be4 p.length ++ p
theorem joinL_snoc (l : List (List Int)) (k : Nat) (h : k < l.length) : joinL (l.take (k + 1)) = joinL (l.take k) ++ be4 (l.getD k []).length ++ l.getD k [] := by
  rw [List.take_succ_eq_append_getElem h, joinL, List.flatMap_append]
  simp [joinL, List.getElem?_eq_getElem h]
theorem joinL_le (l : List (List Int)) (k : Nat) : (joinL (l.take k)).length ≤ (joinL l).length := by
  conv => rhs; rw [← List.take_append_drop k l]
  rw [joinL, joinL, List.flatMap_append, List.length_append]
  omega
/-- The eight bytes of a number, as of 64 bits. -/
def be8 (n : Int) : List Int := [n / 72057594037927936 % 256, n / 281474976710656 % 256, n / 1099511627776 % 256, n / 4294967296 % 256, n / 16777216 % 256, n / 65536 % 256, n / 256 % 256, n % 256]
theorem be8_wrap (p q : Int) (h : IntKind.u64.wrap p = q) : be8 p = be8 q ∧ 0 ≤ q := by
  rw [IntKind.wrap_u64] at h
  subst h
  refine ⟨?_, by omega⟩
  simp only [be8, List.cons.injEq, and_true]
  refine ⟨?_, ?_, ?_, ?_, ?_, ?_, ?_, ?_⟩ <;> omega
def numsL (l : List Int) : List Int := l.flatMap be8
theorem numsL_snoc (l : List Int) (k : Nat) (h : k < l.length) : numsL (l.take (k + 1)) = numsL (l.take k) ++ be8 (l.getD k 0) := by
  rw [List.take_succ_eq_append_getElem h, numsL, List.flatMap_append]
  simp [numsL, List.getElem?_eq_getElem h]
theorem numsL_len (l : List Int) : (numsL l).length = 8 * l.length := by
  induction l with
  | nil => rfl
  | cons x l ih => rw [numsL, List.flatMap_cons, List.length_append, ← numsL, ih]; simp [be8]; omega
end Go.Proofs.YtpndobhakmjglaaDoor.K
