/- sha.turn turns a state by a block. -/
import Derived.Test.YtpndobhakmjglaaDoorShaPure
import Derived.Test.YtpndobhakmjglaaDoorArrEq
import Derived.Deep.QuietTactic
import Derived.BigQuiet
import Derived.StillTailTactics
import Derived.Test.YtpndobhakmjglaaDoorQuietTail
namespace Go.Proofs.YtpndobhakmjglaaDoor.Sha
open Go.RowKit Go.Proofs.YtpndobhakmjglaaDoorW.PrintWords Go.Proofs.YtpndobhakmjglaaDoorW.PrintLast Go.Proofs.YtpndobhakmjglaaDoorW.PrintMore Go.Proofs.YtpndobhakmjglaaDoor.K
set_option linter.unusedVariables false
set_option maxHeartbeats 1000000 in
theorem round_calls (x : W32) (k : Nat) (w : World) (h : k ≤ 32) :
    Calls Tryd.prog 46 #[.int .u32 (wi x), .int .i64 (k : Int)] w fun e w' => e = .returned (.int .u32 (wi (rotr x k))) ∧ Drawn0 w w' := by
  have HR := Aside0.mk (u32_rotr x k)
  generalize wi (rotr x k) = r at *
  generalize wi x = y at *
  have h1 : (0 : Int) ≤ 32 - (k : Int) := by omega
  have h2 : (32 : Int) - (k : Int) ≤ 32 := by omega
  have h3 : IntKind.i64.wrap (32 - (k : Int)) = 32 - (k : Int) := IntWalk.i64_in _ (by omega)
  have h4 : ((32 : Int) - (k : Int)).toNat = 32 - k := by omega
  go_enter Tryd.func46, Tryd.ntmps46
  go_wp2
  go_quiet (fail)
  go_wp2
  go_ret
  exact ⟨by rw [← HR.out, IntKind.wrap_u32]; rfl, ⟨nq, rfl⟩⟩
theorem round_q (x : W32) (k : Int) (w : World) (n : Nat) (h0 : 0 ≤ k) (h : k ≤ 32) :
    Calls Tryd.prog 46 #[.int .u32 (wi x), .int .i64 k] (w.drewN n) fun e w' => e = .returned (.int .u32 (wi (rotr x k.toNat))) ∧ ∃ m, w' = w.drewN m := by
  obtain ⟨j, rfl⟩ := Int.eq_ofNat_of_zero_le h0
  refine (round_calls x j _ (by omega)).mono ?_
  rintro e w' ⟨he, m, hm⟩
  exact ⟨he, n + m, by rw [hm, World.drewN_drewN]⟩
def sArr (l : List W32) : Array Value := (nums .u32 (l.map wi)).toArray
def wcells (b : List Int) (t : Nat) : List W32 := ws b t ++ List.replicate (64 - t) 0
def constA : Array Value := sArr kL
theorem sArr_get (l : List W32) (i : Nat) (h : i < l.length) : (sArr l)[i]? = some (.int .u32 (wi (l.getD i 0))) := by
  simp [sArr, nums, List.getElem?_eq_getElem h, List.getD_eq_getElem?_getD]
theorem sArr_set (l : List W32) (i : Nat) (x : W32) : (sArr l).setIfInBounds i (.int .u32 (wi x)) = sArr (l.set i x) := by
  apply Array.ext'
  simp [sArr, nums, List.map_set]
theorem wcells_get (b : List Int) (t i : Nat) (h : i < t) : (wcells b t).getD i 0 = (ws b t).getD i 0 := by
  unfold wcells
  rw [List.getD_eq_getElem?_getD, List.getD_eq_getElem?_getD, List.getElem?_append_left (by rw [ws_length]; exact h)]
theorem wcells_set (b : List Int) (t : Nat) (h : t < 64) : (wcells b t).set t (wAt b (ws b t) t) = wcells b (t + 1) := by
  unfold wcells
  rw [List.set_append_right _ _ (by rw [ws_length]; exact Nat.le_refl _), ws_length, Nat.sub_self, show 64 - t = (64 - (t + 1)) + 1 by omega, List.replicate_succ, List.set_cons_zero]
  simp [ws]
theorem wcells_length (b : List Int) (t : Nat) (h : t ≤ 64) : (wcells b t).length = 64 := by
  unfold wcells
  rw [List.length_append, ws_length, List.length_replicate]
  omega
def TurnW (w : World) (a : Array Value) (l : List W32) (wr : World) : Prop :=
  wr.heap[w.heap.size]? = some (.cells a 74 (0, 0)) ∧ wr.heap[w.heap.size + 1]? = some (.cells (sArr (List.replicate 8 0)) 74 (0, 0)) ∧ wr.heap[w.heap.size + 1 + 1]? = some (.cells (sArr l) 85 (0, 0)) ∧ Below w.heap.size w wr
theorem alloc3 (w : World) (o1 o2 o3 : Obj) : (((w.alloc o1).alloc o2).alloc o3).heap[w.heap.size]? = some o1 ∧ (((w.alloc o1).alloc o2).alloc o3).heap[w.heap.size + 1]? = some o2 ∧ (((w.alloc o1).alloc o2).alloc o3).heap[w.heap.size + 1 + 1]? = some o3 := by
  refine ⟨?_, ?_, ?_⟩
  · show (((w.heap.push o1).push o2).push o3)[w.heap.size]? = some o1
    rw [Array.getElem?_push, if_neg (by simp only [Array.size_push]; omega), Array.getElem?_push, if_neg (by simp only [Array.size_push]; omega), Array.getElem?_push, if_pos rfl]
  · show (((w.heap.push o1).push o2).push o3)[w.heap.size + 1]? = some o2
    rw [Array.getElem?_push, if_neg (by simp only [Array.size_push]; omega), Array.getElem?_push, if_pos (by simp only [Array.size_push])]
  · show (((w.heap.push o1).push o2).push o3)[w.heap.size + 1 + 1]? = some o3
    rw [Array.getElem?_push, if_pos (by simp only [Array.size_push])]
theorem TurnW.start (w : World) (a b l : Array Value) (t1 t2 t3 : Nat) (L : List W32) (hb : b = sArr (List.replicate 8 0)) (hl : l = sArr L) (h1 : t1 = 74) (h2 : t2 = 74) (h3 : t3 = 85) : TurnW w a L (((w.alloc (.cells a t1)).alloc (.cells b t2)).alloc (.cells l t3)) := by
  unfold TurnW
  rw [← hb, ← hl, ← h2, ← h3]
  obtain ⟨e1, e2, e3⟩ := alloc3 w (.cells a t1) (.cells b t2) (.cells l t3)
  rw [h1] at e1 e2 e3 ⊢
  exact ⟨by rw [e1, h2], e2, e3, bel_alloc (bel_alloc (bel_alloc (Below.refl _ _) _) _) _⟩
theorem TurnW.below {w w1 w2 : World} {a : Array Value} {l : List W32} (h : TurnW w a l w1) (hb : Below w1.heap.size w1 w2) : TurnW w a l w2 :=
  ⟨(hb.block _ (blk_lt h.1)).trans h.1, (hb.block _ (blk_lt h.2.1)).trans h.2.1, (hb.block _ (blk_lt h.2.2.1)).trans h.2.2.1, below_step h.2.2.2 hb⟩
theorem TurnW.set {w w1 : World} {a : Array Value} {l : List W32} (h : TurnW w a l w1) (i : Nat) (x : W32) : TurnW w a (l.set i x) (w1.setCell ⟨w.heap.size + 1 + 1, i, none⟩ (.int .u32 (wi x))) :=
  ⟨blk_far h.1 (by show w.heap.size ≠ w.heap.size + 1 + 1; omega) _, blk_far h.2.1 (by show w.heap.size + 1 ≠ w.heap.size + 1 + 1; omega) _, by rw [← sArr_set]; exact blk_set h.2.2.1 i _, h.2.2.2.setCell (by simp; omega) _⟩
theorem TurnW.cell {w w1 : World} {a : Array Value} {l : List W32} (h : TurnW w a l w1) (i : Nat) (hi : i < l.length) : w1.cell? ⟨w.heap.size + 1 + 1, i, none⟩ = some (.int .u32 (wi (l.getD i 0))) :=
  (blk_cell h.2.2.1 i).trans (sArr_get l i hi)
theorem TurnW.froz {w w1 : World} {a : Array Value} {l : List W32} (h : TurnW w a l w1) (i : Nat) : w1.frozen? ⟨w.heap.size + 1 + 1, i, none⟩ = false := blk_frozen h.2.2.1 i
theorem info_u8 : (Tryd.prog.info? 5).map (fun i => (i.zero, i.size, i.bytes)) = some (some (.int .u8 0), 1, 1) := by kernel_rfl
theorem blkS_set {w : World} {g t : Nat} {m : List W32} (h : w.heap[g]? = some (.cells (sArr m) t (0, 0))) (i : Nat) (x : W32) : (w.setCell ⟨g, i, none⟩ (.int .u32 (wi x))).heap[g]? = some (.cells (sArr (m.set i x)) t (0, 0)) := by
  rw [← sArr_set]
  exact blk_set h i _
theorem set8_list : ∀ (m : List W32) (hm : m.length = 8) (t : St), (((((((m.set 0 t.a).set 1 t.b).set 2 t.c).set 3 t.d).set 4 t.e).set 5 t.f).set 6 t.g).set 7 t.h = t.l
  | [_, _, _, _, _, _, _, _], _, _ => rfl
theorem blkS_set8 {w : World} {g t : Nat} {m : List W32} (h : w.heap[g]? = some (.cells (sArr m) t (0, 0))) (hm : m.length = 8) (s : St) :
    ((((((((w.setCell ⟨g, 0, none⟩ (.int .u32 (wi s.a))).setCell ⟨g, 1, none⟩ (.int .u32 (wi s.b))).setCell ⟨g, 2, none⟩ (.int .u32 (wi s.c))).setCell ⟨g, 3, none⟩ (.int .u32 (wi s.d))).setCell ⟨g, 4, none⟩ (.int .u32 (wi s.e))).setCell ⟨g, 5, none⟩ (.int .u32 (wi s.f))).setCell ⟨g, 6, none⟩ (.int .u32 (wi s.g))).setCell ⟨g, 7, none⟩ (.int .u32 (wi s.h))).heap[g]? = some (.cells (sArr s.l) t (0, 0)) := by
  have h8 := blkS_set (blkS_set (blkS_set (blkS_set (blkS_set (blkS_set (blkS_set (blkS_set h 0 s.a) 1 s.b) 2 s.c) 3 s.d) 4 s.e) 5 s.f) 6 s.g) 7 s.h
  rw [set8_list m hm s] at h8
  exact h8
/-- The second part: the state that is turned, in a block of its own. -/
def TurnS (w : World) (a : Array Value) (wl : List W32) (n : Nat) (s : St) (wr : World) : Prop :=
  TurnW w a wl wr ∧ wr.heap[n]? = some (.cells (sArr s.l) 74 (0, 0)) ∧ w.heap.size + 1 + 1 < n
theorem TurnW.other {w w1 : World} {a : Array Value} {l : List W32} (h : TurnW w a l w1) (n i : Nat) (hn : w.heap.size + 1 + 1 < n) (v : Value) : TurnW w a l (w1.setCell ⟨n, i, none⟩ v) :=
  ⟨blk_far h.1 (by show w.heap.size ≠ n; omega) _, blk_far h.2.1 (by show w.heap.size + 1 ≠ n; omega) _, blk_far h.2.2.1 (by show w.heap.size + 1 + 1 ≠ n; omega) _, h.2.2.2.setCell (by show w.heap.size ≤ n; omega) _⟩
theorem TurnS.below {w w1 w2 : World} {a : Array Value} {l : List W32} {n : Nat} {s : St} (h : TurnS w a l n s w1) (hb : Below w1.heap.size w1 w2) : TurnS w a l n s w2 :=
  ⟨h.1.below hb, (hb.block _ (blk_lt h.2.1)).trans h.2.1, h.2.2⟩
theorem TurnS.start {w w1 : World} {a : Array Value} {l : List W32} (h : TurnW w a l w1) (s : St) : TurnS w a l w1.heap.size s (w1.alloc (.cells (sArr s.l) 74)) :=
  ⟨h.below (bel_alloc (Below.refl _ _) _), heap_alloc_new _ _, by have := blk_lt h.2.2.1; omega⟩
theorem TurnS.set8 {w w1 : World} {a : Array Value} {l : List W32} {n : Nat} {s : St} (h : TurnS w a l n s w1) (t : St) :
    TurnS w a l n t ((((((((w1.setCell ⟨n, 0, none⟩ (.int .u32 (wi t.a))).setCell ⟨n, 1, none⟩ (.int .u32 (wi t.b))).setCell ⟨n, 2, none⟩ (.int .u32 (wi t.c))).setCell ⟨n, 3, none⟩ (.int .u32 (wi t.d))).setCell ⟨n, 4, none⟩ (.int .u32 (wi t.e))).setCell ⟨n, 5, none⟩ (.int .u32 (wi t.f))).setCell ⟨n, 6, none⟩ (.int .u32 (wi t.g))).setCell ⟨n, 7, none⟩ (.int .u32 (wi t.h))) :=
  ⟨(((((((h.1.other n _ h.2.2 _).other n _ h.2.2 _).other n _ h.2.2 _).other n _ h.2.2 _).other n _ h.2.2 _).other n _ h.2.2 _).other n _ h.2.2 _).other n _ h.2.2 _,
    blkS_set8 h.2.1 rfl t, h.2.2⟩
/-- The third part: row by row. -/
def TurnL (w : World) (a : Array Value) (wl : List W32) (n : Nat) (l : List W32) (wr : World) : Prop :=
  TurnW w a wl wr ∧ wr.heap[n]? = some (.cells (sArr l) 74 (0, 0)) ∧ w.heap.size + 1 + 1 < n
theorem TurnL.below {w w1 w2 : World} {a : Array Value} {l m : List W32} {n : Nat} (h : TurnL w a l n m w1) (hb : Below w1.heap.size w1 w2) : TurnL w a l n m w2 :=
  ⟨h.1.below hb, (hb.block _ (blk_lt h.2.1)).trans h.2.1, h.2.2⟩
theorem TurnL.set {w w1 : World} {a : Array Value} {l m : List W32} {n : Nat} (h : TurnL w a l n m w1) (i : Nat) (x : W32) : TurnL w a l n (m.set i x) (w1.setCell ⟨n, i, none⟩ (.int .u32 (wi x))) :=
  ⟨h.1.other n i h.2.2 _, by rw [← sArr_set]; exact blk_set h.2.1 i _, h.2.2⟩
def mix (l m : List W32) (i : Nat) : List W32 := (List.range 8).map fun j => if j < i then l.getD j 0 + m.getD j 0 else l.getD j 0
theorem mix_at (l m : List W32) (i j : Nat) (hj : j < 8) : (mix l m i).getD j 0 = if j < i then l.getD j 0 + m.getD j 0 else l.getD j 0 := by
  simp [mix, List.getD_eq_getElem?_getD, hj]
theorem mix_length (l m : List W32) (i : Nat) : (mix l m i).length = 8 := by simp [mix]
theorem mix_set (l m : List W32) (i : Nat) (hi : i < 8) : (mix l m i).set i (l.getD i 0 + m.getD i 0) = mix l m (i + 1) := by
  refine List.ext_getElem (by simp [mix]) fun j h1 h2 => ?_
  have hj : j < 8 := by simpa [mix] using h2
  simp only [mix, List.getElem_set, List.getElem_map, List.getElem_range]
  by_cases h : i = j
  · subst h
    rw [if_pos rfl, if_pos (Nat.lt_succ_self _)]
  · rw [if_neg h]
    by_cases h3 : j < i
    · rw [if_pos h3, if_pos (by omega)]
    · rw [if_neg h3, if_neg (by omega)]
theorem mix_start (s : St) (m : List W32) : mix s.l m 0 = s.l := rfl
theorem mix_end (s t : St) : mix s.l t.l 8 = (s.add t).l := rfl
theorem TurnL.out8 {w w1 : World} {a : Array Value} {l m : List W32} {n : Nat} (h : TurnL w a l n m w1) (t : St) :
    ((((((((w1.setCell ⟨w.heap.size + 1, 0, none⟩ (.int .u32 (wi t.a))).setCell ⟨w.heap.size + 1, 1, none⟩ (.int .u32 (wi t.b))).setCell ⟨w.heap.size + 1, 2, none⟩ (.int .u32 (wi t.c))).setCell ⟨w.heap.size + 1, 3, none⟩ (.int .u32 (wi t.d))).setCell ⟨w.heap.size + 1, 4, none⟩ (.int .u32 (wi t.e))).setCell ⟨w.heap.size + 1, 5, none⟩ (.int .u32 (wi t.f))).setCell ⟨w.heap.size + 1, 6, none⟩ (.int .u32 (wi t.g))).setCell ⟨w.heap.size + 1, 7, none⟩ (.int .u32 (wi t.h))).heap[w.heap.size + 1]? = some (.cells (sArr t.l) 74 (0, 0)) ∧
    Below w.heap.size w ((((((((w1.setCell ⟨w.heap.size + 1, 0, none⟩ (.int .u32 (wi t.a))).setCell ⟨w.heap.size + 1, 1, none⟩ (.int .u32 (wi t.b))).setCell ⟨w.heap.size + 1, 2, none⟩ (.int .u32 (wi t.c))).setCell ⟨w.heap.size + 1, 3, none⟩ (.int .u32 (wi t.d))).setCell ⟨w.heap.size + 1, 4, none⟩ (.int .u32 (wi t.e))).setCell ⟨w.heap.size + 1, 5, none⟩ (.int .u32 (wi t.f))).setCell ⟨w.heap.size + 1, 6, none⟩ (.int .u32 (wi t.g))).setCell ⟨w.heap.size + 1, 7, none⟩ (.int .u32 (wi t.h))) :=
  ⟨blkS_set8 h.1.2.1 (List.length_replicate ..) t,
    (((((((h.1.2.2.2.setCell (Nat.le_succ _) _).setCell (Nat.le_succ _) _).setCell (Nat.le_succ _) _).setCell (Nat.le_succ _) _).setCell (Nat.le_succ _) _).setCell (Nat.le_succ _) _).setCell (Nat.le_succ _) _).setCell (Nat.le_succ _) _⟩
theorem info_u32 : (Tryd.prog.info? 73).map (fun i => (i.zero, i.size, i.bytes)) = some (some (.int .u32 0), 1, 4) := by kernel_rfl
theorem const_at (k : Nat) (hk : k < 64) (W : World) : (Instr.index 85 (.agg constA) (.int .i64 (k : Int))).run Tryd.prog W = .ok (.int .u32 (wi (kL.getD k 0))) W :=
  run_index_int 85 73 64 constA .i64 .u32 k Tryd.underlying85 Tryd.underlying73 info_u32 hk _ (sArr_get kL k hk) W
theorem word_or (x0 x1 x2 x3 : Int) (a0 : 0 ≤ x0) (a1 : 0 ≤ x1) (a2 : 0 ≤ x2) (a3 : 0 ≤ x3) (b0 : x0 < 256) (b1 : x1 < 256) (b2 : x2 < 256) (b3 : x3 < 256) :
    Go.bits .or .u32 (x0 * 16777216) (x1 * 65536) = x0 * 16777216 + x1 * 65536 ∧ Go.bits .or .u32 (x0 * 16777216 + x1 * 65536) (x2 * 256) = x0 * 16777216 + x1 * 65536 + x2 * 256 ∧ Go.bits .or .u32 (x0 * 16777216 + x1 * 65536 + x2 * 256) x3 = x0 * 16777216 + x1 * 65536 + x2 * 256 + x3 := by
  have hk : ∀ n : Int, 0 ≤ n → n < 2 ^ 32 → IntKind.u32.wrap n = n := fun n h0 h1 => by rw [IntKind.wrap_u32]; omega
  exact ⟨bits_join .u32 32 (by decide) hk 24 _ _ (by omega) (by omega) (by omega) (by omega) (by omega) (by omega), bits_join .u32 32 (by decide) hk 16 _ _ (by omega) (by omega) (by omega) (by omega) (by omega) (by omega),
    bits_join .u32 32 (by decide) hk 8 _ _ (by omega) (by omega) (by omega) (by omega) (by omega) (by omega)⟩
theorem word_val (x0 x1 x2 x3 : Int) (a0 : 0 ≤ x0) (a1 : 0 ≤ x1) (a2 : 0 ≤ x2) (a3 : 0 ≤ x3) (b0 : x0 < 256) (b1 : x1 < 256) (b2 : x2 < 256) (b3 : x3 < 256) :
    wi (BitVec.ofInt 32 (((x0 * 256 + x1) * 256 + x2) * 256 + x3)) = x0 * 16777216 + x1 * 65536 + x2 * 256 + x3 := by
  unfold wi
  rw [BitVec.toNat_ofInt]
  omega
set_option maxHeartbeats 4000000 in
set_option maxRecDepth 100000 in
theorem turn_calls (s : St) (A : Option Addr) (c : Nat) (b : List Int) (w : World) (hb : Kd.C (Kd.int .u8) w A b.length b) (hbl : b.length = 64) (hc : 64 ≤ c) (hby : ∀ x ∈ b, 0 ≤ x ∧ x < 256) (hL : LaidAt w 1 constA) :
    Calls Tryd.prog 43 #[.agg (sArr s.l), .slice A 64 c] w fun e w' => e = .returned (.agg (sArr (turnV s b).l)) ∧ Below w.heap.size w w' := by
  have HC := Aside0.mk hb
  have HBl := Aside0.mk hbl
  have HBy := Aside0.mk hby
  have HL := Aside0.mk hL
  clear hb hby hL hbl
  obtain ⟨a, ha⟩ : ∃ a, a = sArr s.l := ⟨_, rfl⟩
  rw [← ha]
  have HA := Aside0.mk ha
  clear ha
  go_enter Tryd.func43, Tryd.ntmps43
  go_wp2
  go_loopw [19] (fun v19 wr => ∃ t : Nat, t ≤ 64 ∧ v19 = .int .i64 t ∧ Aside0 (TurnW w a (wcells b t) wr)) (fun v19 _ => 64 - (intOf v19).toNat)
  case atStart => exact ⟨0, Nat.zero_le _, rfl, ⟨TurnW.start w a _ _ _ _ _ (wcells b 0) rfl rfl rfl rfl rfl⟩⟩
  case round =>
    obtain ⟨t, ht, rfl, HW⟩ := hrel
    by_cases hlt : t < 16
    · obtain ⟨A1, hcut1, hread1⟩ := cut_int (P := Tryd.prog) (k := .u8) 22 5 Tryd.underlying22 info_u8 A c b (4 * t) (by have := HBl.out; omega) (by have := HBl.out; omega)
      have hcut : ∀ W : World, (Instr.slice 22 (.slice A 64 c) (some (.int .i64 (4 * (t : Int)))) none none).run Tryd.prog W = .ok (.slice A1 (64 - 4 * t) (c - 4 * t)) W := by
        intro W
        have := hcut1 W
        rw [HBl.out, List.length_drop, HBl.out] at this
        rw [← this]
        simp
      have HX := Aside0.mk (Kd.C_below (hread1 w HC.out) HW.out.2.2.2)
      have HWd := Aside0.mk (wcells_set b t (by omega))
      have HWa : Aside0 (wAt b (ws b t) t = BitVec.ofInt 32 (((b.getD (4 * t) 0 * 256 + b.getD (4 * t + 1) 0) * 256 + b.getD (4 * t + 2) 0) * 256 + b.getD (4 * t + 3) 0)) := ⟨if_pos hlt⟩
      have hl4 : 4 ≤ (b.drop (4 * t)).length := by rw [List.length_drop, HBl.out]; omega
      have hg : ∀ i, (b.drop (4 * t)).getD i 0 = b.getD (4 * t + i) 0 := fun i => by simp [List.getD_eq_getElem?_getD, List.getElem?_drop]
      obtain ⟨ad, rfl, hx0'⟩ := int_at HX.out 0 (by omega)
      have hx0 : wr.cell? ad = some (.int .u8 (b.getD (4 * t) 0)) := by rw [hg] at hx0'; exact hx0'
      have hx1 : wr.cell? ⟨ad.block, ad.off + 1, none⟩ = some (.int .u8 (b.getD (4 * t + 1) 0)) := by rw [← hg]; exact int_cell HX.out (Below.refl _ _) 1 (by omega)
      have hx2 : wr.cell? ⟨ad.block, ad.off + 2, none⟩ = some (.int .u8 (b.getD (4 * t + 2) 0)) := by rw [← hg]; exact int_cell HX.out (Below.refl _ _) 2 (by omega)
      have hx3 : wr.cell? ⟨ad.block, ad.off + 3, none⟩ = some (.int .u8 (b.getD (4 * t + 3) 0)) := by rw [← hg]; exact int_cell HX.out (Below.refl _ _) 3 (by omega)
      obtain ⟨a0, a0'⟩ := byte_at HBy.out (4 * t)
      obtain ⟨a1, a1'⟩ := byte_at HBy.out (4 * t + 1)
      obtain ⟨a2, a2'⟩ := byte_at HBy.out (4 * t + 2)
      obtain ⟨a3, a3'⟩ := byte_at HBy.out (4 * t + 3)
      clear hcut1 hread1 hg hx0' hl4
      generalize b.getD (4 * t) 0 = x0 at *
      generalize b.getD (4 * t + 1) 0 = x1 at *
      generalize b.getD (4 * t + 2) 0 = x2 at *
      generalize b.getD (4 * t + 3) 0 = x3 at *
      have HV := Aside0.mk (word_val x0 x1 x2 x3 a0 a1 a2 a3 a0' a1' a2' a3')
      obtain ⟨o1, o2, o3⟩ := word_or x0 x1 x2 x3 a0 a1 a2 a3 a0' a1' a2' a3'
      have hfz := HW.out.froz t
      have hst : ∃ v, wr.cell? ⟨w.heap.size + 1 + 1, t, none⟩ = some v := ⟨_, HW.out.cell t (by rw [wcells_length _ _ ht]; omega)⟩
      obtain ⟨v0, hst⟩ := hst
      have hw0 : IntKind.u32.wrap x0 = x0 := by rw [IntKind.wrap_u32]; omega
      have hw1 : IntKind.u32.wrap x1 = x1 := by rw [IntKind.wrap_u32]; omega
      have hw2 : IntKind.u32.wrap x2 = x2 := by rw [IntKind.wrap_u32]; omega
      have hw3 : IntKind.u32.wrap x3 = x3 := by rw [IntKind.wrap_u32]; omega
      have hv0 : IntKind.u32.wrap (x0 * 16777216) = x0 * 16777216 := by rw [IntKind.wrap_u32]; omega
      have hv1 : IntKind.u32.wrap (x1 * 65536) = x1 * 65536 := by rw [IntKind.wrap_u32]; omega
      have hv2 : IntKind.u32.wrap (x2 * 256) = x2 * 256 := by rw [IntKind.wrap_u32]; omega
      obtain ⟨v, hv⟩ : ∃ v, v = x0 * 16777216 + x1 * 65536 + x2 * 256 + x3 := ⟨_, rfl⟩
      rw [← hv] at o3 HV
      have HVv := Aside0.mk hv
      clear hv
      go_wp2
      go_still_tail 24, (by kernel_rfl)
      have HW2 : Aside0 (TurnW w a (wcells b t) wr.drew) := ⟨HW.out.below (below_drew (Below.refl _ _))⟩
      have hfz2 := HW2.out.froz t
      have hst2 : wr.drew.cell? ⟨w.heap.size + 1 + 1, t, none⟩ = some v0 := hst
      change wpList _ _ _ _ _ wr.drew
      generalize wr.drew = w2 at *
      go_wp2
      go_roundw
      case measure => simp [intOf]; omega
      case rel => exact ⟨t + 1, by omega, by go_num, ⟨by rw [← HWd.out, HWa.out]; have := HW2.out.set t (BitVec.ofInt 32 (((x0 * 256 + x1) * 256 + x2) * 256 + x3)); rw [HV.out] at this; exact this⟩⟩
    · by_cases hlt2 : t < 64
      · obtain ⟨m, rfl⟩ : ∃ m, t = m + 16 := ⟨t - 16, by omega⟩
        have HWd := Aside0.mk (wcells_set b (m + 16) hlt2)
        have hln : (wcells b (m + 16)).length = 64 := wcells_length _ _ ht
        have HWa : Aside0 (wAt b (ws b (m + 16)) (m + 16) = (ws b (m + 16)).getD m 0 + (ws b (m + 16)).getD (m + 9) 0 + (rotr ((ws b (m + 16)).getD (m + 1) 0) 7 ^^^ rotr ((ws b (m + 16)).getD (m + 1) 0) 18 ^^^ (ws b (m + 16)).getD (m + 1) 0 >>> 3) + (rotr ((ws b (m + 16)).getD (m + 14) 0) 17 ^^^ rotr ((ws b (m + 16)).getD (m + 14) 0) 19 ^^^ (ws b (m + 16)).getD (m + 14) 0 >>> 10)) := ⟨by rw [wAt, if_neg (by omega)]; rfl⟩
        have hc0 := HW.out.cell m (by omega)
        have hc1 := HW.out.cell (m + 1) (by omega)
        have hc9 := HW.out.cell (m + 9) (by omega)
        have hc14 := HW.out.cell (m + 14) (by omega)
        have hc16 := HW.out.cell (m + 16) (by omega)
        rw [wcells_get _ _ _ (by omega)] at hc0 hc1 hc9 hc14
        generalize (ws b (m + 16)).getD m 0 = y0 at *
        generalize (ws b (m + 16)).getD (m + 1) 0 = y1 at *
        generalize (ws b (m + 16)).getD (m + 9) 0 = y9 at *
        generalize (ws b (m + 16)).getD (m + 14) 0 = y14 at *
        generalize Value.int .u32 (wi ((wcells b (m + 16)).getD (m + 16) 0)) = v0 at *
        clear hln
        have hfz := HW.out.froz (m + 16)
        have i0 : IntKind.i64.wrap (((m + 16 : Nat) : Int) - 16) = (m : Int) := by rw [show ((m + 16 : Nat) : Int) - 16 = (m : Int) by omega]; exact IntWalk.i64_in _ (by omega)
        have i1 : IntKind.i64.wrap (((m + 16 : Nat) : Int) - 15) = ((m + 1 : Nat) : Int) := by rw [show ((m + 16 : Nat) : Int) - 15 = ((m + 1 : Nat) : Int) by omega]; exact IntWalk.i64_in _ (by omega)
        have i9 : IntKind.i64.wrap (((m + 16 : Nat) : Int) - 7) = ((m + 9 : Nat) : Int) := by rw [show ((m + 16 : Nat) : Int) - 7 = ((m + 9 : Nat) : Int) by omega]; exact IntWalk.i64_in _ (by omega)
        have i14 : IntKind.i64.wrap (((m + 16 : Nat) : Int) - 2) = ((m + 14 : Nat) : Int) := by rw [show ((m + 16 : Nat) : Int) - 2 = ((m + 14 : Nat) : Int) by omega]; exact IntWalk.i64_in _ (by omega)
        have hlt16 : 16 ≤ m + 16 := by omega
        have b0 : (m : Int) < 64 := by omega
        have b1 : ((m + 1 : Nat) : Int) < 64 := by omega
        have b9 : ((m + 9 : Nat) : Int) < 64 := by omega
        have b14 : ((m + 14 : Nat) : Int) < 64 := by omega
        have b16 : ((m + 16 : Nat) : Int) < 64 := by omega
        generalize m + 16 = t at *
        generalize m + 1 = n1 at *
        generalize m + 9 = n9 at *
        generalize m + 14 = n14 at *
        have hlt16D : decide ((t : Int) < 16) = false := by simp; omega
        clear hlt
        go_wp2
        go_quiet (fail)
        have HW1 : Aside0 (TurnW w a (wcells b t) (wr.drewN nq)) := ⟨HW.out.below (pw_below_drewN (Below.refl _ _) _)⟩
        have hc0' : (wr.drewN nq).cell? ⟨w.heap.size + 1 + 1, m, none⟩ = some (Value.int IntKind.u32 (wi y0)) := hc0
        have hc9' : (wr.drewN nq).cell? ⟨w.heap.size + 1 + 1, n9, none⟩ = some (Value.int IntKind.u32 (wi y9)) := hc9
        clear hc0 hc9 hc1 hc14 hc16 hfz HW
        generalize wr.drewN nq = w1 at *
        have ax : ∀ p q : W32, Go.bits .xor .u32 (wi p) (wi q) = wi (p ^^^ q) := u32_xor
        have a3 : ∀ q : W32, Go.bits .xor .u32 (wi q) (wi y1 / 8) = wi (q ^^^ y1 >>> 3) := fun q => by rw [show wi y1 / (8 : Int) = wi (y1 >>> 3) from u32_shr y1 3, u32_xor]
        have a10 : ∀ q : W32, Go.bits .xor .u32 (wi q) (wi y14 / 1024) = wi (q ^^^ y14 >>> 10) := fun q => by rw [show wi y14 / (1024 : Int) = wi (y14 >>> 10) from u32_shr y14 10, u32_xor]
        have ad : ∀ p q : W32, IntKind.u32.wrap (wi p + wi q) = wi (p + q) := u32_add
        go_wp2
        refine wp_region_quiet_store 33 (by kernel_rfl) rfl rfl (by kernel_rfl) ?_
        simp only [List.take_succ_cons, List.take_zero, List.cons_append, List.nil_append]
        repeat (go_big_quiet_step ((go_at_call 46; exact round_q _ _ _ _ (by decide) (by decide))))
        refine wpQuiet_nil ?_
        rintro w2 ⟨nq2, rfl⟩
        clear ax a3 a10 ad
        have HW2 : Aside0 (TurnW w a (wcells b t) (w1.drewN nq2)) := ⟨HW1.out.below (pw_below_drewN (Below.refl _ _) _)⟩
        have hfz2 := HW2.out.froz t
        have hst2 : ∃ v, (w1.drewN nq2).cell? ⟨w.heap.size + 1 + 1, t, none⟩ = some v := ⟨_, HW2.out.cell t (by rw [wcells_length _ _ ht]; omega)⟩
        obtain ⟨v2, hst2⟩ := hst2
        generalize w1.drewN nq2 = w2 at *
        go_wp2
        go_roundw
        case measure => simp [intOf]; omega
        case rel => exact ⟨t + 1, by omega, by go_num, ⟨by rw [← HWd.out, HWa.out]; exact HW2.out.set t _⟩⟩
      · obtain rfl : t = 64 := by omega
        have hw64 : wcells b 64 = ws b 64 := by simp [wcells]
        rw [hw64] at HW
        clear hw64 hlt hlt2 ht
        have hln : (ws b 64).length = 64 := ws_length b 64
        have HWl := Aside0.mk (⟨ws b 64, rfl⟩ : ∃ wl, wl = ws b 64)
        obtain ⟨wl, hwl⟩ := HWl.out
        rw [← hwl] at HW hln
        have HWl := Aside0.mk hwl
        have HLn := Aside0.mk hln
        clear hwl hln
        obtain ⟨sa, sb, sc, sd, se, sf, sg, sh⟩ := s
        obtain rfl : a = #[.int .u32 (wi sa), .int .u32 (wi sb), .int .u32 (wi sc), .int .u32 (wi sd), .int .u32 (wi se), .int .u32 (wi sf), .int .u32 (wi sg), .int .u32 (wi sh)] := HA.out
        have hs0 : wr.cell? ⟨w.heap.size, 0, none⟩ = some (.int .u32 (wi sa)) := blk_cell HW.out.1 0
        have hs1 : wr.cell? ⟨w.heap.size, 1, none⟩ = some (.int .u32 (wi sb)) := blk_cell HW.out.1 1
        have hs2 : wr.cell? ⟨w.heap.size, 2, none⟩ = some (.int .u32 (wi sc)) := blk_cell HW.out.1 2
        have hs3 : wr.cell? ⟨w.heap.size, 3, none⟩ = some (.int .u32 (wi sd)) := blk_cell HW.out.1 3
        have hs4 : wr.cell? ⟨w.heap.size, 4, none⟩ = some (.int .u32 (wi se)) := blk_cell HW.out.1 4
        have hs5 : wr.cell? ⟨w.heap.size, 5, none⟩ = some (.int .u32 (wi sf)) := blk_cell HW.out.1 5
        have hs6 : wr.cell? ⟨w.heap.size, 6, none⟩ = some (.int .u32 (wi sg)) := blk_cell HW.out.1 6
        have hs7 : wr.cell? ⟨w.heap.size, 7, none⟩ = some (.int .u32 (wi sh)) := blk_cell HW.out.1 7
        obtain ⟨lt, lfr, hblk⟩ := HL.out
        have HBk : Aside0 (∀ o : Obj, (wr.alloc o).heap[1]? = some (.cells constA lt lfr)) := ⟨fun o => by
          have h1 : wr.heap[1]? = some (.cells constA lt lfr) := (HW.out.2.2.2.block _ (blk_lt hblk)).trans hblk
          exact ((bel_alloc (Below.refl wr.heap.size wr) o).block _ (blk_lt h1)).trans h1⟩
        clear hblk
        have HS := Aside0.mk (TurnS.start HW.out ⟨sa, sb, sc, sd, se, sf, sg, sh⟩)
        go_wp2_with (with_reducible refine wpList_load_row rfl 85 (.global 1) rfl 1 rfl lt constA lfr _ (HBk.out _) Tryd.underlying85 rfl (by kernel_rfl) ?_)
        clear hs0 hs1 hs2 hs3 hs4 hs5 hs6 hs7 HA
        generalize wr.heap.size = n3 at *
        go_loopw [97] (fun v97 wr' => ∃ t : Nat, t ≤ 64 ∧ v97 = .int .i64 t ∧ Aside0 (TurnS w #[.int .u32 (wi sa), .int .u32 (wi sb), .int .u32 (wi sc), .int .u32 (wi sd), .int .u32 (wi se), .int .u32 (wi sf), .int .u32 (wi sg), .int .u32 (wi sh)] wl n3 (rs ⟨sa, sb, sc, sd, se, sf, sg, sh⟩ wl t) wr')) (fun v97 _ => 64 - (intOf v97).toNat)
        case atStart => exact ⟨0, Nat.zero_le _, rfl, HS⟩
        case round =>
          obtain ⟨t, ht, rfl, HT⟩ := hrel
          by_cases hlt : t < 64
          · have hix := const_at t hlt
            have hltI : (t : Int) < 64 := by omega
            generalize hkt : kL.getD t 0 = kt at *
            obtain ⟨wt, hwt0⟩ : ∃ wt, wl.getD t 0 = wt := ⟨_, rfl⟩
            obtain ⟨st, hst⟩ : ∃ st, st = rs ⟨sa, sb, sc, sd, se, sf, sg, sh⟩ wl t := ⟨_, rfl⟩
            rw [← hst] at HT
            obtain ⟨p0, p1, p2, p3, p4, p5, p6, p7⟩ := st
            have HN : Aside0 (rs ⟨sa, sb, sc, sd, se, sf, sg, sh⟩ wl (t + 1) = ⟨(p7 + (rotr p4 6 ^^^ rotr p4 11 ^^^ rotr p4 25) + (p6 ^^^ p4 &&& (p5 ^^^ p6)) + kt + wt) + ((rotr p0 2 ^^^ rotr p0 13 ^^^ rotr p0 22) + (p0 &&& p1 ||| p2 &&& (p0 ||| p1))), p0, p1, p2, p3 + (p7 + (rotr p4 6 ^^^ rotr p4 11 ^^^ rotr p4 25) + (p6 ^^^ p4 &&& (p5 ^^^ p6)) + kt + wt), p4, p5, p6⟩) := ⟨by
              show rnd (rs ⟨sa, sb, sc, sd, se, sf, sg, sh⟩ wl t) (kL.getD t 0) (wl.getD t 0) = _
              rw [← hst, hkt, hwt0]
              rfl⟩
            have HWt := Aside0.mk hwt0
            clear hst hkt hwt0
            have h0 : wr.cell? ⟨n3, 0, none⟩ = some (.int .u32 (wi p0)) := blk_cell HT.out.2.1 0
            have h1 : wr.cell? ⟨n3, 1, none⟩ = some (.int .u32 (wi p1)) := blk_cell HT.out.2.1 1
            have h2 : wr.cell? ⟨n3, 2, none⟩ = some (.int .u32 (wi p2)) := blk_cell HT.out.2.1 2
            have h3 : wr.cell? ⟨n3, 3, none⟩ = some (.int .u32 (wi p3)) := blk_cell HT.out.2.1 3
            have h4 : wr.cell? ⟨n3, 4, none⟩ = some (.int .u32 (wi p4)) := blk_cell HT.out.2.1 4
            have h5 : wr.cell? ⟨n3, 5, none⟩ = some (.int .u32 (wi p5)) := blk_cell HT.out.2.1 5
            have h6 : wr.cell? ⟨n3, 6, none⟩ = some (.int .u32 (wi p6)) := blk_cell HT.out.2.1 6
            have h7 : wr.cell? ⟨n3, 7, none⟩ = some (.int .u32 (wi p7)) := blk_cell HT.out.2.1 7
            go_wp2
            go_quiet (fail)
            have HT1 : Aside0 _ := ⟨HT.out.below (pw_below_drewN (Below.refl _ _) nq)⟩
            clear h0 h1 h2 h3 h4 h5 h6 h7 HT
            generalize wr.drewN nq = w1 at *
            have h0 : w1.cell? ⟨n3, 0, none⟩ = some (.int .u32 (wi p0)) := blk_cell HT1.out.2.1 0
            have h1 : w1.cell? ⟨n3, 1, none⟩ = some (.int .u32 (wi p1)) := blk_cell HT1.out.2.1 1
            have h2 : w1.cell? ⟨n3, 2, none⟩ = some (.int .u32 (wi p2)) := blk_cell HT1.out.2.1 2
            have h3 : w1.cell? ⟨n3, 3, none⟩ = some (.int .u32 (wi p3)) := blk_cell HT1.out.2.1 3
            have h4 : w1.cell? ⟨n3, 4, none⟩ = some (.int .u32 (wi p4)) := blk_cell HT1.out.2.1 4
            have h5 : w1.cell? ⟨n3, 5, none⟩ = some (.int .u32 (wi p5)) := blk_cell HT1.out.2.1 5
            have h6 : w1.cell? ⟨n3, 6, none⟩ = some (.int .u32 (wi p6)) := blk_cell HT1.out.2.1 6
            have h7 : w1.cell? ⟨n3, 7, none⟩ = some (.int .u32 (wi p7)) := blk_cell HT1.out.2.1 7
            have hwt : w1.cell? ⟨w.heap.size + 1 + 1, t, none⟩ = some (.int .u32 (wi wt)) := by rw [← HWt.out]; exact HT1.out.1.cell t (by rw [HLn.out]; exact hlt)
            have ax : ∀ p q : W32, Go.bits .xor .u32 (wi p) (wi q) = wi (p ^^^ q) := u32_xor
            have aa : ∀ p q : W32, Go.bits .and .u32 (wi p) (wi q) = wi (p &&& q) := u32_and
            have ao : ∀ p q : W32, Go.bits .or .u32 (wi p) (wi q) = wi (p ||| q) := u32_or
            have ad : ∀ p q : W32, IntKind.u32.wrap (wi p + wi q) = wi (p + q) := u32_add
            go_wp2
            go_quiet ((go_at_call 46; exact round_q _ _ _ _ (by decide) (by decide)))
            obtain ⟨P, hP⟩ : ∃ P, P = (p7 + (rotr p4 6 ^^^ rotr p4 11 ^^^ rotr p4 25) + (p6 ^^^ p4 &&& (p5 ^^^ p6)) + kt + wt) := ⟨_, rfl⟩
            rw [← hP] at HN ⊢
            clear hP hwt
            have HT2 : Aside0 _ := ⟨HT1.out.below (pw_below_drewN (Below.refl _ _) nq)⟩
            clear h0 h1 h2 h3 h4 h5 h6 h7 HT1
            generalize w1.drewN nq = w2 at *
            have h0 : w2.cell? ⟨n3, 0, none⟩ = some (.int .u32 (wi p0)) := blk_cell HT2.out.2.1 0
            have h1 : w2.cell? ⟨n3, 1, none⟩ = some (.int .u32 (wi p1)) := blk_cell HT2.out.2.1 1
            have h2 : w2.cell? ⟨n3, 2, none⟩ = some (.int .u32 (wi p2)) := blk_cell HT2.out.2.1 2
            have h3 : w2.cell? ⟨n3, 3, none⟩ = some (.int .u32 (wi p3)) := blk_cell HT2.out.2.1 3
            have h4 : w2.cell? ⟨n3, 4, none⟩ = some (.int .u32 (wi p4)) := blk_cell HT2.out.2.1 4
            have h5 : w2.cell? ⟨n3, 5, none⟩ = some (.int .u32 (wi p5)) := blk_cell HT2.out.2.1 5
            have h6 : w2.cell? ⟨n3, 6, none⟩ = some (.int .u32 (wi p6)) := blk_cell HT2.out.2.1 6
            have h7 : w2.cell? ⟨n3, 7, none⟩ = some (.int .u32 (wi p7)) := blk_cell HT2.out.2.1 7
            go_wp2
            go_quiet ((go_at_call 46; exact round_q _ _ _ _ (by decide) (by decide)))
            obtain ⟨Qv, hQ⟩ : ∃ Qv, Qv = ((rotr p0 2 ^^^ rotr p0 13 ^^^ rotr p0 22) + (p0 &&& p1 ||| p2 &&& (p0 ||| p1))) := ⟨_, rfl⟩
            rw [← hQ] at HN ⊢
            clear hQ ax aa ao
            have HT3 : Aside0 _ := ⟨HT2.out.below (pw_below_drewN (Below.refl _ _) nq)⟩
            clear h0 h1 h2 h3 h4 h5 h6 h7 HT2
            generalize w2.drewN nq = w3 at *
            have h0 : w3.cell? ⟨n3, 0, none⟩ = some (.int .u32 (wi p0)) := blk_cell HT3.out.2.1 0
            have h1 : w3.cell? ⟨n3, 1, none⟩ = some (.int .u32 (wi p1)) := blk_cell HT3.out.2.1 1
            have h2 : w3.cell? ⟨n3, 2, none⟩ = some (.int .u32 (wi p2)) := blk_cell HT3.out.2.1 2
            have h3 : w3.cell? ⟨n3, 3, none⟩ = some (.int .u32 (wi p3)) := blk_cell HT3.out.2.1 3
            have h4 : w3.cell? ⟨n3, 4, none⟩ = some (.int .u32 (wi p4)) := blk_cell HT3.out.2.1 4
            have h5 : w3.cell? ⟨n3, 5, none⟩ = some (.int .u32 (wi p5)) := blk_cell HT3.out.2.1 5
            have h6 : w3.cell? ⟨n3, 6, none⟩ = some (.int .u32 (wi p6)) := blk_cell HT3.out.2.1 6
            have h7 : w3.cell? ⟨n3, 7, none⟩ = some (.int .u32 (wi p7)) := blk_cell HT3.out.2.1 7
            have f0 : w3.frozen? ⟨n3, 0, none⟩ = false := blk_frozen HT3.out.2.1 0
            have f1 : w3.frozen? ⟨n3, 1, none⟩ = false := blk_frozen HT3.out.2.1 1
            have f2 : w3.frozen? ⟨n3, 2, none⟩ = false := blk_frozen HT3.out.2.1 2
            have f3 : w3.frozen? ⟨n3, 3, none⟩ = false := blk_frozen HT3.out.2.1 3
            have f4 : w3.frozen? ⟨n3, 4, none⟩ = false := blk_frozen HT3.out.2.1 4
            have f5 : w3.frozen? ⟨n3, 5, none⟩ = false := blk_frozen HT3.out.2.1 5
            have f6 : w3.frozen? ⟨n3, 6, none⟩ = false := blk_frozen HT3.out.2.1 6
            have f7 : w3.frozen? ⟨n3, 7, none⟩ = false := blk_frozen HT3.out.2.1 7
            have ad2 : ∀ p q : W32, (wi p + wi q) % 4294967296 = wi (p + q) := fun p q => by rw [← u32_add, IntKind.wrap_u32]
            go_wp2
            go_roundw
            case measure => simp [intOf]; omega
            case rel => exact ⟨t + 1, by omega, by go_num, ⟨by rw [HN.out]; exact HT3.out.set8 ⟨P + Qv, p0, p1, p2, p3 + P, p4, p5, p6⟩⟩⟩
          · obtain rfl : t = 64 := by omega
            clear hlt ht
            have HL0 : Aside0 (TurnL w #[.int .u32 (wi sa), .int .u32 (wi sb), .int .u32 (wi sc), .int .u32 (wi sd), .int .u32 (wi se), .int .u32 (wi sf), .int .u32 (wi sg), .int .u32 (wi sh)] wl n3 (rs ⟨sa, sb, sc, sd, se, sf, sg, sh⟩ wl 64).l wr) := HT
            have HV : Aside0 (turnV ⟨sa, sb, sc, sd, se, sf, sg, sh⟩ b = (rs ⟨sa, sb, sc, sd, se, sf, sg, sh⟩ wl 64).add ⟨sa, sb, sc, sd, se, sf, sg, sh⟩) := ⟨by rw [HWl.out]; rfl⟩
            generalize rs ⟨sa, sb, sc, sd, se, sf, sg, sh⟩ wl 64 = st at *
            clear HT
            go_wp2
            go_loopw [179] (fun v179 wr' => ∃ i : Nat, i ≤ 8 ∧ v179 = .int .i64 i ∧ Aside0 (TurnL w #[.int .u32 (wi sa), .int .u32 (wi sb), .int .u32 (wi sc), .int .u32 (wi sd), .int .u32 (wi se), .int .u32 (wi sf), .int .u32 (wi sg), .int .u32 (wi sh)] wl n3 (mix st.l [sa, sb, sc, sd, se, sf, sg, sh] i) wr')) (fun v179 _ => 8 - (intOf v179).toNat)
            case atStart => exact ⟨0, Nat.zero_le _, rfl, HL0⟩
            case round =>
              obtain ⟨i, hi, rfl, HT⟩ := hrel
              by_cases hlt : i < 8
              · have hltI : (i : Int) < 8 := by omega
                have HS2 := Aside0.mk (mix_set st.l [sa, sb, sc, sd, se, sf, sg, sh] i hlt)
                have h1 : wr.cell? ⟨n3, i, none⟩ = some (.int .u32 (wi (st.l.getD i 0))) := by rw [blk_cell HT.out.2.1 i, sArr_get _ _ (by rw [mix_length]; exact hlt), mix_at _ _ _ _ hlt, if_neg (Nat.lt_irrefl _)]
                have h2 : wr.cell? ⟨w.heap.size, i, none⟩ = some (.int .u32 (wi ([sa, sb, sc, sd, se, sf, sg, sh].getD i 0))) := by rw [blk_cell HT.out.1.1 i]; exact sArr_get [sa, sb, sc, sd, se, sf, sg, sh] i hlt
                generalize st.l.getD i 0 = x at *
                generalize [sa, sb, sc, sd, se, sf, sg, sh].getD i 0 = y at *
                have ad : IntKind.u32.wrap (wi x + wi y) = wi (x + y) := u32_add x y
                go_wp2
                refine wp_region_quiet_store 8 (by kernel_rfl) rfl rfl (by kernel_rfl) ?_
                simp only [List.take_succ_cons, List.take_zero, List.cons_append, List.nil_append]
                repeat (go_big_quiet_step (fail))
                refine wpQuiet_nil ?_
                rintro w2 ⟨nq2, rfl⟩
                have HW2 : Aside0 _ := ⟨HT.out.below (pw_below_drewN (Below.refl _ _) nq2)⟩
                clear h1 h2 HT ad
                have hfz2 : (wr.drewN nq2).frozen? ⟨n3, i, none⟩ = false := blk_frozen HW2.out.2.1 i
                have hst2 : ∃ v, (wr.drewN nq2).cell? ⟨n3, i, none⟩ = some v := ⟨_, (blk_cell HW2.out.2.1 i).trans (sArr_get _ _ (by rw [mix_length]; exact hlt))⟩
                obtain ⟨v2, hst2⟩ := hst2
                generalize wr.drewN nq2 = w2 at *
                go_wp2
                go_roundw
                case measure => simp [intOf]; omega
                case rel => exact ⟨i + 1, by omega, by go_num, ⟨by rw [← HS2.out]; exact HW2.out.set i _⟩⟩
              · obtain rfl : i = 8 := by omega
                rw [show mix st.l [sa, sb, sc, sd, se, sf, sg, sh] 8 = (st.add ⟨sa, sb, sc, sd, se, sf, sg, sh⟩).l from mix_end st ⟨sa, sb, sc, sd, se, sf, sg, sh⟩] at HT
                have HV2 := HV
                clear HV
                generalize st.add ⟨sa, sb, sc, sd, se, sf, sg, sh⟩ = r at *
                obtain ⟨p0, p1, p2, p3, p4, p5, p6, p7⟩ := r
                clear hlt hi
                have h0 : wr.cell? ⟨n3, 0, none⟩ = some (.int .u32 (wi p0)) := blk_cell HT.out.2.1 0
                have h1 : wr.cell? ⟨n3, 1, none⟩ = some (.int .u32 (wi p1)) := blk_cell HT.out.2.1 1
                have h2 : wr.cell? ⟨n3, 2, none⟩ = some (.int .u32 (wi p2)) := blk_cell HT.out.2.1 2
                have h3 : wr.cell? ⟨n3, 3, none⟩ = some (.int .u32 (wi p3)) := blk_cell HT.out.2.1 3
                have h4 : wr.cell? ⟨n3, 4, none⟩ = some (.int .u32 (wi p4)) := blk_cell HT.out.2.1 4
                have h5 : wr.cell? ⟨n3, 5, none⟩ = some (.int .u32 (wi p5)) := blk_cell HT.out.2.1 5
                have h6 : wr.cell? ⟨n3, 6, none⟩ = some (.int .u32 (wi p6)) := blk_cell HT.out.2.1 6
                have h7 : wr.cell? ⟨n3, 7, none⟩ = some (.int .u32 (wi p7)) := blk_cell HT.out.2.1 7
                have g0 : wr.cell? ⟨w.heap.size + 1, 0, none⟩ = some (.int .u32 (wi 0)) := blk_cell HT.out.1.2.1 0
                have g1 : wr.cell? ⟨w.heap.size + 1, 1, none⟩ = some (.int .u32 (wi 0)) := blk_cell HT.out.1.2.1 1
                have g2 : wr.cell? ⟨w.heap.size + 1, 2, none⟩ = some (.int .u32 (wi 0)) := blk_cell HT.out.1.2.1 2
                have g3 : wr.cell? ⟨w.heap.size + 1, 3, none⟩ = some (.int .u32 (wi 0)) := blk_cell HT.out.1.2.1 3
                have g4 : wr.cell? ⟨w.heap.size + 1, 4, none⟩ = some (.int .u32 (wi 0)) := blk_cell HT.out.1.2.1 4
                have g5 : wr.cell? ⟨w.heap.size + 1, 5, none⟩ = some (.int .u32 (wi 0)) := blk_cell HT.out.1.2.1 5
                have g6 : wr.cell? ⟨w.heap.size + 1, 6, none⟩ = some (.int .u32 (wi 0)) := blk_cell HT.out.1.2.1 6
                have g7 : wr.cell? ⟨w.heap.size + 1, 7, none⟩ = some (.int .u32 (wi 0)) := blk_cell HT.out.1.2.1 7
                have f0 : wr.frozen? ⟨w.heap.size + 1, 0, none⟩ = false := blk_frozen HT.out.1.2.1 0
                have f1 : wr.frozen? ⟨w.heap.size + 1, 1, none⟩ = false := blk_frozen HT.out.1.2.1 1
                have f2 : wr.frozen? ⟨w.heap.size + 1, 2, none⟩ = false := blk_frozen HT.out.1.2.1 2
                have f3 : wr.frozen? ⟨w.heap.size + 1, 3, none⟩ = false := blk_frozen HT.out.1.2.1 3
                have f4 : wr.frozen? ⟨w.heap.size + 1, 4, none⟩ = false := blk_frozen HT.out.1.2.1 4
                have f5 : wr.frozen? ⟨w.heap.size + 1, 5, none⟩ = false := blk_frozen HT.out.1.2.1 5
                have f6 : wr.frozen? ⟨w.heap.size + 1, 6, none⟩ = false := blk_frozen HT.out.1.2.1 6
                have f7 : wr.frozen? ⟨w.heap.size + 1, 7, none⟩ = false := blk_frozen HT.out.1.2.1 7
                have HO := Aside0.mk (HT.out.out8 ⟨p0, p1, p2, p3, p4, p5, p6, p7⟩)
                go_wp2
                exact bodyPost_ret (results_cell_row Tryd.results43 _ _ (w.heap.size + 1) 74 _ (0, 0) _ rfl HO.out.1 Tryd.underlying74 rfl (show (Tryd.prog.info? 74).map (·.size) = some 8 from by kernel_rfl)) rfl ⟨by rw [HV2.out], HO.out.2⟩
end Go.Proofs.YtpndobhakmjglaaDoor.Sha
