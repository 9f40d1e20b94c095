/- store: All's iterator, whose rows are the round's own. -/
import Derived.Test.YtpndobhakmjglaaDoorBunS4
namespace Go.Proofs.YtpndobhakmjglaaDoor.Store
open Go.RowKit Go.Proofs.YtpndobhakmjglaaDoorW.PrintWords Go.Proofs.YtpndobhakmjglaaDoorW.PrintLast Go.Proofs.YtpndobhakmjglaaDoorW.PrintMore Go.Proofs.YtpndobhakmjglaaDoor.K Go.Proofs.YtpndobhakmjglaaDoor.Sha Go.Proofs.YtpndobhakmjglaaDoor.RangeAll
set_option linter.unusedVariables false
set_option linter.unusedSimpArgs false
attribute [local go_sem] Oper.semAt_some
/-- What a round is handed: a place, and the row there, in memory of its own. -/
def RowOwn (B0 : Nat) (l : List (List Int)) (k : Nat) (args : Array Value) (W : World) : Prop :=
  ∃ A c, args = #[.int .i64 (k : Int), .slice A (l.getD k []).length c] ∧ kB.R 5 W B0 (fun _ => True) (.slice A (l.getD k []).length c) (l.getD k [])
theorem R_cells_grown {α : Type} {d : Kd α} {e B : Nat} {row : Option Nat} {W W1 : World} {ok : Nat → Prop} {v : Value} {xs : List α} (hh : d.R e W B ok v xs) (hg : W.grownBy W1 row) (hr : ∀ r, row = some r → ∃ o : Obj, W.heap[r]? = some o ∧ o.isCells = false) : d.R e W1 B ok v xs :=
  Kd.R_mono (Kd.R_grown (Kd.R_bound hh) hg (fun k hk e => by
    obtain ⟨_, _, _, q, hq1, cells, hc⟩ := hk
    obtain ⟨o, ho, hi⟩ := hr k e.symm
    rw [hc] at ho
    cases ho
    simp [Obj.isCells] at hi)) (fun _ hk => hk.1)
theorem rowOwn_own (B0 : Nat) (l : List (List Int)) (B : Nat) (args : Array Value) : OwnFrom B (fun k W => RowOwn B0 l k args W) := fun k W W' row h hg hr => by
  obtain ⟨A, c, e, hR⟩ := h
  exact ⟨A, c, e, R_cells_grown hR hg (fun r hr2 => (hr r hr2).2)⟩
set_option maxRecDepth 100000 in
set_option maxHeartbeats 4000000 in
theorem all1_own (F : Fence) (n : Nat) (h7 : F.fn 33) (h8 : F.fn 27) (hcl : ∀ A m c xs W, Kd.C (Kd.int .u8) W A m xs → m ≤ 100000000 → CallsIn F (n - 1) Tryd.prog 27 #[.slice A m c] W fun e W' => ∃ v, e = .returned v ∧ kB.R 5 W' W.heap.size (fun _ => True) v xs ∧ Below W.heap.size W W')
    (hro : F.round = none) (hn : 1 ≤ n) (b : Nat) (A : Option Addr) (c : Nat) (l : List (List Int)) (hl : ∀ r ∈ l, r.length ≤ 100000000) (B0 : Nat) (w : World) :
    Gives F n Tryd.prog 33 #[.pointer (some ⟨b, 0, none⟩)] l.length (fun W => RowsAt b A c l W ∧ B0 ≤ W.heap.size) (RowOwn B0 l) w := fun L J W hW hJ hJR hY h0 => by
  refine callsIn_of_wp Tryd.func33 rfl h7 ?_ hro
  simp only [Tryd.ntmps33, List.size_toArray, List.length_cons, List.length_nil, Nat.reduceAdd, Nat.reduceSub, Array.replicate_succ, Array.replicate_zero, List.push_toArray, List.append_toArray, List.nil_append, List.cons_append]
  have hb0 := (hJR 0 W h0).1.1
  have hm := (hJR 0 W h0).1.2.2.1
  have hx : W.cell? ⟨b, 0, none⟩ = some (.slice A l.length c) := blk_cell hb0 0
  clear hb0
  gi_wp2
  gi_loopw [7] (fun i wr => ∃ k : Nat, k ≤ l.length ∧ i = .int .i64 (k : Int) ∧ Aside0 (J k wr)) (fun i _ => l.length - (intOf i).toNat)
  case atStart => exact ⟨0, Nat.zero_le _, rfl, ⟨h0⟩⟩
  case round =>
    obtain ⟨k, hk, rfl, HJ0⟩ := hrel
    by_cases hlt : k < l.length
    · obtain ⟨⟨hbx, hC⟩, hsz⟩ := hJR k wr HJ0.out
      obtain ⟨ad, A1, c1, rfl, hx1, hl1, hr1⟩ := row_at hC k hlt
      have hwk : IntKind.i64.wrap ((k : Int) + 1) = (k : Int) + 1 := by rw [IntKind.wrap_i64]; omega
      have hlen : (l.getD k []).length ≤ 100000000 := by
        rw [List.getD_eq_getElem?_getD, List.getElem?_eq_getElem hlt]
        exact hl _ (List.getElem_mem hlt)
      have HCl := hcl A1 (l.getD k []).length c1 (l.getD k []) wr hr1 hlen
      have HYk := Aside0.mk (hY k)
      have HSz := Aside0.mk hsz
      have HGd : Aside0 (∀ A c W, kB.R 5 W B0 (fun _ => True) (.slice A (l.getD k []).length c) (l.getD k []) → RowOwn B0 l k #[.int .i64 (k : Int), .slice A (l.getD k []).length c] W) := ⟨fun A c W h2 => ⟨A, c, rfl, h2⟩⟩
      clear hbx hC hl1 hr1 hJR hY hl hcl hsz
      generalize l.getD k [] = x at *
      gi_wp2_with (gi_at_call 27; refine HCl.mono ?_; rintro e w2 ⟨v, rfl, hR, hb⟩; obtain ⟨A2, c2, rfl⟩ := Kd.R_slice hR; have hJ2 := hJ k wr w2 none HJ0.out ⟨hb.os, hb.tape, hb.output, hb.size, fun i hi _ => hb.block i hi⟩ (fun r e => by cases e); obtain ⟨fn, tmps, assign, body, hy, hRd⟩ := HYk.out _ w2 hJ2 hlt (HGd.out A2 c2 w2 (Kd.R_lower hR HSz.out)); have HRd := Aside0.mk hRd; clear hR hb hJ2 hRd)
      refine HRd.out.mono ?_
      rintro e w3 ⟨rfl, hJ3⟩
      have HJ3 := Aside0.mk hJ3
      clear hJ3 hy
      gi_wp2
      go_roundw
      case rel => exact ⟨k + 1, by omega, by go_num, HJ3⟩
      case measure => simp [intOf]; omega
    · obtain rfl : k = l.length := by omega
      gi_wp2
      go_end0
      exact ⟨⟨_, rfl⟩, HJ0.out⟩
/-- A row of one's own, whatever is written into it, and nothing else. -/
def IncS (w0 : World) (base : Nat) (v : Value) (n : Nat) (wr : World) : Prop := ∃ ys : List Int, ys.length = n ∧ kB.R 5 wr base (fun _ => True) v ys ∧ w0.grownBy wr v.ownBlock
theorem grownBy_refl (w : World) (row : Option Nat) : w.grownBy w row := ⟨rfl, rfl, rfl, Nat.le_refl _, fun _ _ _ => rfl⟩
theorem grownBy_trans {a b c : World} {row : Option Nat} (h : a.grownBy b row) (k : b.grownBy c row) : a.grownBy c row :=
  ⟨k.os.trans h.os, k.tape.trans h.tape, k.output.trans h.output, Nat.le_trans h.size k.size, fun i hi hr => (k.block i (Nat.lt_of_lt_of_le hi h.size) hr).trans (h.block i hi hr)⟩
theorem IncS.start {w0 : World} {base : Nat} {v : Value} {xs : List Int} {n : Nat} (h : kB.R 5 w0 base (fun _ => True) v xs) (hn : xs.length = n) : IncS w0 base v n w0 := ⟨xs, hn, h, grownBy_refl _ _⟩
/-- One place of the row: where it lies, and how the row stands when it has been written. -/
theorem IncS.step {w0 wr : World} {base : Nat} {A : Option Addr} {n c : Nat} (h : IncS w0 base (.slice A n c) n wr) (k : Nat) (hk : k < n) :
    ∃ gu : Nat, A = some ⟨gu, 0, none⟩ ∧ ∃ q : Int, wr.cell? ⟨gu, k, none⟩ = some (.int .u8 q) ∧ wr.frozen? ⟨gu, k, none⟩ = false ∧ ∀ y : Int, IncS w0 base (.slice A n c) n (wr.setCell ⟨gu, k, none⟩ (.int .u8 y)) := by
  obtain ⟨ys, hys, hR, hG⟩ := h
  obtain ⟨gu, cu, he, hbu, cells, hcu⟩ := Kd.N_form (Kd.R_N hR) (by rw [hys]; omega)
  have hA : A = some ⟨gu, 0, none⟩ := by injection he
  have hO := own_int hR
  subst hA
  rw [hys] at hO
  obtain ⟨hc5, hf5⟩ := own_at hO (k : Int) (by omega) (by omega)
  rw [Int.toNat_natCast] at hc5 hf5
  refine ⟨gu, rfl, _, hc5, hf5, fun y => ⟨ys.set k y, by rw [List.length_set, hys], ?_, ?_⟩⟩
  · have h1 := own_store hO (k : Int) y
    rw [Int.toNat_natCast] at h1
    exact R_int (by rw [List.length_set, hys]; exact h1.1)
  · have h1 := own_store hO (k : Int) y
    rw [Int.toNat_natCast] at h1
    exact grownBy_trans hG h1.2
theorem IncS.below {w0 wr : World} {base : Nat} {v : Value} {n : Nat} (h : IncS w0 base v n wr) (hs : base ≤ w0.heap.size) : Below base w0 wr := by
  obtain ⟨ys, hys, hR, hG⟩ := h
  refine (Below.refl base w0).grown hG hs (fun k hk => ?_)
  exact ((Kd.R_bound hR).1 k hk).2.1
end Go.Proofs.YtpndobhakmjglaaDoor.Store
