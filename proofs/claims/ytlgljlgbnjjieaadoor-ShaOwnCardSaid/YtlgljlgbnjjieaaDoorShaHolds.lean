/- sha: what a hash holds; how it moves. -/
import Derived.Test.YtlgljlgbnjjieaaDoorShaNil
namespace Go.Proofs.YtlgljlgbnjjieaaDoor.Sha
open Go.RowKit Go.Proofs.YtlgljlgbnjjieaaDoorW.PrintWords Go.Proofs.YtlgljlgbnjjieaaDoorW.PrintLast Go.Proofs.YtlgljlgbnjjieaaDoorW.PrintMore Go.Proofs.YtlgljlgbnjjieaaDoor.K
set_option linter.unusedVariables false
theorem HashAt.grown {W w1 : World} {B g : Nat} {v : Value} {s : St} {r : List Int} {n : Int} {row : Option Nat} (h : HashAt W B g v s r n) (hg : W.grownBy w1 row) (h1 : some g ≠ row) (h2 : ∀ k, v.ownBlock = some k → some k ≠ row) : HashAt w1 B g v s r n :=
  ⟨h.1, blk_grown h.2.1 hg h1, Kd.Q_mono (Kd.Q_grown (Kd.Q_tight rfl h.2.2) hg (fun k hk => h2 k hk.symm)) (fun _ _ => trivial)⟩
theorem HashAt.kept {W w1 : World} {B g : Nat} {v : Value} {s : St} {r : List Int} {n : Int} {S : Nat → Prop} (h : HashAt W B g v s r n) (hk : Kept W w1 S) (h1 : ¬ S g) (h2 : ∀ k, v.ownBlock = some k → ¬ S k) : HashAt w1 B g v s r n :=
  ⟨h.1, blk_kept h.2.1 hk h1, Kd.Q_mono (Kd.Q_kept (Kd.Q_tight rfl h.2.2) hk (fun k hk => h2 k hk.symm)) (fun _ _ => trivial)⟩
def Holds (W : World) (B g : Nat) (v : Value) (F : List Int) : Prop := HashAt W B g v (absorb init F).1 (absorb init F).2 ((F.length : Nat) : Int)
theorem Holds.new (w : World) (B : Nat) (hB : B ≤ w.heap.size) : Holds (w.alloc (.cells (hCells init (.slice none 0 0) 0) 50)) B w.heap.size (.slice none 0 0) [] := by
  unfold Holds
  rw [absorb_lt (by decide)]
  exact HashAt.new w B hB
theorem Holds.lt {W : World} {B g : Nat} {v : Value} {F : List Int} (h : Holds W B g v F) : ∀ k, v.ownBlock = some k → k < W.heap.size := Kd.Q_lt h.2.2
theorem Holds.blk {W : World} {B g : Nat} {v : Value} {F : List Int} (h : Holds W B g v F) : g < W.heap.size := blk_lt h.2.1
theorem hnew_calls (w : World) (B : Nat) (hB : B ≤ w.heap.size) (hL : LaidAt w 0 firstA) :
    Calls Tryd.prog 11 #[] w fun e w' => e = .returned (.pointer (some ⟨w.heap.size, 0, none⟩)) ∧ Holds w' B w.heap.size (.slice none 0 0) [] ∧ Below w.heap.size w w' ∧ w'.heap.size = w.heap.size + 1 :=
  (new_calls w hL).mono fun e w' ⟨he, hw⟩ => ⟨he, by rw [hw]; exact Holds.new w B hB, by rw [hw]; exact bel_alloc (Below.refl _ _) _, by rw [hw, World.size_alloc]⟩
def WroteH (w : World) (B g : Nat) (v : Value) (F : List Int) (e : Ending) (w' : World) : Prop :=
  e = .returned (.tuple #[]) ∧ ∃ v', Holds w' B g v' F ∧ (v'.ownBlock = v.ownBlock ∨ ∃ b, v'.ownBlock = some b ∧ w.heap.size ≤ b) ∧ Kept w w' (HTouch g v) ∧ Below B w w'
theorem hwrite_calls (B g : Nat) (v : Value) (F : List Int) (A : Option Addr) (m c : Nat) (l : List Int) (w : World) (hH : Holds w B g v F) (hB : B ≤ w.heap.size) (hl : Kd.C (Kd.int .u8) w A m l)
    (hF : ∀ x ∈ F, 0 ≤ x ∧ x < 256) (hby : ∀ x ∈ l, 0 ≤ x ∧ x < 256) (hlen : F.length + m ≤ 140737488355328) (hg : 1 < B) (hL : LaidAt w 1 constA) :
    Calls Tryd.prog 12 #[.pointer (some ⟨g, 0, none⟩), .slice A m c] w (WroteH w B g v (F ++ l)) := by
  have hr := absorb_rest F.length init F (Nat.le_refl _)
  refine (write_calls B g v (absorb init F).1 (absorb init F).2 (F.length : Nat) A m c l w hH hB hl (fun x hx => by
    rcases List.mem_append.1 hx with h1 | h1
    · exact hr.2 hF x h1
    · exact hby x h1) (by rw [hr.1]; omega) (by omega) (by omega) hg hL).mono ?_
  intro e w' hw
  obtain ⟨he, v', h1, h2⟩ := hw
  refine ⟨he, v', ?_, h2⟩
  unfold Holds
  rw [absorb_append F.length init F l (Nat.le_refl _), List.length_append, hl.1, Int.natCast_add]
  exact h1
theorem holds_sum_calls (B g : Nat) (v : Value) (F : List Int) (w : World) (hH : Holds w B g v F) (hB : B ≤ w.heap.size) (hF : ∀ x ∈ F, 0 ≤ x ∧ x < 256) (hn : F.length ≤ 1125899906842624)
    (hg : 1 < B) (hL : LaidAt w 1 constA) :
    Calls Tryd.prog 14 #[.pointer (some ⟨g, 0, none⟩)] w fun e w' => e = .returned (.agg (dA (shaV F))) ∧ Below w.heap.size w w' := by
  have hr := absorb_rest F.length init F (Nat.le_refl _)
  have h := hsum_calls B g v (absorb init F).1 (absorb init F).2 F.length w hH hB (hr.2 hF) (by rw [hr.1]; omega) hr.1 hn hg hL
  rwa [sumOf_absorb] at h
theorem holds_len_calls (B g : Nat) (v : Value) (F : List Int) (w : World) (hH : Holds w B g v F) :
    Calls Tryd.prog 13 #[.pointer (some ⟨g, 0, none⟩)] w fun e w' => e = .returned (.int .i64 ((F.length : Nat) : Int)) ∧ w = w' := len_calls B g v _ _ _ w hH
/-- A row of the call's own beside a hash that is written. -/
theorem R_beside {w w1 : World} {B g : Nat} {v u : Value} {F xs : List Int} (hH : Holds w B g v F) (hR : Kd.R (Kd.int .u8) 5 w B (fun _ => True) u xs) (hne : ∀ k, u.ownBlock = some k → some k ≠ v.ownBlock) (hk : Kept w w1 (HTouch g v)) : Kd.R (Kd.int .u8) 5 w1 B (fun _ => True) u xs :=
  Kd.R_mono (Kd.R_kept (Kd.R_tight rfl hR) hk (fun k hk2 h3 => by
    rcases h3 with h4 | h4
    · have := Kd.R_ne hR hH.2.1 (by decide)
      exact this (by rw [← h4]; exact hk2)
    · exact hne k hk2.symm h4)) (fun _ _ => trivial)
theorem Holds.beside {w w1 : World} {B g : Nat} {v u : Value} {F xs : List Int} (hH : Holds w B g v F) (hR : Kd.R (Kd.int .u8) 5 w B (fun _ => True) u xs) (hne : ∀ k, u.ownBlock = some k → some k ≠ v.ownBlock) (hg : w.grownBy w1 u.ownBlock) : Holds w1 B g v F :=
  HashAt.grown hH hg (Kd.R_ne hR hH.2.1 (by decide)) (fun k hk he => hne k he.symm hk.symm)
theorem R_lt {w : World} {B : Nat} {u : Value} {xs : List Int} (h : Kd.R (Kd.int .u8) 5 w B (fun _ => True) u xs) : ∀ k, u.ownBlock = some k → k < w.heap.size := fun k hk => by
  obtain ⟨_, ho⟩ := Kd.R_own h
  exact own_lt ho k hk
theorem apart_write {u v v1 : Value} {n : Nat} (hne : ∀ j, u.ownBlock = some j → some j ≠ v.ownBlock) (hlt : ∀ j, u.ownBlock = some j → j < n) (hat : v1.ownBlock = v.ownBlock ∨ ∃ b, v1.ownBlock = some b ∧ n ≤ b) : ∀ j, u.ownBlock = some j → some j ≠ v1.ownBlock := fun j hj he => by
  rcases hat with h1 | ⟨b, h1, h2⟩
  · exact hne j hj (by rw [he, h1])
  · have h3 := hlt j hj
    rw [h1] at he
    have := Option.some.inj he
    omega
theorem apart_append {u u1 v : Value} {n : Nat} (hne : ∀ j, u.ownBlock = some j → some j ≠ v.ownBlock) (hlt : ∀ j, v.ownBlock = some j → j < n) (hat : u1.ownBlock = u.ownBlock ∨ ∃ b, u1.ownBlock = some b ∧ n ≤ b) : ∀ j, u1.ownBlock = some j → some j ≠ v.ownBlock := fun j hj he => by
  rcases hat with h1 | ⟨b, h1, h2⟩
  · exact hne j (by rw [← h1]; exact hj) he
  · have h3 := hlt j he.symm
    rw [h1] at hj
    have := Option.some.inj hj
    omega
end Go.Proofs.YtlgljlgbnjjieaaDoor.Sha
