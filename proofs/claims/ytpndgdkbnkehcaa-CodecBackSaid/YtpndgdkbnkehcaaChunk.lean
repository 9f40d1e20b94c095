/- slices.Chunk of bytes: its iterator's contract. -/
import Derived.RangeFuncNested
import Derived.RangeFuncBound
import Derived.RangeFuncCalls
import Derived.RangeFuncLeaves
import Derived.RangeFuncBox
import Derived.Shelf.Abstract
import Derived.Shelf.RegionOpen
import Derived.WalkKit
import Derived.OwnWalkIn
import Derived.TacticsInMore
import Derived.LoopNIn
import Derived.LoopIn
import Derived.Test.YtpndgdkbnkehcaaK
namespace Go.Proofs.Ytpndgdkbnkehcaa.Chunk
open Go.RowKit Go.Shelf Go.Proofs.YtpndgdkbnkehcaaW.PrintWords Go.Proofs.YtpndgdkbnkehcaaW.PrintLast Go.Proofs.YtpndgdkbnkehcaaW.PrintMore Go.Proofs.Ytpndgdkbnkehcaa.K
set_option linter.unusedVariables false
attribute [local go_sem] Oper.semAt_some
theorem info_u8 : (Try.prog.info? 5).map (fun i => (i.zero, i.size, i.bytes)) = some (some (.int .u8 0), 1, 1) := by kernel_rfl
theorem run_cut {P : Program} (t e : TypeId) (ht : P.underlying t = some (.slice e)) {z : Option Value} {by_ : Nat} (hinfo : (P.info? e).map (fun i => (i.zero, i.size, i.bytes)) = some (z, 1, by_)) (A : Option Addr) (n c m : Nat) (hm : m ≤ n) (W : World) :
    (Instr.slice t (.slice A n c) (some (.int .i64 (m : Int))) none none).run P W = .ok (.slice (if c = m then A else A.map (·.add m)) (n - m) (c - m)) W := by
  obtain ⟨i, hi, hzz⟩ := Option.map_eq_some_iff.1 hinfo
  simp only [Prod.mk.injEq] at hzz
  have hel : P.elem t = e := by simp [Program.elem, ht]
  have hu : P.underlying t = some (.slice (P.elem t)) := by rw [hel]; exact ht
  rw [run_slice_l W t A n c hu .i64 (m : Int) (Int.natCast_nonneg _) (by omega), hel]
  simp [sizeOf, typeInfo, hi, hzz.2.1, sliced, Result.andThen]
def upto (N k : Nat) : List (Fin N) := (List.finRange N).take k
theorem upto_succ (N k : Nat) (h : k < N) : upto N (k + 1) = upto N k ++ [⟨k, h⟩] := by
  unfold upto
  rw [List.take_succ_eq_append_getElem (by rw [List.length_finRange]; exact h), List.getElem_finRange]
  rfl
theorem upto_length (N k : Nat) (h : k ≤ N) : (upto N k).length = k := by
  unfold upto
  rw [List.length_take, List.length_finRange]
  omega
theorem upto_all (N : Nat) : upto N N = List.finRange N := List.take_of_length_le (by rw [List.length_finRange]; exact Nat.le_refl _)
/-- What a round keeps: the two boxes that the iterator reads. -/
def KpC (Bs Bn : Nat) (W W' : World) : Prop := W'.heap[Bs]? = W.heap[Bs]? ∧ W'.heap[Bn]? = W.heap[Bn]?
theorem KpC.refl (Bs Bn : Nat) (W : World) : KpC Bs Bn W W := ⟨rfl, rfl⟩
theorem KpC.trans {Bs Bn : Nat} {W W1 W2 : World} (h : KpC Bs Bn W W1) (k : KpC Bs Bn W1 W2) : KpC Bs Bn W W2 := ⟨k.1.trans h.1, k.2.trans h.2⟩
theorem KpC.cs {Bs Bn : Nat} {W W1 : World} (h : KpC Bs Bn W W1) (i : Nat) : W1.cell? ⟨Bs, i, none⟩ = W.cell? ⟨Bs, i, none⟩ := by simp only [World.cell?, h.1]
theorem KpC.cn {Bs Bn : Nat} {W W1 : World} (h : KpC Bs Bn W W1) (i : Nat) : W1.cell? ⟨Bn, i, none⟩ = W.cell? ⟨Bn, i, none⟩ := by simp only [World.cell?, h.2]
set_option maxRecDepth 100000 in
set_option maxHeartbeats 2000000 in
theorem chunk1_in (F : Fence) (n : Nat) (h7 : F.fn 24) (hro : F.round = none) (hn : 1 ≤ n) (l Bs Bn b off N c sz : Nat) (hsz : 0 < sz) (hc : N * sz ≤ c) (hreach : N * sz ≤ 140737488351232) (J Jx : List (Fin N) → World → Prop) (hJd : ∀ pre W, J pre W → J pre W.drew)
    (hY : ∀ pre (x : Fin N) W, J pre W → pre.length < N → YieldAt F (n - 1) Try.prog l #[.slice (some ⟨b, off + x.1 * sz, none⟩) sz sz] W fun e W' =>
      (e = .returned (.bool true) ∧ J (pre ++ [x]) W' ∧ KpC Bs Bn W W') ∨ (e = .returned (.bool false) ∧ Jx (pre ++ [x]) W'))
    (W : World) (hBs : W.cell? ⟨Bs, 0, none⟩ = some (.slice (some ⟨b, off, none⟩) (N * sz) c)) (hBn : W.cell? ⟨Bn, 0, none⟩ = some (.int .i64 (sz : Int))) (h0 : J [] W) :
    CallsIn F n Try.prog 24 #[.func (.yield l) #[] #[], .pointer (some ⟨Bs, 0, none⟩), .pointer (some ⟨Bn, 0, none⟩)] W fun e W' => (∃ v, e = .returned v) ∧
      ((∃ ys, ys = upto N N ∧ J ys W') ∨ (∃ pre, (∃ k, k ≤ N ∧ pre = upto N k) ∧ Jx pre W')) := by
  refine callsIn_of_wp Try.func24 rfl h7 ?_ hro
  simp only [Try.ntmps24, List.size_toArray, List.length_cons, List.length_nil, Nat.reduceAdd, Nat.reduceSub, Array.replicate_succ, Array.replicate_zero, List.push_toArray, List.append_toArray, List.nil_append, List.cons_append]
  gi_wp2
  gi_loopw [4] (fun i wr => ∃ k : Nat, k ≤ N ∧ i = .int .i64 ((k * sz : Nat) : Int) ∧ J (upto N k) wr ∧ KpC Bs Bn W wr)
    (fun i _ => N * sz - (intOf i).toNat)
  case atStart => exact ⟨0, Nat.zero_le _, by simp, h0, KpC.refl _ _ _⟩
  case round =>
    obtain ⟨k, hk, rfl, hJs, hnx⟩ := hrel
    have hcs : wr.cell? ⟨Bs, 0, none⟩ = some (.slice (some ⟨b, off, none⟩) (N * sz) c) := (hnx.cs 0).trans hBs
    have hcn : wr.cell? ⟨Bn, 0, none⟩ = some (.int .i64 (sz : Int)) := (hnx.cn 0).trans hBn
    by_cases hlt : k < N
    · obtain ⟨fn, tmps, assign, body, hy, hR⟩ := hY _ ⟨k, hlt⟩ wr.drew (hJd _ _ hJs) (by rw [upto_length _ _ hk]; exact hlt)
      have hks : k * sz + sz ≤ N * sz := by rw [← Nat.succ_mul]; exact Nat.mul_le_mul_right _ hlt
      dsimp only at hy
      generalize hp : k * sz = p at *
      generalize hq : N * sz = q at *
      have hpq : p < q := by omega
      have h1 : (p : Int) ≤ q := by omega
      have h2 : (0 : Int) ≤ p := by omega
      have h3 : ¬ ((q : Int) - (p : Int) < (sz : Int)) := by omega
      have h4 : decide ((q : Int) - (p : Int) < (sz : Int)) = false := by simpa using h3
      have h4n : ¬ (q - p < sz) := by omega
      have hd2 : KpC Bs Bn W wr.drew := hnx
      have hcs2 : wr.drew.cell? ⟨Bs, 0, none⟩ = some (.slice (some ⟨b, off, none⟩) q c) := hcs
      have hcn2 : wr.drew.cell? ⟨Bn, 0, none⟩ = some (.int .i64 (sz : Int)) := hcn
      have h5 : p ≠ c := by omega
      have hsl : ∀ W : World, (Instr.slice 25 (.slice (some ⟨b, off, none⟩) q c) (some (.int .i64 (p : Int))) none none).run Try.prog W = .ok (.slice (some ⟨b, off + p, none⟩) (q - p) (c - p)) W := fun W => by
        rw [run_cut 25 5 Try.underlying25 info_u8 (some ⟨b, off, none⟩) q c p (by omega) W, if_neg (by omega)]
        simp [add_at]
      gi_wp2
      gi_region
      all_goals
        generalize wr.drew = w2 at *
        gi_wp2
        refine hR.mono ?_
        rintro e W3 (⟨rfl, hJ3, hk3⟩ | ⟨rfl, hJx3⟩)
        · have hcn3 : W3.cell? ⟨Bn, 0, none⟩ = some (.int .i64 (sz : Int)) := (hk3.cn 0).trans hcn2
          gi_wp2
          go_roundw
          case rel => exact ⟨k + 1, by omega, by rw [Nat.succ_mul, hp]; simp, by rw [upto_succ _ _ hlt]; exact hJ3, hd2.trans hk3⟩
          case measure => simp [intOf]; omega
        · gi_wp2
          refine bodyPost_ret (results_none rfl _ _ _) rfl ?_
          exact ⟨⟨_, rfl⟩, .inr ⟨_, ⟨k + 1, by omega, (upto_succ _ _ hlt).symm⟩, hJx3⟩⟩
    · obtain rfl : k = N := by omega
      gi_wp2
      go_end0
      exact ⟨⟨_, rfl⟩, .inl ⟨_, rfl, hJs⟩⟩
set_option maxRecDepth 100000 in
set_option maxHeartbeats 1000000 in
/-- .. of nothing: no round. -/
theorem chunk1_nil_in (F : Fence) (n : Nat) (h7 : F.fn 24) (hro : F.round = none) (l Bs Bn c : Nat) (A : Option Addr) (J : List (Fin 0) → World → Prop) (W : World) (hBs : W.cell? ⟨Bs, 0, none⟩ = some (.slice A 0 c)) (h0 : J [] W) :
    CallsIn F n Try.prog 24 #[.func (.yield l) #[] #[], .pointer (some ⟨Bs, 0, none⟩), .pointer (some ⟨Bn, 0, none⟩)] W fun e W' => (∃ v, e = .returned v) ∧ J [] W' := by
  refine callsIn_of_wp Try.func24 rfl h7 ?_ hro
  simp only [Try.ntmps24, List.size_toArray, List.length_cons, List.length_nil, Nat.reduceAdd, Nat.reduceSub, Array.replicate_succ, Array.replicate_zero, List.push_toArray, List.append_toArray, List.nil_append, List.cons_append]
  gi_wp2
  gi_loopw [4] (fun i wr => i = .int .i64 0 ∧ wr = W ∧ J [] wr) (fun _ _ => 0)
  case atStart => exact ⟨rfl, rfl, h0⟩
  case round =>
    obtain ⟨rfl, rfl, hJs⟩ := hrel
    gi_wp2
    go_end0
    exact ⟨⟨_, rfl⟩, hJs⟩
def encs (N b off sz : Nat) (x : Fin N) : Array Value := #[.slice (some ⟨b, off + x.1 * sz, none⟩) sz sz]
/-- The bytes of a row begin at b, off (if there are any). -/
theorem chunk_stops (F : Fence) (n : Nat) (h7 : F.fn 24) (hro : F.round = none) (hn : 1 ≤ n) (Bs Bn b off N c sz : Nat) (A : Option Addr) (hA : 0 < N → A = some ⟨b, off, none⟩) (hsz : 0 < sz) (hc : N * sz ≤ c) (hreach : N * sz ≤ 140737488351232) (w : World) (h1 : Bs < w.heap.size) (h2 : Bn < w.heap.size)
    (hBs : w.cell? ⟨Bs, 0, none⟩ = some (.slice A (N * sz) c)) (hBn : w.cell? ⟨Bn, 0, none⟩ = some (.int .i64 (sz : Int))) :
    SeqStopsK F n Try.prog 24 #[.pointer (some ⟨Bs, 0, none⟩), .pointer (some ⟨Bn, 0, none⟩)] (encs N b off sz) (KpC Bs Bn) (fun ys => ys = List.finRange N) (fun _ => True) N w := fun l J Jx W hW hJ hJx hY h0 => by
  have hBs' := (hW.cell (p := ⟨Bs, 0, none⟩) h1).trans hBs
  have hBn' := (hW.cell (p := ⟨Bn, 0, none⟩) h2).trans hBn
  rcases Nat.eq_zero_or_pos N with h | h
  · subst h
    rw [Nat.zero_mul] at hBs'
    exact (chunk1_nil_in F n h7 hro l Bs Bn c A J W hBs' h0).mono fun e W' ⟨he, hj⟩ => ⟨he, .inl ⟨_, rfl, hj⟩⟩
  · rw [hA h] at hBs'
    refine (chunk1_in F n h7 hro hn l Bs Bn b off N c sz hsz hc hreach J Jx (fun pre W1 hj => hJ pre W1 W1.drew none hj ⟨rfl, rfl, rfl, Nat.le_refl _, fun _ _ _ => rfl⟩ (fun r e => by cases e)) hY W hBs' hBn' h0).mono ?_
    rintro e W' ⟨he, ⟨ys, hy, hj⟩ | ⟨pre, _, hj⟩⟩
    · exact ⟨he, .inl ⟨ys, by rw [hy, upto_all], hj⟩⟩
    · exact ⟨he, .inr ⟨pre, trivial, hj⟩⟩
set_option maxHeartbeats 1000000 in
/-- slices.Chunk(s, n): both are boxed; the function value captures the boxes. -/
theorem chunk_in (F : Fence) (n : Nat) (h5 : F.fn 23) (hro : F.round = none) (A : Option Addr) (m c sz : Nat) (hsz : 0 < sz) (w : World) :
    CallsIn F n Try.prog 23 #[.slice A m c, .int .i64 (sz : Int)] w fun e w' => e = .returned (.func (.func 24) #[] #[.pointer (some ⟨w.heap.size, 0, none⟩), .pointer (some ⟨w.heap.size + 1, 0, none⟩)]) ∧ w' = (w.alloc (.cells #[.slice A m c] 25)).alloc (.cells #[.int .i64 (sz : Int)] 3) := by
  have h : decide ((sz : Int) < 1) = false := by simp; omega
  refine callsIn_of_wp Try.func23 rfl h5 ?_ hro
  simp only [Try.ntmps23, List.size_toArray, List.length_cons, List.length_nil, Nat.reduceAdd, Nat.reduceSub, Array.replicate_succ, Array.replicate_zero, List.push_toArray, List.append_toArray, List.nil_append, List.cons_append]
  gi_wp2
  go_ret
  exact ⟨rfl, rfl⟩
end Go.Proofs.Ytpndgdkbnkehcaa.Chunk
