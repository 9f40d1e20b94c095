/- the reference's Neighbours. -/
import Derived.Test.YtbgiccbegcepcaaBpeCl
import Derived.Test.YtbgiccbegcepcaaQuietTail
import Derived.IntWalk
namespace Go.Proofs.Ytbgiccbegcepcaa.Bpe
open Go.RowKit Go.Proofs.YtbgiccbegcepcaaW.PrintWords Go.Proofs.YtbgiccbegcepcaaW.PrintLast Go.Proofs.YtbgiccbegcepcaaW.PrintMore Go.Proofs.Ytbgiccbegcepcaa.K
set_option linter.unusedVariables false
set_option linter.unusedSimpArgs false
set_option maxHeartbeats 4000000 in
set_option maxRecDepth 100000 in
theorem nb_any (A : Option Addr) (c : Nat) (l : List Int) (x y : Int) (w : World) (hC : Kd.C (Kd.int .i64) w A l.length l) (hlen : l.length ≤ 1000000) :
    Calls Try.prog 18 #[.slice A l.length c, .agg #[.int .i64 x, .int .i64 y]] w fun e w' => e = .returned (.bool (nb (x, y) l)) ∧ Below w.heap.size w w' := by
  have HC := Aside0.mk hC
  have hbx : (w.alloc (.cells #[.int .i64 x, .int .i64 y] 50)).heap[w.heap.size]? = some (.cells #[.int .i64 x, .int .i64 y] 50 (0, 0)) := heap_alloc_new _ _
  have HBx := Aside0.mk hbx
  have HB : Aside0 (Below w.heap.size w (w.alloc (.cells #[.int .i64 x, .int .i64 y] 50))) := ⟨bel_alloc (Below.refl _ _) _⟩
  clear hC hbx
  go_enter Try.func18, Try.ntmps18
  go_wp2
  generalize w.alloc (.cells #[.int .i64 x, .int .i64 y] 50) = w1 at *
  obtain ⟨gp, hgp⟩ : ∃ gp, gp = w.heap.size := ⟨_, rfl⟩
  rw [← hgp] at HBx ⊢
  clear hgp
  go_loopw [5] (fun i wr => ∃ k : Nat, i = .int .i64 (k : Int) ∧ k ≤ l.length ∧ Aside0 (nb (x, y) (l.take (k + 1)) = false ∧ Drawn0 w1 wr)) (fun i _ => l.length - (intOf i).toNat)
  case atStart => exact ⟨0, rfl, Nat.zero_le _, ⟨by cases l <;> simp [nb], ⟨0, rfl⟩⟩⟩
  case round =>
    obtain ⟨k, rfl, hk, HO⟩ := hrel
    obtain ⟨m, hm⟩ : ∃ m : Nat, m = k + 1 := ⟨_, rfl⟩
    have hmI : (k : Int) + 1 = (m : Int) := by omega
    have HMk := Aside0.mk hm
    by_cases hlt : m < l.length
    · have HS := Aside0.mk (nb_take_step (x, y) l k (by omega) HO.out.1)
      have HD := Aside0.mk HO.out.2
      have HOf := Aside0.mk (nb_of_take (x, y) l (k + 2))
      have hCr := C_drawn (Kd.C_below HC.out HB.out) HD.out
      have hcp0 : wr.cell? ⟨gp, 0, none⟩ = some (.int .i64 x) := by rw [drawn_cell HD.out]; exact blk_cell HBx.out 0
      have hcp1 : wr.cell? ⟨gp, 1, none⟩ = some (.int .i64 y) := by rw [drawn_cell HD.out]; exact blk_cell HBx.out 1
      have hkl : k < l.length := by omega
      obtain ⟨ad, rfl, hc0⟩ := int_at hCr k hkl
      obtain ⟨ad', e, hc1⟩ := int_at hCr m hlt
      cases e
      rw [← hm] at HS
      have hw2 : IntKind.i64.wrap ((k : Int) + 1) = (m : Int) := by rw [IntWalk.i64_in _ (by omega)]; omega
      clear hCr hm HO
      generalize l.getD k 0 = u at *
      generalize l.getD m 0 = v at *
      by_cases hu : u = x
      · have hud : (u == x) = true := by simpa using hu
        by_cases hv : v = y
        · have hvd : (v == y) = true := by simpa using hv
          have HE : Aside0 (nb (x, y) l = true) := ⟨HOf.out (by rw [HS.out]; simp [hu, hv])⟩
          clear hu hv
          go_wp2
          go_quiet (fail)
          go_wp2
          go_ret
          exact ⟨congrArg (fun b => Ending.returned (Value.bool b)) HE.out.symm, by obtain ⟨q, rfl⟩ := HD.out.out; exact pw_below_drewN (pw_below_drewN HB.out q) nq⟩
        · have hvd : (v == y) = false := by simpa using hv
          have HE : Aside0 (nb (x, y) (l.take (m + 1)) = false) := ⟨by rw [show m + 1 = k + 2 by have := HMk.out; omega, HS.out]; simp [hv]⟩
          clear hu hv
          go_wp2
          go_quiet (fail)
          go_wp2
          go_roundw
          case rel => exact ⟨m, rfl, by omega, ⟨HE.out, Drawn0.trans_ HD.out ⟨nq, rfl⟩⟩⟩
          case measure => have := HMk.out; simp [intOf]; omega
      · have hud : (u == x) = false := by simpa using hu
        have HE : Aside0 (nb (x, y) (l.take (m + 1)) = false) := ⟨by rw [show m + 1 = k + 2 by have := HMk.out; omega, HS.out]; simp [hu]⟩
        clear hu
        go_wp2
        go_quiet (fail)
        go_wp2
        go_roundw
        case rel => exact ⟨m, rfl, by omega, ⟨HE.out, Drawn0.trans_ HD.out ⟨nq, rfl⟩⟩⟩
        case measure => have := HMk.out; simp [intOf]; omega
    · have HE : Aside0 (nb (x, y) l = false) := ⟨by have h := HO.out.1; rwa [List.take_of_length_le (by omega)] at h⟩
      have HD := Aside0.mk HO.out.2
      clear HO hm
      go_wp2
      go_ret
      exact ⟨congrArg (fun b => Ending.returned (Value.bool b)) HE.out.symm, by obtain ⟨q, rfl⟩ := HD.out.out; exact pw_below_drewN HB.out q⟩
theorem nb_calls (A : Option Addr) (c : Nat) (l : List Int) (x y : Int) (w : World) (hC : Kd.C (Kd.int .i64) w A l.length l) (hlen : l.length ≤ 1000000) (q : Bool) (hq : nb (x, y) l = q) :
    Calls Try.prog 18 #[.slice A l.length c, .agg #[.int .i64 x, .int .i64 y]] w fun e w' => e = .returned (.bool q) ∧ Below w.heap.size w w' := by
  subst hq
  exact nb_any A c l x y w hC hlen
end Go.Proofs.Ytbgiccbegcepcaa.Bpe
