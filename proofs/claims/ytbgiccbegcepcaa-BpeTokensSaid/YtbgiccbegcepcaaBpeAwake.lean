/- bpe: Few, and the law's example. -/
import Derived.Test.YtbgiccbegcepcaaBpeNew
import Derived.Test.YtbgiccbegcepcaaBpeEnc
import Derived.Test.YtbgiccbegcepcaaLawInts
namespace Go.Proofs.Ytbgiccbegcepcaa.Bpe
open Go.RowKit Go.Proofs.YtbgiccbegcepcaaW.PrintWords Go.Proofs.YtbgiccbegcepcaaW.PrintLast Go.Proofs.YtbgiccbegcepcaaW.PrintMore Go.Proofs.Ytbgiccbegcepcaa.K Go.Proofs.Ytbgiccbegcepcaa.Law
set_option linter.unusedVariables false
set_option linter.unusedSimpArgs false
theorem enc_calls {w : World} {B g b : Nat} {vt vo : Value} {T : List (List Int)} {al : List Int} {n : Int} {ps : List Pr} (A : Option Addr) (c : Nat) (bs : List Int) (hC : Kd.C (Kd.int .u8) w A bs.length bs) (hby : ∀ x ∈ bs, 0 ≤ x ∧ x < 256) (h : CodAt w B g vt vo b T (ofL al) n ps ps) (hn : n = al.length) (hps : n + ps.length ≤ 100000) (hm : bs.length ≤ 1000000) :
    Calls Try.prog 13 #[.pointer (some ⟨g, 0, none⟩), .slice A bs.length c] w (EncEnd w al n ps bs) := by
  by_cases hl : 4096 < bs.length
  · exact enc_long A c bs g w hm hl
  · exact enc_rest A c bs hC hby h hn hps hl
/-- What a Coder has that New made. -/
theorem newE_ok {al : List Int} {prs : List Pr} (h : newE al prs = 0) : 0 < al.length ∧ al.length + prs.length ≤ 512 ∧ al.Nodup ∧ (runP prs (singles al) []).1 = 0 := by
  unfold newE at h
  split at h
  · cases h
  · split at h
    · cases h
    · rename_i h1 h2
      exact ⟨by omega, by omega, Classical.not_not.1 h2, h⟩
theorem pairs_lit (w : World) (a b c d : Int) (t : Nat) : Kd.C kP (w.alloc (.cells #[.int .i64 a, .int .i64 b, .int .i64 c, .int .i64 d] t)) (some ⟨w.heap.size, 0, none⟩) 2 [(a, b), (c, d)] := by
  refine ⟨rfl, by decide, fun _ => ⟨_, rfl, fun j p hj => ?_⟩⟩
  have hcell : ∀ i, (w.alloc (.cells #[.int .i64 a, .int .i64 b, .int .i64 c, .int .i64 d] t)).cell? ((⟨w.heap.size, 0, none⟩ : Addr).add i) = ([.int .i64 a, .int .i64 b, .int .i64 c, .int .i64 d] : List Value)[i]? := fun i => by
    rw [add_plain, World.cell?, heap_alloc_new]
    simp
  match j, hj with
  | 0, hj =>
    cases hj
    exact ⟨[.int .i64 a, .int .i64 b], rfl, ⟨[.int .i64 a], [.int .i64 b], rfl, rfl, rfl⟩, fun i u hu => by
      match i, hu with
      | 0, hu => exact (hcell 0).trans hu
      | 1, hu => exact (hcell 1).trans hu⟩
  | 1, hj =>
    cases hj
    exact ⟨[.int .i64 c, .int .i64 d], rfl, ⟨[.int .i64 c], [.int .i64 d], rfl, rfl, rfl⟩, fun i u hu => by
      match i, hu with
      | 0, hu => exact (hcell 2).trans hu
      | 1, hu => exact (hcell 3).trans hu⟩
set_option maxHeartbeats 2000000 in
set_option maxRecDepth 100000 in
theorem awake_calls (w : World) : Calls Try.prog 10 #[] w fun e w' => e = .returned (.bool true) ∧ Below w.heap.size w w' := by
  have kc := fun (w : World) (C : Array Value) (n c : Nat) => Lib.run_convert_bytes_const (P := Try.prog) w 22 5 C n c Try.underlying22 Try.underlying5
  go_enter Try.func10, Try.ntmps10
  go_wp2_with (fail)
  have HP := Aside0.mk (pairs_lit (w.alloc (.cells #[.int .u8 97, .int .u8 98] 5 (2, 3))) 0 1 2 2 44)
  rw [World.size_alloc] at HP
  have HAl : Aside0 (Kd.C (Kd.int .u8) ((w.alloc (.cells #[.int .u8 97, .int .u8 98] 5 (2, 3))).alloc (.cells #[.int .i64 0, .int .i64 1, .int .i64 2, .int .i64 2] 44)) (some ⟨w.heap.size, 0, none⟩) [97, 98].length [97, 98]) := ⟨Kd.C_alloc (C_int (reads_lit_fr w .u8 5 (2, 3) [97, 98] (by decide))) _⟩
  have HB0 : Aside0 (Below w.heap.size w ((w.alloc (.cells #[.int .u8 97, .int .u8 98] 5 (2, 3))).alloc (.cells #[.int .i64 0, .int .i64 1, .int .i64 2, .int .i64 2] 44))) := ⟨bel_alloc (bel_alloc (Below.refl _ _) _) _⟩
  refine (new_calls (some ⟨w.heap.size, 0, none⟩) 2 [97, 98] (some ⟨w.heap.size + 1, 0, none⟩) 2 [(0, 1), (2, 2)] _ HAl.out HP.out (by decide) (by decide) (by decide)).mono ?_
  rintro e w1 ⟨_, hb, hok⟩
  obtain ⟨g, vt, vo, b, rfl, hH⟩ := hok (by decide +kernel)
  have HH := Aside0.mk hH
  have HB1 := Aside0.mk (below_step HB0.out hb)
  clear hb hok hH HB0 HP HAl
  have HC : Aside0 (Kd.C (Kd.int .u8) (w1.alloc (.cells #[.int .u8 97, .int .u8 98, .int .u8 97, .int .u8 98, .int .u8 98] 5 (5, 6))) (some ⟨w1.heap.size, 0, none⟩) [97, 98, 97, 98, 98].length [97, 98, 97, 98, 98]) := ⟨C_int (reads_lit_fr w1 .u8 5 (5, 6) [97, 98, 97, 98, 98] (by decide))⟩
  have HB2 : Aside0 (Below w.heap.size w (w1.alloc (.cells #[.int .u8 97, .int .u8 98, .int .u8 97, .int .u8 98, .int .u8 98] 5 (5, 6)))) := ⟨bel_alloc HB1.out _⟩
  go_wp2_with (fail)
  refine (enc_calls (some ⟨w1.heap.size, 0, none⟩) 5 [97, 98, 97, 98, 98] HC.out (by decide) (HH.out.below (bel_alloc (Below.refl _ _) _)) rfl (by decide) (by decide)).mono ?_
  rintro e w2 ⟨hb, _, _, hok⟩
  obtain ⟨v, rfl, hR⟩ := hok (by decide) (by decide +kernel)
  rw [show encL (([97, 98] : List Int).length : Int) [(0, 1), (2, 2)] (toksL [97, 98] [97, 98, 97, 98, 98]) = [3, 1] by decide +kernel] at hR
  obtain ⟨A3, c3, rfl⟩ := Kd.R_slice hR
  have HR := Aside0.mk (Kd.C_alloc (Kd.R_reads' hR).2.2 (.cells (nums .i64 [3, 1]).toArray 3))
  have HB3 := Aside0.mk (bel_alloc (below_step HB2.out hb) (.cells (nums .i64 [3, 1]).toArray 3))
  have HLt := Aside0.mk (C_int (reads_lit w2 .i64 3 [3, 1] (by decide)))
  clear hb hok hR HB2 HB1 HH HC
  go_wp2_with (fail)
  refine (ints_calls A3 c3 [3, 1] (some ⟨w2.heap.size, 0, none⟩) 2 [3, 1] _ HR.out HLt.out true (by decide)).mono ?_
  rintro e w3 ⟨rfl, ⟨nd, rfl⟩⟩
  go_wp2
  go_ret
  exact ⟨rfl, pw_below_drewN HB3.out _⟩
end Go.Proofs.Ytbgiccbegcepcaa.Bpe
