/- The law's examples hold. -/
import Derived.Test.YtpndgdkbnkehcaaLawBytes
import Derived.Test.YtpndgdkbnkehcaaCodecNumbers
namespace Go.Proofs.Ytpndgdkbnkehcaa.Law
open Go.RowKit Go.Proofs.YtpndgdkbnkehcaaW.PrintWords Go.Proofs.YtpndgdkbnkehcaaW.PrintLast Go.Proofs.YtpndgdkbnkehcaaW.PrintMore Go.Proofs.Ytpndgdkbnkehcaa.K Go.Proofs.Ytpndgdkbnkehcaa.Codec
set_option linter.unusedVariables false
theorem awake_pieces (w : World) : Kd.C (Kd.slice 5 (Kd.int .u8)) ((w.alloc (.cells #[.int .u8 97] 5 (1, 2))).alloc (.cells #[.slice (some ⟨w.heap.size, 0, none⟩) 1 1, .slice none 0 0] 25)) (some ⟨w.heap.size + 1, 0, none⟩) 2 [[97], []] := by
  have h := rows_lit (d := Kd.int .u8) (e := 5) (w.alloc (.cells #[.int .u8 97] 5 (1, 2))) 25 [.slice (some ⟨w.heap.size, 0, none⟩) 1 1, .slice none 0 0] [[97], []] (by decide) (fun j x hj => by
    rcases j with _ | _ | j
    · cases hj
      exact ⟨_, _, rfl, Nat.le_refl _, C_int (reads_lit_fr w .u8 5 (1, 2) [97] (by decide))⟩
    · cases hj
      exact ⟨_, _, rfl, Nat.le_refl _, C_int ⟨rfl, by decide, fun h => absurd h (by decide)⟩⟩
    · simp at hj)
  rwa [World.size_alloc] at h
set_option maxHeartbeats 1000000 in
theorem awake02_calls (w : World) : Calls Try.prog 9 #[] w fun e w' => e = .returned (.bool true) ∧ Below w.heap.size w w' := by
  have kc := fun (w : World) (C : Array Value) (n c : Nat) => Lib.run_convert_bytes_const (P := Try.prog) w 25 5 C n c Try.underlying25 Try.underlying5
  have HP := Aside0.mk (awake_pieces w)
  go_enter Try.func9, Try.ntmps9
  go_wp2_with (fail)
  refine (join_calls _ _ [[97], []] _ HP.out (by decide)).mono ?_
  rintro e w1 ⟨v1, rfl, hv, hb⟩
  obtain ⟨A1, c1, rfl⟩ := Kd.R_slice hv
  have HV := Aside0.mk (Kd.R_reads' hv).2.2
  have HB1 := Aside0.mk (below_step (bel_alloc (bel_alloc (Below.refl _ _) _) _) hb)
  clear hv hb HP
  go_wp2_with (fail)
  refine (bytes_calls A1 _ (joinL [[97], []]) (some ⟨w1.heap.size, 0, none⟩) _ [0, 0, 0, 1, 97, 0, 0, 0, 0] _ (Kd.C_alloc HV.out _) (C_int (reads_lit w1 .u8 5 [0, 0, 0, 1, 97, 0, 0, 0, 0] (by decide))) true (by decide)).mono ?_
  rintro e w2 ⟨rfl, ⟨n, rfl⟩⟩
  go_wp2_with (fail)
  refine (numbers_calls (some ⟨w1.heap.size + 1, 0, none⟩) _ [258] _ (by have h := reads_lit ((w1.alloc (.cells (nums .u8 [0, 0, 0, 1, 97, 0, 0, 0, 0]).toArray 5)).drewN n) .i64 3 [258] (by decide); rw [size_drewN, World.size_alloc] at h; exact C_int h) (by decide)).mono ?_
  rintro e w2 ⟨v2, rfl, hv, hb⟩
  obtain ⟨A2, c2, rfl⟩ := Kd.R_slice hv
  have HV2 := Aside0.mk (Kd.R_reads' hv).2.2
  have HB2 := Aside0.mk (below_step (bel_alloc (pw_below_drewN (bel_alloc HB1.out _) _) _) hb)
  clear hv hb HV HB1
  go_wp2_with (fail)
  refine (bytes_calls A2 _ (numsL [258]) (some ⟨w2.heap.size, 0, none⟩) _ [0, 0, 0, 0, 0, 0, 1, 2] _ (Kd.C_alloc HV2.out _) (C_int (reads_lit w2 .u8 5 [0, 0, 0, 0, 0, 0, 1, 2] (by decide))) true (by decide)).mono ?_
  rintro e w3 ⟨rfl, ⟨n3, rfl⟩⟩
  go_wp2_with (fail)
  go_ret
  exact ⟨rfl, pw_below_drewN (bel_alloc HB2.out _) _⟩
end Go.Proofs.Ytpndgdkbnkehcaa.Law
