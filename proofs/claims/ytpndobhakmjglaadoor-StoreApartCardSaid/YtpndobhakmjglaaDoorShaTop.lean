/- sha.Sum: the digest of bytes; Sum of a nil hash. -/
import Derived.Test.YtpndobhakmjglaaDoorShaSum
namespace Go.Proofs.YtpndobhakmjglaaDoor.Sha
open Go.RowKit Go.Proofs.YtpndobhakmjglaaDoorW.PrintWords Go.Proofs.YtpndobhakmjglaaDoorW.PrintLast Go.Proofs.YtpndobhakmjglaaDoorW.PrintMore Go.Proofs.YtpndobhakmjglaaDoor.K
set_option linter.unusedVariables false
theorem z32_lit : (#[.int .u8 0, .int .u8 0, .int .u8 0, .int .u8 0, .int .u8 0, .int .u8 0, .int .u8 0, .int .u8 0, .int .u8 0, .int .u8 0, .int .u8 0, .int .u8 0, .int .u8 0, .int .u8 0, .int .u8 0, .int .u8 0, .int .u8 0, .int .u8 0, .int .u8 0, .int .u8 0, .int .u8 0, .int .u8 0, .int .u8 0, .int .u8 0, .int .u8 0, .int .u8 0, .int .u8 0, .int .u8 0, .int .u8 0, .int .u8 0, .int .u8 0, .int .u8 0] : Array Value) = dA (List.replicate 32 0) := rfl
theorem dig_info {d : List Int} (h : d.length = 32) : (Tryd.prog.info? 63).map (·.size) = some (dA d).size := by rw [dA_size, h]; kernel_rfl
set_option maxHeartbeats 4000000 in
set_option maxRecDepth 100000 in
theorem sum_calls (A : Option Addr) (m c : Nat) (l : List Int) (w : World) (hl : Kd.C (Kd.int .u8) w A m l) (hby : ∀ x ∈ l, 0 ≤ x ∧ x < 256) (hm : m ≤ 140737488355328)
    (hLf : LaidAt w 0 firstA) (hL : LaidAt w 1 constA) :
    Calls Tryd.prog 34 #[.slice A m c] w fun e w' => e = .returned (.agg (dA (shaV l))) ∧ Below w.heap.size w w' := by
  have HC := Aside0.mk hl
  have HBy := Aside0.mk hby
  have HM := Aside0.mk hm
  have HLf := Aside0.mk hLf
  have HL := Aside0.mk hL
  have HG : Aside0 (1 < w.heap.size) := ⟨by obtain ⟨_, _, h⟩ := hL; exact blk_lt h⟩
  have HN : Aside0 (l.length = m) := ⟨hl.1⟩
  have HD1 := Aside0.mk (dig_info (shaV_length l))
  have HD2 : Aside0 ((dA (List.replicate 32 0)).size = (dA (shaV l)).size) := ⟨by rw [dA_size, dA_size, shaV_length]; rfl⟩
  clear hl hby hm hLf hL
  go_enter Tryd.func34, Tryd.ntmps34
  go_wp2_with (fail)
  rw [z32_lit]
  have HB1 : Aside0 (Below w.heap.size w (w.alloc (.cells (dA (List.replicate 32 0)) 63))) := ⟨bel_alloc (Below.refl _ _) _⟩
  have HR1 : Aside0 ((w.alloc (.cells (dA (List.replicate 32 0)) 63)).heap[w.heap.size]? = some (.cells (dA (List.replicate 32 0)) 63 (0, 0))) := ⟨heap_alloc_new _ _⟩
  generalize w.alloc (.cells (dA (List.replicate 32 0)) 63) = w1 at *
  refine (new_calls w1 (HLf.out.below HB1.out)).mono ?_
  rintro e w2 ⟨rfl, hw2⟩
  have HH2 : Aside0 (HashAt w2 w.heap.size w1.heap.size (.slice none 0 0) init [] 0) := ⟨by rw [hw2]; exact HashAt.new w1 _ HB1.out.size⟩
  have HB2 : Aside0 (Below w1.heap.size w1 w2) := ⟨by rw [hw2]; exact bel_alloc (Below.refl _ _) _⟩
  have hge : w.heap.size < w1.heap.size := blk_lt HR1.out
  clear hw2
  generalize w1.heap.size = ge at *
  go_wp2_with (fail)
  have HB2' : Aside0 (Below w.heap.size w w2) := ⟨HB1.out.trans (HB2.out.mono (Nat.le_of_lt hge))⟩
  refine (write_calls w.heap.size ge (.slice none 0 0) init [] 0 A m c l w2 HH2.out HB2'.out.size (Kd.C_below HC.out HB2'.out) (by simpa using HBy.out) (by have := HM.out; simp; omega) (by decide) (by have := HM.out; omega) HG.out (HL.out.below HB2'.out)).mono ?_
  intro e w3 hw3
  obtain ⟨rfl, v3, hH3, hO3, hK3, hb3⟩ := hw3
  have HH3 : Aside0 (HashAt w3 w.heap.size ge v3 (absorb init l).1 (absorb init l).2 (m : Int)) := ⟨by
    rw [show ([] ++ l : List Int) = l from rfl, show (0 : Int) + (m : Int) = (m : Int) by omega] at hH3
    exact hH3⟩
  have HB3 : Aside0 (Below w.heap.size w w3) := ⟨HB2'.out.trans hb3⟩
  have HR3 : Aside0 (w3.heap[w.heap.size]? = some (.cells (dA (List.replicate 32 0)) 63 (0, 0))) := ⟨by
    have h5 := (HB2.out.block w.heap.size hge).trans HR1.out
    refine (hK3.2 w.heap.size (blk_lt h5) ?_).trans h5
    rintro (h1 | h1)
    · omega
    · simp [Value.ownBlock] at h1⟩
  have HRest := Aside0.mk (absorb_rest l.length init l (Nat.le_refl _))
  have HV : Aside0 (sumOf (absorb init l).1 (absorb init l).2 m = shaV l) := ⟨by rw [← HN.out]; exact sumOf_absorb l⟩
  clear hH3 hO3 hK3 hb3 HH2 HB2 HB2' HR1 HB1
  go_wp2_with (fail)
  refine (hsum_calls w.heap.size ge v3 (absorb init l).1 (absorb init l).2 m w3 HH3.out HB3.out.size (HRest.out.2 HBy.out) (by rw [HRest.out.1]; omega) (by rw [HRest.out.1, HN.out]) (by have := HM.out; omega) HG.out (HL.out.below HB3.out)).mono ?_
  rintro e w4 ⟨rfl, hb4⟩
  have HB4 : Aside0 (Below w.heap.size w w4) := ⟨below_step HB3.out hb4⟩
  have HR4 : Aside0 (w4.heap[w.heap.size]? = some (.cells (dA (List.replicate 32 0)) 63 (0, 0))) := ⟨(hb4.block _ (blk_lt HR3.out)).trans HR3.out⟩
  rw [HV.out]
  clear hb4 HH3 HB3 HR3 HRest HV
  obtain ⟨d, hd⟩ : ∃ d, d = shaV l := ⟨_, rfl⟩
  rw [← hd] at HD1 HD2 ⊢
  have Hd := Aside0.mk hd
  clear hd
  have HI3 := Aside0.mk (dA_one d)
  go_wp2_with (with_reducible refine wpList_store_row rfl 63 (.tmp 2) (.tmp 9) rfl w.heap.size (dA d) rfl rfl 63 _ HR4.out HD1.out HD2.out HI3.out ?_)
  exact bodyPost_ret (results_cell_row Tryd.results34 _ _ w.heap.size 63 (dA d) (0, 0) _ rfl (setRow_heap _ _ _ _ _ _ HR4.out) Tryd.underlying63 rfl HD1.out) rfl ⟨by rw [Hd.out], below_setRow HB4.out (Nat.le_refl _) _⟩
set_option maxHeartbeats 4000000 in
set_option maxRecDepth 100000 in
theorem hsum_nil_calls (w : World) (hLf : LaidAt w 0 firstA) (hL : LaidAt w 1 constA) :
    Calls Tryd.prog 39 #[.pointer none] w fun e w' => e = .returned (.agg (dA (shaV []))) ∧ Below w.heap.size w w' := by
  have HLf := Aside0.mk hLf
  have HL := Aside0.mk hL
  have HD1 := Aside0.mk (dig_info (shaV_length []))
  have HD2 : Aside0 ((dA (List.replicate 32 0)).size = (dA (shaV [])).size) := ⟨by rw [dA_size, dA_size, shaV_length]; rfl⟩
  clear hLf hL
  go_enter Tryd.func39, Tryd.ntmps39
  go_wp2_with (fail)
  rw [z32_lit]
  have HB1 : Aside0 (Below w.heap.size w (w.alloc (.cells (dA (List.replicate 32 0)) 63))) := ⟨bel_alloc (Below.refl _ _) _⟩
  have HR1 : Aside0 ((w.alloc (.cells (dA (List.replicate 32 0)) 63)).heap[w.heap.size]? = some (.cells (dA (List.replicate 32 0)) 63 (0, 0))) := ⟨heap_alloc_new _ _⟩
  generalize w.alloc (.cells (dA (List.replicate 32 0)) 63) = w1 at *
  refine (sum_calls none 0 0 [] w1 (Kd.C_nil _ _) (fun x hx => by cases hx) (by decide) (HLf.out.below HB1.out) (HL.out.below HB1.out)).mono ?_
  rintro e w4 ⟨rfl, hb4⟩
  have HB4 : Aside0 (Below w.heap.size w w4) := ⟨below_step HB1.out hb4⟩
  have HR4 : Aside0 (w4.heap[w.heap.size]? = some (.cells (dA (List.replicate 32 0)) 63 (0, 0))) := ⟨(hb4.block _ (blk_lt HR1.out)).trans HR1.out⟩
  clear hb4 HB1 HR1
  obtain ⟨d, hd⟩ : ∃ d, d = shaV [] := ⟨_, rfl⟩
  rw [← hd] at HD1 HD2 ⊢
  have Hd := Aside0.mk hd
  clear hd
  have HI3 := Aside0.mk (dA_one d)
  go_wp2_with (with_reducible refine wpList_store_row rfl 63 (.tmp 2) (.tmp 14) rfl w.heap.size (dA d) rfl rfl 63 _ HR4.out HD1.out HD2.out HI3.out ?_)
  exact bodyPost_ret (results_cell_row Tryd.results39 _ _ w.heap.size 63 (dA d) (0, 0) _ rfl (setRow_heap _ _ _ _ _ _ HR4.out) Tryd.underlying63 rfl HD1.out) rfl ⟨by rw [Hd.out], below_setRow HB4.out (Nat.le_refl _) _⟩
end Go.Proofs.YtpndobhakmjglaaDoor.Sha
