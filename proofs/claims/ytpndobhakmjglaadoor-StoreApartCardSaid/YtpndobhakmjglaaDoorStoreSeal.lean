/- store: seal. -/
import Derived.Test.YtpndobhakmjglaaDoorStoreHas
import Derived.Test.YtpndobhakmjglaaDoorStoreP
import Derived.Test.YtpndobhakmjglaaDoorShaTop
import Derived.Test.YtpndobhakmjglaaDoorCodecJoin
import Derived.Test.YtpndobhakmjglaaDoorClone
import Derived.Deep.WholeRow
namespace Go.Proofs.YtpndobhakmjglaaDoor.Store
open Go.RowKit Go.Proofs.YtpndobhakmjglaaDoorW.PrintWords Go.Proofs.YtpndobhakmjglaaDoorW.PrintLast Go.Proofs.YtpndobhakmjglaaDoorW.PrintMore Go.Proofs.YtpndobhakmjglaaDoor.K Go.Proofs.YtpndobhakmjglaaDoor.Sha
set_option linter.unusedVariables false
set_option linter.unusedSimpArgs false
theorem dig_reads {W : World} {g t : Nat} {d : List Int} {n : Nat} (h : W.heap[g]? = some (.cells (dA d) t (0, 0))) (hn : d.length = n) (hm : n ≤ 9223372036854775807) : Kd.C (Kd.int .u8) W (some ⟨g, 0, none⟩) n d := by
  refine C_int ⟨hn, hm, fun _ => ⟨_, rfl, fun j hj => ?_⟩⟩
  rw [add_plain]
  exact (blk_cell h j).trans (dA_get d j (by omega))
/-- Join of two rows. -/
theorem join2 (A0 : Option Addr) (n0 c0 : Nat) (a : List Int) (A1 : Option Addr) (n1 c1 : Nat) (r : List Int) (w : World) (h0 : Kd.C (Kd.int .u8) w A0 n0 a) (hc0 : n0 ≤ c0) (h1 : Kd.C (Kd.int .u8) w A1 n1 r) (hc1 : n1 ≤ c1) (hb : a.length + r.length ≤ 100000000) :
    Calls Tryd.prog 24 #[.slice (some ⟨w.heap.size, 0, none⟩) 2 2] (w.alloc (.cells #[.slice A0 n0 c0, .slice A1 n1 c1] 22)) fun e w' => ∃ v, e = .returned v ∧ Kd.R (Kd.int .u8) 5 w' (w.alloc (.cells #[.slice A0 n0 c0, .slice A1 n1 c1] 22)).heap.size (fun _ => True) v (joinL [a, r]) ∧ Below (w.alloc (.cells #[.slice A0 n0 c0, .slice A1 n1 c1] 22)).heap.size (w.alloc (.cells #[.slice A0 n0 c0, .slice A1 n1 c1] 22)) w' := by
  obtain rfl := h0.1
  obtain rfl := h1.1
  have hr : Kd.C (Kd.slice 5 (Kd.int .u8)) (w.alloc (.cells [Value.slice A0 a.length c0, .slice A1 r.length c1].toArray 22)) (some ⟨w.heap.size, 0, none⟩) [a, r].length [a, r] := rows_lit w 22 _ [a, r] (by simp) (fun j z hj => by
    match j, hj with
    | 0, hj => cases hj; exact ⟨A0, c0, rfl, hc0, h0⟩
    | 1, hj => cases hj; exact ⟨A1, c1, rfl, hc1, h1⟩)
  exact Codec.join_calls (some ⟨w.heap.size, 0, none⟩) 2 [a, r] _ hr (by rw [joinTwo_len]; omega)
set_option maxHeartbeats 4000000 in
set_option maxRecDepth 100000 in
theorem seal_calls (A0 : Option Addr) (n0 c0 : Nat) (a : List Int) (A1 : Option Addr) (n1 c1 : Nat) (r : List Int) (w : World) (h0 : Kd.C (Kd.int .u8) w A0 n0 a) (hc0 : n0 ≤ c0) (h1 : Kd.C (Kd.int .u8) w A1 n1 r) (hc1 : n1 ≤ c1) (hb : a.length + r.length ≤ 100000000)
    (ha : ∀ x ∈ a, 0 ≤ x ∧ x < 256) (hr : ∀ x ∈ r, 0 ≤ x ∧ x < 256) (hLf : LaidAt w 0 firstA) (hL : LaidAt w 1 constA) :
    Calls Tryd.prog 25 #[.slice A0 n0 c0, .slice A1 n1 c1] w fun e w' => ∃ v, e = .returned v ∧ Kd.R (Kd.int .u8) 5 w' w.heap.size (fun _ => True) v (sealV a r) ∧ Below w.heap.size w w' := by
  have HJ := Aside0.mk (join2 A0 n0 c0 a A1 n1 c1 r w h0 hc0 h1 hc1 hb)
  have HB : Aside0 (Below w.heap.size w (w.alloc (.cells #[.slice A0 n0 c0, .slice A1 n1 c1] 22))) := ⟨bel_alloc (Below.refl _ _) _⟩
  have HBj := Aside0.mk (joinTwo_byte ha hr)
  have HLj : Aside0 ((joinL [a, r]).length ≤ 100000008) := ⟨by rw [joinTwo_len]; omega⟩
  have HLf := Aside0.mk hLf
  have HL := Aside0.mk hL
  have HS : Aside0 (sealV a r = (shaV (joinL [a, r])).take 16) := ⟨rfl⟩
  rw [HS.out]
  clear h0 h1 hc0 hc1 hb ha hr hLf hL HS
  generalize joinL [a, r] = j at *
  go_enter Tryd.func25, Tryd.ntmps25
  go_wp2_with (fail)
  refine HJ.out.mono ?_
  rintro e w1 ⟨v, rfl, hR, hb⟩
  have HB1 := Aside0.mk (below_step HB.out hb)
  obtain ⟨Aj, cj, rfl⟩ := Kd.R_slice hR
  have HR := Aside0.mk (Kd.R_reads' hR).2.2
  clear hR hb HJ
  go_wp2_with (fail)
  refine (sum_calls Aj _ cj j w1 HR.out HBj.out (by have := HLj.out; omega) (HLf.out.below HB1.out) (HL.out.below HB1.out)).mono ?_
  rintro e w2 ⟨rfl, hb⟩
  have HB2 := Aside0.mk (below_step HB1.out hb)
  have HDl := Aside0.mk (shaV_length j)
  clear hb
  obtain ⟨d, hd⟩ : ∃ d, d = shaV j := ⟨_, rfl⟩
  rw [← hd] at HDl ⊢
  have HDe := Aside0.mk hd
  clear hd
  have HD1 := Aside0.mk (dig_info HDl.out)
  have HD2 : Aside0 ((dA (List.replicate 32 0)).size = (dA d).size) := ⟨by rw [dA_size, dA_size, HDl.out]; rfl⟩
  have HD3 := Aside0.mk (dA_one d)
  have HB3 : Aside0 (Below w.heap.size w (w2.alloc (.cells (dA d) 63))) := ⟨bel_alloc HB2.out _⟩
  have HDr : Aside0 (Kd.C (Kd.int .u8) (w2.alloc (.cells (dA d) 63)) (some ⟨w2.heap.size, 0, none⟩) 16 (d.take 16)) := ⟨take_rows 16 (by rw [HDl.out]; decide) (dig_reads (heap_alloc_new _ _) HDl.out (by decide))⟩
  go_wp2_with (rw [z32_lit]; (with_reducible refine wpList_store_row rfl 63 (.tmp 5) (.tmp 10) rfl w2.heap.size (dA d) rfl rfl 63 (dA (List.replicate 32 0)) (heap_alloc_new _ _) HD1.out HD2.out HD3.out ?_); rw [World.setRow_alloc_new])
  refine (Clone.clone_calls (some ⟨w2.heap.size, 0, none⟩) 16 16 (d.take 16) _ HDr.out (by decide)).mono ?_
  rintro e w4 ⟨v, rfl, hR, hb⟩
  have HR4 := Aside0.mk (Kd.R_lower hR HB3.out.size)
  have HB4 := Aside0.mk (below_step HB3.out hb)
  clear hR hb
  go_wp2
  go_ret
  exact ⟨v, rfl, by rw [← HDe.out]; exact HR4.out, HB4.out⟩
end Go.Proofs.YtpndobhakmjglaaDoor.Store
