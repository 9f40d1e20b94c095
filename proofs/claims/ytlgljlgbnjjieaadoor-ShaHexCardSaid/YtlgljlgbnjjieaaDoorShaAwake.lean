/- cupellaw01.awake: the chapter's examples hold. -/
import Derived.Test.YtlgljlgbnjjieaaDoorShaTop
import Derived.Deep.WholeRow
namespace Go.Proofs.YtlgljlgbnjjieaaDoor.Sha
open Go.RowKit Go.Proofs.YtlgljlgbnjjieaaDoorW.PrintWords Go.Proofs.YtlgljlgbnjjieaaDoorW.PrintLast Go.Proofs.YtlgljlgbnjjieaaDoorW.PrintMore Go.Proofs.YtlgljlgbnjjieaaDoor.K
set_option linter.unusedVariables false
theorem shaV_one (l : List Int) (h : l.length < 56) : shaV l = digL (turnV init (l ++ (tail1 l.length ++ be8 (8 * l.length)))) := by
  have e : (l ++ (tail1 l.length ++ be8 (8 * l.length))).length = 64 := by
    simp only [List.length_append, tail1, List.length_cons, List.length_replicate, be8, List.length_nil]
    omega
  unfold shaV sumOf
  rw [absorb_ge (by omega), absorb_lt (by rw [List.length_drop]; omega), List.take_of_length_le (by omega)]
set_option maxRecDepth 100000 in
theorem nil4 : (shaV []).take 4 = [227, 176, 196, 66] := by
  rw [shaV_one [] (by decide)]
  decide +kernel
set_option maxRecDepth 100000 in
theorem abc4 : (shaV [97, 98, 99]).take 4 = [186, 120, 22, 191] := by
  rw [shaV_one [97, 98, 99] (by decide)]
  decide +kernel
theorem take4 {d : List Int} {a b c e : Int} (h : d.take 4 = [a, b, c, e]) : d.getD 0 0 = a ∧ d.getD 1 0 = b ∧ d.getD 2 0 = c ∧ d.getD 3 0 = e := by
  match d, h with
  | [], h => cases h
  | [_], h => cases h
  | [_, _], h => cases h
  | [_, _, _], h => cases h
  | x :: y :: z :: u :: d, h =>
    simp at h
    simp [h]
theorem dig_cell {w : World} {g : Nat} {d : List Int} (h : w.heap[g]? = some (.cells (dA d) 25 (0, 0))) (i : Nat) (hi : i < d.length) : w.cell? ⟨g, i, none⟩ = some (.int .u8 (d.getD i 0)) := (blk_cell h i).trans (dA_get d i hi)
set_option maxHeartbeats 4000000 in
set_option maxRecDepth 100000 in
theorem awake_calls (w : World) (hLf : LaidAt w 0 firstA) (hL : LaidAt w 1 constA) :
    Calls Tryd.prog 8 #[] w fun e w' => e = .returned (.bool true) ∧ Below w.heap.size w w' := by
  have HLf := Aside0.mk hLf
  have HL := Aside0.mk hL
  clear hLf hL
  obtain ⟨d, hd⟩ : ∃ d, d = shaV [] := ⟨_, rfl⟩
  have HD := Aside0.mk hd
  have HD1 : Aside0 ((Tryd.prog.info? 25).map (·.size) = some (dA d).size) := ⟨by rw [hd]; exact dig_info (shaV_length [])⟩
  have HD2 : Aside0 ((dA (List.replicate 32 0)).size = (dA d).size) := ⟨by rw [hd, dA_size, dA_size, shaV_length]; rfl⟩
  have HD3 := Aside0.mk (dA_one d)
  have HDl : Aside0 (d.length = 32) := ⟨by rw [hd]; exact shaV_length []⟩
  have HDv : Aside0 (d.getD 0 0 = 227 ∧ d.getD 1 0 = 176 ∧ d.getD 2 0 = 196 ∧ d.getD 3 0 = 66) := ⟨take4 (by rw [hd]; exact nil4)⟩
  clear hd
  obtain ⟨b, hb⟩ : ∃ b, b = shaV [97, 98, 99] := ⟨_, rfl⟩
  have HE := Aside0.mk hb
  have HE1 : Aside0 ((Tryd.prog.info? 25).map (·.size) = some (dA b).size) := ⟨by rw [hb]; exact dig_info (shaV_length _)⟩
  have HE2 : Aside0 ((dA (List.replicate 32 0)).size = (dA b).size) := ⟨by rw [hb, dA_size, dA_size, shaV_length]; rfl⟩
  have HE3 := Aside0.mk (dA_one b)
  have HEl : Aside0 (b.length = 32) := ⟨by rw [hb]; exact shaV_length _⟩
  have HEv : Aside0 (b.getD 0 0 = 186 ∧ b.getD 1 0 = 120 ∧ b.getD 2 0 = 22 ∧ b.getD 3 0 = 191) := ⟨take4 (by rw [hb]; exact abc4)⟩
  clear hb
  have kc := fun (w : World) (C : Array Value) (n c : Nat) => Lib.run_convert_bytes_const (P := Tryd.prog) w 22 5 C n c Tryd.underlying22 Tryd.underlying5
  go_enter Tryd.func8, Tryd.ntmps8
  go_wp2_with (fail)
  refine (sum_calls none 0 0 [] w (Kd.C_nil _ _) (fun x hx => by cases hx) (by decide) HLf.out HL.out).mono ?_
  rintro e w1 ⟨rfl, hb1⟩
  have HB1 := Aside0.mk hb1
  clear hb1
  rw [← HD.out]
  go_wp2_with (rw [z32_lit]; with_reducible refine wpList_store_row rfl 25 (.tmp 1) (.tmp 3) rfl w1.heap.size (dA d) rfl rfl 25 (dA (List.replicate 32 0)) (heap_alloc_new _ _) HD1.out HD2.out HD3.out ?_; rw [World.setRow_alloc_new]; have HB2 : Aside0 (Below w.heap.size w (w1.alloc (.cells (dA d) 25))) := ⟨below_step HB1.out (bel_alloc (Below.refl _ _) _)⟩; have HA2 : Aside0 ((w1.alloc (.cells (dA d) 25)).heap[w1.heap.size]? = some (.cells (dA d) 25 (0, 0))) := ⟨heap_alloc_new _ _⟩; generalize w1.alloc (.cells (dA d) 25) = w2 at *; generalize w1.heap.size = g1 at *)
  have HB3 : Aside0 (∀ o : Obj, Below w2.heap.size w2 (w2.alloc o)) := ⟨fun o => bel_alloc (Below.refl _ _) o⟩
  refine (sum_calls (some ⟨w2.heap.size, 0, none⟩) 3 3 [97, 98, 99] _ (C_int (reads_lit_fr w2 .u8 5 _ [97, 98, 99] (by decide))) (by decide) (by decide) (HLf.out.below (below_step HB2.out (HB3.out _))) (HL.out.below (below_step HB2.out (HB3.out _)))).mono ?_
  rintro e w4 ⟨rfl, hb4⟩
  have HB4 : Aside0 (Below w.heap.size w w4) := ⟨below_step (below_step HB2.out (HB3.out _)) hb4⟩
  have HA4 : Aside0 (w4.heap[g1]? = some (.cells (dA d) 25 (0, 0))) := ⟨by
    have h1 : ∀ o : Obj, (w2.alloc o).heap[g1]? = some (.cells (dA d) 25 (0, 0)) := fun o => ((HB3.out o).block _ (blk_lt HA2.out)).trans HA2.out
    exact (hb4.block _ (blk_lt (h1 _))).trans (h1 _)⟩
  clear hb4 HB3 HB2 HA2
  rw [← HE.out]
  go_wp2_with (rw [z32_lit]; with_reducible refine wpList_store_row rfl 25 (.tmp 2) (.tmp 6) rfl w4.heap.size (dA b) rfl rfl 25 (dA (List.replicate 32 0)) (heap_alloc_new _ _) HE1.out HE2.out HE3.out ?_; rw [World.setRow_alloc_new]; have HB5 : Aside0 (Below w.heap.size w (w4.alloc (.cells (dA b) 25))) := ⟨below_step HB4.out (bel_alloc (Below.refl _ _) _)⟩; have HA5 : Aside0 ((w4.alloc (.cells (dA b) 25)).heap[w4.heap.size]? = some (.cells (dA b) 25 (0, 0))) := ⟨heap_alloc_new _ _⟩; have HA5' : Aside0 ((w4.alloc (.cells (dA b) 25)).heap[g1]? = some (.cells (dA d) 25 (0, 0))) := ⟨((bel_alloc (Below.refl _ _) _).block _ (blk_lt HA4.out)).trans HA4.out⟩; generalize w4.alloc (.cells (dA b) 25) = w5 at *; generalize w4.heap.size = g4 at *; have c0 : w5.cell? ⟨g1, 0, none⟩ = some (.int .u8 227) := (by rw [← HDv.out.1]; exact dig_cell HA5'.out 0 (by rw [HDl.out]; decide)); have c1 : w5.cell? ⟨g1, 1, none⟩ = some (.int .u8 176) := (by rw [← HDv.out.2.1]; exact dig_cell HA5'.out 1 (by rw [HDl.out]; decide)); have c2 : w5.cell? ⟨g1, 2, none⟩ = some (.int .u8 196) := (by rw [← HDv.out.2.2.1]; exact dig_cell HA5'.out 2 (by rw [HDl.out]; decide)); have c3 : w5.cell? ⟨g1, 3, none⟩ = some (.int .u8 66) := (by rw [← HDv.out.2.2.2]; exact dig_cell HA5'.out 3 (by rw [HDl.out]; decide)); have e0 : w5.cell? ⟨g4, 0, none⟩ = some (.int .u8 186) := (by rw [← HEv.out.1]; exact dig_cell HA5.out 0 (by rw [HEl.out]; decide)); have e1 : w5.cell? ⟨g4, 1, none⟩ = some (.int .u8 120) := (by rw [← HEv.out.2.1]; exact dig_cell HA5.out 1 (by rw [HEl.out]; decide)); have e2 : w5.cell? ⟨g4, 2, none⟩ = some (.int .u8 22) := (by rw [← HEv.out.2.2.1]; exact dig_cell HA5.out 2 (by rw [HEl.out]; decide)); have e3 : w5.cell? ⟨g4, 3, none⟩ = some (.int .u8 191) := (by rw [← HEv.out.2.2.2]; exact dig_cell HA5.out 3 (by rw [HEl.out]; decide)))
  go_ret
  exact ⟨rfl, HB5.out⟩
end Go.Proofs.YtlgljlgbnjjieaaDoor.Sha
