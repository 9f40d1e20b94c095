/- sha's Sum: the digest of what a hash has taken. -/
import Derived.Test.YtpndobhakmjglaaDoorShaNew
import Derived.Laws.Tables
import Derived.Laws.CopyOwn
namespace Go.Proofs.YtpndobhakmjglaaDoor.Sha
open Go.RowKit Go.Proofs.YtpndobhakmjglaaDoorW.PrintWords Go.Proofs.YtpndobhakmjglaaDoorW.PrintLast Go.Proofs.YtpndobhakmjglaaDoorW.PrintMore Go.Proofs.YtpndobhakmjglaaDoor.K
set_option linter.unusedVariables false
theorem be8_byte (q : Int) : ∀ x ∈ be8 q, 0 ≤ x ∧ x < 256 := by
  intro x hx
  simp only [be8, List.mem_cons, List.not_mem_nil, or_false] at hx
  rcases hx with rfl | rfl | rfl | rfl | rfl | rfl | rfl | rfl <;> omega
def dA (d : List Int) : Array Value := (nums .u8 d).toArray
theorem dA_size (d : List Int) : (dA d).size = d.length := by simp [dA, nums]
theorem dA_one (d : List Int) : (dA d).all (·.oneCell') = true := by
  rw [Array.all_eq_true_iff_forall_mem]
  intro v hv
  simp only [dA, nums, List.mem_toArray, List.mem_map] at hv
  obtain ⟨x, _, rfl⟩ := hv
  rfl
theorem dA_get (d : List Int) (i : Nat) (h : i < d.length) : (dA d)[i]? = some (.int .u8 (d.getD i 0)) := by
  simp [dA, nums, List.getElem?_eq_getElem h, List.getD_eq_getElem?_getD]
theorem dA_set (d : List Int) (i : Nat) (x : Int) : (dA d).setIfInBounds i (.int .u8 x) = dA (d.set i x) := by
  apply Array.ext'
  simp [dA, nums, List.map_set]
/-- The digest's byte j. -/
def db (s : St) (j : Nat) : Int := (be4 (s.l.getD (j / 4) 0).toNat).getD (j % 4) 0
def digP (s : St) (i : Nat) : List Int := (List.range 32).map fun j => if j < 4 * i then db s j else 0
theorem digP_end (s : St) : digP s 8 = digL s := rfl
theorem digP_length (s : St) (i : Nat) : (digP s i).length = 32 := by simp [digP]
theorem db_at (s : St) (i k : Nat) (hk : k < 4) : db s (4 * i + k) = (be4 (s.l.getD i 0).toNat).getD k 0 := by
  unfold db
  rw [show (4 * i + k) / 4 = i by omega, show (4 * i + k) % 4 = k by omega]
theorem digP_step (s : St) (i : Nat) (hi : i < 8) :
    ((((digP s i).set (4 * i) (wi (s.l.getD i 0) / 16777216 % 256)).set (4 * i + 1) (wi (s.l.getD i 0) / 65536 % 256)).set (4 * i + 2) (wi (s.l.getD i 0) / 256 % 256)).set (4 * i + 3) (wi (s.l.getD i 0) % 256) = digP s (i + 1) := by
  have e0 : db s (4 * i) = wi (s.l.getD i 0) / 16777216 % 256 := db_at s i 0 (by decide)
  have e1 : db s (4 * i + 1) = wi (s.l.getD i 0) / 65536 % 256 := db_at s i 1 (by decide)
  have e2 : db s (4 * i + 2) = wi (s.l.getD i 0) / 256 % 256 := db_at s i 2 (by decide)
  have e3 : db s (4 * i + 3) = wi (s.l.getD i 0) % 256 := db_at s i 3 (by decide)
  rw [← e0, ← e1, ← e2, ← e3]
  refine List.ext_getElem (by simp [digP]) fun j h1 h2 => ?_
  simp only [digP, List.getElem_set, List.getElem_map, List.getElem_range]
  by_cases h3 : 4 * i + 3 = j
  · subst h3
    rw [if_pos rfl, if_pos (by omega)]
  · rw [if_neg h3]
    by_cases h4 : 4 * i + 2 = j
    · subst h4
      rw [if_pos rfl, if_pos (by omega)]
    · rw [if_neg h4]
      by_cases h5 : 4 * i + 1 = j
      · subst h5
        rw [if_pos rfl, if_pos (by omega)]
      · rw [if_neg h5]
        by_cases h6 : 4 * i = j
        · subst h6
          rw [if_pos rfl, if_pos (by omega)]
        · rw [if_neg h6]
          by_cases h7 : j < 4 * i
          · rw [if_pos h7, if_pos (by omega)]
          · rw [if_neg h7, if_neg (by omega)]
/-- The digest's block (go), being filled; the result's block. -/
def OutL (w : World) (z : Array Value) (go : Nat) (d : List Int) (wr : World) : Prop :=
  wr.heap[go]? = some (.cells (dA d) 63 (0, 0)) ∧ wr.heap[w.heap.size]? = some (.cells z 63 (0, 0)) ∧ Below w.heap.size w wr ∧ w.heap.size < go
theorem OutL.set {w : World} {z : Array Value} {go : Nat} {d : List Int} {wr : World} (h : OutL w z go d wr) (j : Nat) (x : Int) : OutL w z go (d.set j x) (wr.setCell ⟨go, j, none⟩ (.int .u8 x)) :=
  ⟨by rw [← dA_set]; exact blk_set h.1 j _, blk_far h.2.1 (by have := h.2.2.2; show w.heap.size ≠ go; omega) _, h.2.2.1.setCell (Nat.le_of_lt h.2.2.2) _, h.2.2.2⟩
def OutW (w : World) (z : Array Value) (go : Nat) (s : St) (i : Nat) (wr : World) : Prop := OutL w z go (digP s i) wr
theorem OutW.cell {w : World} {z : Array Value} {go : Nat} {s : St} {i : Nat} {wr : World} (h : OutW w z go s i wr) (j : Nat) (hj : j < 32) : wr.cell? ⟨go, j, none⟩ = some (.int .u8 ((digP s i).getD j 0)) :=
  (blk_cell h.1 j).trans (dA_get _ _ (by rw [digP_length]; exact hj))
theorem OutW.set {w : World} {z : Array Value} {go : Nat} {s : St} {i : Nat} {wr : World} (h : OutW w z go s i wr) (j : Nat) (x : Int) : OutL w z go ((digP s i).set j x) (wr.setCell ⟨go, j, none⟩ (.int .u8 x)) := OutL.set h j x
set_option maxHeartbeats 4000000 in
set_option maxRecDepth 100000 in
theorem hsum_calls (B g : Nat) (v : Value) (s : St) (r : List Int) (n : Nat) (w : World) (hH : HashAt w B g v s r n) (hB : B ≤ w.heap.size) (hby : ∀ x ∈ r, 0 ≤ x ∧ x < 256) (hr : r.length < 64) (hrn : r.length = n % 64) (hn : n ≤ 1125899906842624)
    (hg : 1 < B) (hL : LaidAt w 1 constA) :
    Calls Tryd.prog 39 #[.pointer (some ⟨g, 0, none⟩)] w fun e w' => e = .returned (.agg (dA (sumOf s r n))) ∧ Below w.heap.size w w' := by
  have HH0 := Aside0.mk hH
  have HB := Aside0.mk hB
  have HBy := Aside0.mk hby
  have HR64 := Aside0.mk hr
  have HRn := Aside0.mk hrn
  have HN := Aside0.mk hn
  have HG := Aside0.mk hg
  have HL := Aside0.mk hL
  obtain ⟨Av, cv, rfl, hcv⟩ := Kd.Q_slice hH.2.2
  obtain ⟨sa, sb, sc, sd, se, sf, sg, sh⟩ := s
  clear hH hB hby hrn hg hL hcv
  go_enter Tryd.func39, Tryd.ntmps39
  go_wp2
  obtain ⟨z32, hz⟩ : ∃ z : Array Value, z = (nums .u8 (List.replicate 32 0)).toArray := ⟨_, rfl⟩
  have HW1 : Aside0 (∃ w1, w1 = w.alloc (.cells z32 63)) := ⟨_, rfl⟩
  obtain ⟨w1, hw1⟩ := HW1.out
  clear HW1
  rw [show (w.alloc (.cells #[.int .u8 0, .int .u8 0, .int .u8 0, .int .u8 0, .int .u8 0, .int .u8 0, .int .u8 0, .int .u8 0, .int .u8 0, .int .u8 0, .int .u8 0, .int .u8 0, .int .u8 0, .int .u8 0, .int .u8 0, .int .u8 0, .int .u8 0, .int .u8 0, .int .u8 0, .int .u8 0, .int .u8 0, .int .u8 0, .int .u8 0, .int .u8 0, .int .u8 0, .int .u8 0, .int .u8 0, .int .u8 0, .int .u8 0, .int .u8 0, .int .u8 0, .int .u8 0] 63)) = w1 by rw [hw1, hz]; rfl]
  have HH : Aside0 (HashAt w1 B g (.slice Av r.length cv) ⟨sa, sb, sc, sd, se, sf, sg, sh⟩ r n) := ⟨by rw [hw1]; exact HH0.out.below (bel_alloc (Below.refl _ _) _)⟩
  have HB1 : Aside0 (Below w.heap.size w w1) := ⟨by rw [hw1]; exact bel_alloc (Below.refl _ _) _⟩
  have HR1 : Aside0 (w1.heap[w.heap.size]? = some (.cells z32 63 (0, 0))) := ⟨by rw [hw1]; exact heap_alloc_new _ _⟩
  have HS1 : Aside0 (w1.heap.size = w.heap.size + 1) := ⟨by rw [hw1, World.size_alloc]⟩
  have HZ := Aside0.mk hz
  clear hw1 hz HH0
  have HC : Aside0 (Kd.C (Kd.int .u8) w1.drew Av r.length r) := ⟨Kd.C_drewN (Kd.Q_reads' HH.out.2.2).2.2 1⟩
  have h0 : w1.cell? ⟨g, 0, none⟩ = some (.int .u32 (wi sa)) := blk_cell HH.out.2.1 0
  have h1 : w1.cell? ⟨g, 1, none⟩ = some (.int .u32 (wi sb)) := blk_cell HH.out.2.1 1
  have h2 : w1.cell? ⟨g, 2, none⟩ = some (.int .u32 (wi sc)) := blk_cell HH.out.2.1 2
  have h3 : w1.cell? ⟨g, 3, none⟩ = some (.int .u32 (wi sd)) := blk_cell HH.out.2.1 3
  have h4 : w1.cell? ⟨g, 4, none⟩ = some (.int .u32 (wi se)) := blk_cell HH.out.2.1 4
  have h5 : w1.cell? ⟨g, 5, none⟩ = some (.int .u32 (wi sf)) := blk_cell HH.out.2.1 5
  have h6 : w1.cell? ⟨g, 6, none⟩ = some (.int .u32 (wi sg)) := blk_cell HH.out.2.1 6
  have h7 : w1.cell? ⟨g, 7, none⟩ = some (.int .u32 (wi sh)) := blk_cell HH.out.2.1 7
  have h8 : w1.cell? ⟨g, 8, none⟩ = some (.slice Av r.length cv) := blk_cell HH.out.2.1 8
  go_wp2
  refine start_ (n := 12) (S := fun w' => w'.cell? ⟨g, 0, none⟩ = some (.int .u32 (wi sa)) ∧ w'.cell? ⟨g, 1, none⟩ = some (.int .u32 (wi sb)) ∧ w'.cell? ⟨g, 2, none⟩ = some (.int .u32 (wi sc)) ∧ w'.cell? ⟨g, 3, none⟩ = some (.int .u32 (wi sd)) ∧ w'.cell? ⟨g, 4, none⟩ = some (.int .u32 (wi se)) ∧ w'.cell? ⟨g, 5, none⟩ = some (.int .u32 (wi sf)) ∧ w'.cell? ⟨g, 6, none⟩ = some (.int .u32 (wi sg)) ∧ w'.cell? ⟨g, 7, none⟩ = some (.int .u32 (wi sh)) ∧ w'.cell? ⟨g, 8, none⟩ = some (.slice Av r.length cv)) (ds := []) #[false, false, false, false, false, false, false, false, false, false, false, false] (by kernel_rfl) rfl rfl ⟨h0, h1, h2, h3, h4, h5, h6, h7, h8⟩ (fun hHeld => ?_)
  refine pure_ (i := 0) (N := some 15) (v := ?_) (a' := ?_) #[true, false, false, false, false, false, false, false, false, false, false, false] rfl rfl (by kernel_rfl) (fun _ _ _ h => h) (Or.inl ⟨by rfl, ?_⟩) ?_ ?_
  rotate_left
  · intro w'
    go_simp
    with_reducible rfl
  rotate_left
  · simp only [Act.put, List.setIfInBounds_toArray, List.set_cons_zero, List.set_cons_succ]
    rfl
  refine pure_ (i := 1) (N := some 16) (v := ?_) (a' := ?_) #[true, true, false, false, false, false, false, false, false, false, false, false] rfl rfl (by kernel_rfl) (fun _ _ _ h => h) (Or.inl ⟨by rfl, ?_⟩) ?_ ?_
  rotate_left
  · intro w'
    go_simp
    with_reducible rfl
  rotate_left
  · simp only [Act.put, List.setIfInBounds_toArray, List.set_cons_zero, List.set_cons_succ]
    rfl
  refine pure_ (i := 2) (N := some 17) (v := ?_) (a' := ?_) #[true, true, true, false, false, false, false, false, false, false, false, false] rfl rfl (by kernel_rfl) (fun _ _ _ h => h) (Or.inl ⟨by rfl, ?_⟩) ?_ ?_
  rotate_left
  · intro w'
    go_simp
    with_reducible rfl
  rotate_left
  · simp only [Act.put, List.setIfInBounds_toArray, List.set_cons_zero, List.set_cons_succ]
    rfl
  refine pure_ (i := 4) (N := some 19) (v := ?_) (a' := ?_) #[true, true, true, false, true, false, false, false, false, false, false, false] rfl rfl (by kernel_rfl) (fun _ _ _ h => h) (Or.inl ⟨by rfl, ?_⟩) ?_ ?_
  rotate_left
  · intro w'
    go_simp
    with_reducible rfl
  rotate_left
  · simp only [Act.put, List.setIfInBounds_toArray, List.set_cons_zero, List.set_cons_succ]
    rfl
  refine pure_ (i := 5) (N := some 20) (v := ?_) (a' := ?_) #[true, true, true, false, true, true, false, false, false, false, false, false] rfl rfl (by kernel_rfl) (fun _ _ _ h => h) (Or.inl ⟨by rfl, ?_⟩) ?_ ?_
  rotate_left
  · intro w'
    go_simp
    with_reducible rfl
  rotate_left
  · simp only [Act.put, List.setIfInBounds_toArray, List.set_cons_zero, List.set_cons_succ]
    rfl
  refine pure_ (i := 6) (N := some 21) (v := ?_) (a' := ?_) #[true, true, true, false, true, true, true, false, false, false, false, false] rfl rfl (by kernel_rfl) (fun _ _ _ h => h) (Or.inl ⟨by rfl, ?_⟩) ?_ ?_
  rotate_left
  · intro w'
    go_simp
    with_reducible rfl
  rotate_left
  · simp only [Act.put, List.setIfInBounds_toArray, List.set_cons_zero, List.set_cons_succ]
    rfl
  refine take_ (i := 3) (N := some 18) (v := ?_) (a' := ?_) #[true, true, true, true, true, true, true, false, false, false, false, false] rfl rfl (by kernel_rfl) (fun _ _ _ h => h) (Or.inl ⟨by rfl, ?_⟩) hHeld ?_ ?_
  rotate_left
  · rintro w' ⟨s0, s1, s2, s3, s4, s5, s6, s7, s8⟩
    go_simp
    with_reducible rfl
  rotate_left
  · simp only [Act.put, List.setIfInBounds_toArray, List.set_cons_zero, List.set_cons_succ]
    rfl
  refine take_ (i := 7) (N := some 22) (v := ?_) (a' := ?_) #[true, true, true, true, true, true, true, true, false, false, false, false] rfl rfl (by kernel_rfl) (fun _ _ _ h => h) (Or.inl ⟨by rfl, ?_⟩) hHeld ?_ ?_
  rotate_left
  · rintro w' ⟨s0, s1, s2, s3, s4, s5, s6, s7, s8⟩
    go_simp
    with_reducible rfl
  rotate_left
  · simp only [Act.put, List.setIfInBounds_toArray, List.set_cons_zero, List.set_cons_succ]
    rfl
  refine one_ (i := 8) (N := some 23) #[true, true, true, true, true, true, true, true, true, false, false, false] rfl rfl (by kernel_rfl) (by decide) (fun K hK => ?_)
  refine goes_ Tryd.func27 (by kernel_rfl) rfl #[.slice Av r.length cv] (by rfl) rfl rfl (by simp only [List.map_toArray, List.map_cons, List.map_nil]; rfl) ?_
  with_reducible refine (Clone.clone_calls Av r.length cv r _ HC.out (by have := HR64.out; omega)).mono ?_
  rintro e w3 ⟨ve, rfl, hR, hb⟩
  refine ⟨_, rfl, ?_⟩
  have HRe := Aside0.mk hR
  have HBe := Aside0.mk hb
  clear hR
  obtain ⟨Ae, ce, rfl⟩ := Kd.R_slice HRe.out
  have g0 : w3.cell? ⟨g, 0, none⟩ = some (.int .u32 (wi sa)) := cell_keep hb h0
  have g1 : w3.cell? ⟨g, 1, none⟩ = some (.int .u32 (wi sb)) := cell_keep hb h1
  have g2 : w3.cell? ⟨g, 2, none⟩ = some (.int .u32 (wi sc)) := cell_keep hb h2
  have g3 : w3.cell? ⟨g, 3, none⟩ = some (.int .u32 (wi sd)) := cell_keep hb h3
  have g4 : w3.cell? ⟨g, 4, none⟩ = some (.int .u32 (wi se)) := cell_keep hb h4
  have g5 : w3.cell? ⟨g, 5, none⟩ = some (.int .u32 (wi sf)) := cell_keep hb h5
  have g6 : w3.cell? ⟨g, 6, none⟩ = some (.int .u32 (wi sg)) := cell_keep hb h6
  have g7 : w3.cell? ⟨g, 7, none⟩ = some (.int .u32 (wi sh)) := cell_keep hb h7
  have g8 : w3.cell? ⟨g, 8, none⟩ = some (.slice Av r.length cv) := cell_keep hb h8
  clear hb
  refine hK.out _ _ ⟨g0, g1, g2, g3, g4, g5, g6, g7, g8⟩ (fun hHeld => ?_)
  clear hK K
  refine norm_ (a' := ?_) ?_ ?_
  rotate_left
  · show Act.put _ (some 23) _ = _
    simp only [Act.put, List.setIfInBounds_toArray, List.set_cons_zero, List.set_cons_succ]
    rfl
  refine pure_ (i := 9) (N := some 24) (v := ?_) (a' := ?_) #[true, true, true, true, true, true, true, true, true, true, false, false] rfl rfl (by kernel_rfl) (fun _ _ _ h => h) (Or.inl ⟨by rfl, ?_⟩) ?_ ?_
  rotate_left
  · intro w'
    go_simp
    with_reducible rfl
  rotate_left
  · simp only [Act.put, List.setIfInBounds_toArray, List.set_cons_zero, List.set_cons_succ]
    rfl
  refine one_ (i := 10) (N := some 25) #[true, true, true, true, true, true, true, true, true, true, true, false] rfl rfl (by kernel_rfl) (by decide) (fun K hK => ?_)
  refine value_ (w1 := ?_) (v := ?_) (by rfl) rfl ?_ ?_
  rotate_left 2
  · go_simp
    constructor
    · rfl
    · rfl
  refine hK.out _ _ ⟨cell_keep (bel_alloc (Below.refl _ _) _) g0, cell_keep (bel_alloc (Below.refl _ _) _) g1, cell_keep (bel_alloc (Below.refl _ _) _) g2, cell_keep (bel_alloc (Below.refl _ _) _) g3, cell_keep (bel_alloc (Below.refl _ _) _) g4, cell_keep (bel_alloc (Below.refl _ _) _) g5, cell_keep (bel_alloc (Below.refl _ _) _) g6, cell_keep (bel_alloc (Below.refl _ _) _) g7, cell_keep (bel_alloc (Below.refl _ _) _) g8⟩ (fun hHeld => ?_)
  clear hK K
  refine norm_ (a' := ?_) ?_ ?_
  rotate_left
  · show Act.put _ (some 25) _ = _
    simp only [Act.put, List.setIfInBounds_toArray, List.set_cons_zero, List.set_cons_succ]
    rfl
  refine pure_ (i := 11) (N := some 3) (v := ?_) (a' := ?_) #[true, true, true, true, true, true, true, true, true, true, true, true] rfl rfl (by kernel_rfl) (fun _ _ _ h => h) (Or.inl ⟨by rfl, ?_⟩) ?_ ?_
  rotate_left
  · intro w'
    go_simp
    with_reducible rfl
  rotate_left
  · simp only [Act.put, List.setIfInBounds_toArray, List.set_cons_zero, List.set_cons_succ]
    rfl
  refine done_ (by kernel_rfl) ?_
  have HE : Aside0 (HashAt (w3.alloc (.cells #[.int .u32 (wi sa), .int .u32 (wi sb), .int .u32 (wi sc), .int .u32 (wi sd), .int .u32 (wi se), .int .u32 (wi sf), .int .u32 (wi sg), .int .u32 (wi sh), .slice Ae r.length ce, .int .i64 0] 76)) w.heap.size w3.heap.size (.slice Ae r.length ce) ⟨sa, sb, sc, sd, se, sf, sg, sh⟩ r 0) :=
    ⟨⟨Nat.le_trans HB1.out.size HBe.out.size, heap_alloc_new _ _, Kd.Q_alloc (Kd.Q_of_R (Kd.R_lower HRe.out HB1.out.size)) _⟩⟩
  have HBW := Aside0.mk (below_step (below_step HB1.out (pw_below_drewN (Below.refl _ _) 1)) (bel_alloc HBe.out (.cells #[.int .u32 (wi sa), .int .u32 (wi sb), .int .u32 (wi sc), .int .u32 (wi sd), .int .u32 (wi se), .int .u32 (wi sf), .int .u32 (wi sg), .int .u32 (wi sh), .slice Ae r.length ce, .int .i64 0] 76)))
  have HR4 := Aside0.mk (((bel_alloc HBe.out (.cells #[.int .u32 (wi sa), .int .u32 (wi sb), .int .u32 (wi sc), .int .u32 (wi sd), .int .u32 (wi se), .int .u32 (wi sf), .int .u32 (wi sg), .int .u32 (wi sh), .slice Ae r.length ce, .int .i64 0] 76)).block w.heap.size (show w.heap.size < w1.drew.heap.size by rw [show w1.drew.heap.size = w1.heap.size from rfl, HS1.out]; omega)).trans HR1.out)
  have h9 : (w3.alloc (.cells #[.int .u32 (wi sa), .int .u32 (wi sb), .int .u32 (wi sc), .int .u32 (wi sd), .int .u32 (wi se), .int .u32 (wi sf), .int .u32 (wi sg), .int .u32 (wi sh), .slice Ae r.length ce, .int .i64 0] 76)).cell? ⟨g, 9, none⟩ = some (.int .i64 (n : Int)) :=
    cell_keep (bel_alloc HBe.out _) (show w1.drew.cell? ⟨g, 9, none⟩ = some (.int .i64 (n : Int)) from blk_cell HH.out.2.1 9)
  have hge : w.heap.size < w3.heap.size := by
    have h1 := HBe.out.size
    have h2 : w1.drew.heap.size = w.heap.size + 1 := HS1.out
    omega
  clear h0 h1 h2 h3 h4 h5 h6 h7 h8 g0 g1 g2 g3 g4 g5 g6 g7 g8 hHeld HC HH HB1 HR1 HS1 HBe HRe
  generalize w3.alloc (.cells #[.int .u32 (wi sa), .int .u32 (wi sb), .int .u32 (wi sc), .int .u32 (wi sd), .int .u32 (wi se), .int .u32 (wi sf), .int .u32 (wi sg), .int .u32 (wi sh), .slice Ae r.length ce, .int .i64 0] 76) = w4 at *
  generalize w3.heap.size = ge at *
  have e8 : w4.cell? ⟨ge, 8, none⟩ = some (.slice Ae r.length ce) := blk_cell HE.out.2.1 8
  have hu1 : IntKind.u64.wrap (n : Int) = (n : Int) := by have := HN.out; rw [IntKind.wrap_u64]; omega
  obtain ⟨q, hq⟩ : ∃ q : Nat, q = 8 * n := ⟨_, rfl⟩
  have hu2 : IntKind.u64.wrap ((n : Int) * 8) = (q : Int) := by have := HN.out; rw [IntKind.wrap_u64]; omega
  have HQ := Aside0.mk hq
  clear hq
  have hrI : (r.length : Int) < 64 := by omega
  have HL4 : Aside0 (LaidAt w4 1 constA) := ⟨by
    obtain ⟨t0, fr0, h1⟩ := HL.out
    exact ⟨t0, fr0, (HBW.out.block _ (Nat.lt_of_lt_of_le HG.out HB.out)).trans h1⟩⟩
  have HT1 : Aside0 ([128] ++ List.replicate ((119 - (r.length : Int)) % 64).toNat 0 = tail1 n) := ⟨by
    have h1 := HRn.out
    rw [show ((119 - (r.length : Int)) % 64).toNat = (119 - n % 64) % 64 by omega]
    rfl⟩
  have HTb : Aside0 (∀ x ∈ r ++ tail1 n, 0 ≤ x ∧ x < 256) := ⟨fun x hx => by
    rcases List.mem_append.1 hx with h1 | h1
    · exact HBy.out x h1
    · unfold tail1 at h1
      rcases List.mem_cons.1 h1 with rfl | h2
      · decide
      · rw [(List.mem_replicate.1 h2).2]
        decide⟩
  have HTl : Aside0 ((tail1 n).length ≤ 64) := ⟨by
    unfold tail1
    simp only [List.length_cons, List.length_replicate]
    omega⟩
  obtain ⟨zn, hzn⟩ : ∃ zn : Int, zn = (119 - (r.length : Int)) % 64 := ⟨_, rfl⟩
  have hzn0 : 0 ≤ zn := by omega
  rw [← hzn] at HT1
  have HZn := Aside0.mk hzn
  clear hzn hr
  go_wp2_with (first
    | (at_builtin; refine Kd.R_append_zeros (Kd.int .u8) (w0 := w4) (W := w4.alloc (.cells #[.int .u8 128] 5)) w4.heap.size rfl (.tmp 40) (.tmp 41) 22 3 5 (.int .u8 0) 1 rfl Tryd.underlying22 Tryd.underlying3 info_u8 rfl (by decide) (by decide) (.slice (some ⟨w4.heap.size, 0, none⟩) 1 1) [128] (0 : Int) (kx := .i64) zn (fun _ => True) rfl (by rw [HZn.out]; rfl) rfl (fun _ _ => trivial) (R_int (own_lit w4 w4.heap.size 5 .u8 [128] (Nat.le_refl _) (by decide))) hzn0 (bel_alloc (Below.refl _ _) _) (bel_size (Below.refl _ _) _) (by have := HZn.out; simp; omega) ?_; intro v5 w5 hv5 hb5 _ _; rw [HT1.out] at hv5; obtain ⟨A5, c5, rfl⟩ := Kd.R_slice hv5; have HV5 := Aside0.mk (Kd.R_reads' hv5).2.2; have HB5 := Aside0.mk hb5; clear hv5 hb5)
    | (fail))
  refine (write_calls w.heap.size ge (.slice Ae r.length ce) ⟨sa, sb, sc, sd, se, sf, sg, sh⟩ r 0 A5 (tail1 n).length c5 (tail1 n) w5 (HE.out.below HB5.out) (Nat.le_trans HBW.out.size HB5.out.size) HV5.out HTb.out (by have := HTl.out; have := HR64.out; omega) (by decide) (by have := HTl.out; omega) (Nat.lt_of_lt_of_le HG.out HB.out) (HL4.out.below HB5.out)).mono ?_
  intro e w6 hw6
  obtain ⟨rfl, v6, hH6, hO6, hK6, hb6⟩ := hw6
  have HH6 := Aside0.mk hH6
  have HB6 : Aside0 (Below w.heap.size w5 w6) := ⟨hb6⟩
  have HB6' : Aside0 (Below w.heap.size w w6) := ⟨(below_step HBW.out HB5.out).trans hb6⟩
  have HR6 : Aside0 (w6.heap[w.heap.size]? = some (.cells z32 63 (0, 0))) := ⟨by
    have h5 := (HB5.out.block w.heap.size (blk_lt HR4.out)).trans HR4.out
    refine (hK6.2 w.heap.size (blk_lt h5) ?_).trans h5
    rintro (h1 | h1)
    · omega
    · have h2 := Kd.Q_ne (Kd.Q_below HE.out.2.2 HB5.out) h5 (by decide)
      exact h2 h1⟩
  have HS6 : Aside0 (w.heap.size < w6.heap.size) := ⟨blk_lt HR6.out⟩
  have HL6 : Aside0 (LaidAt w6 1 constA) := ⟨by
    obtain ⟨t0, fr0, h1⟩ := HL.out
    exact ⟨t0, fr0, (HB6'.out.block _ (Nat.lt_of_lt_of_le HG.out HB.out)).trans h1⟩⟩
  have HAb : Aside0 (∀ y, absorb ⟨sa, sb, sc, sd, se, sf, sg, sh⟩ (r ++ (tail1 n ++ y)) = absorb (absorb ⟨sa, sb, sc, sd, se, sf, sg, sh⟩ (r ++ tail1 n)).1 ((absorb ⟨sa, sb, sc, sd, se, sf, sg, sh⟩ (r ++ tail1 n)).2 ++ y)) := ⟨fun y => by rw [← List.append_assoc]; exact absorb_append _ _ _ _ (Nat.le_refl _)⟩
  have HBy6 : Aside0 (∀ x ∈ (absorb ⟨sa, sb, sc, sd, se, sf, sg, sh⟩ (r ++ tail1 n)).2, 0 ≤ x ∧ x < 256) := ⟨(absorb_rest _ _ _ (Nat.le_refl _)).2 HTb.out⟩
  have HLn6 : Aside0 ((absorb ⟨sa, sb, sc, sd, se, sf, sg, sh⟩ (r ++ tail1 n)).2.length < 64) := ⟨by rw [(absorb_rest _ _ _ (Nat.le_refl _)).1]; omega⟩
  obtain ⟨s6, r6, h6⟩ : ∃ s6 r6, absorb ⟨sa, sb, sc, sd, se, sf, sg, sh⟩ (r ++ tail1 n) = (s6, r6) := ⟨_, _, rfl⟩
  rw [h6] at HH6 HAb HBy6 HLn6
  clear hH6 hO6 hK6 hb6 h6 HE HBW HR4 HL4 HB5 HV5 HTb HT1 h9 e8 HB6
  go_wp2
  refine wp_loop_rounds 9 ?_
  rw [rounds_succ]
  go_wp2
  rw [rounds_succ]
  go_wp2
  rw [rounds_succ]
  go_wp2
  rw [rounds_succ]
  go_wp2
  rw [rounds_succ]
  go_wp2
  rw [rounds_succ]
  go_wp2
  rw [rounds_succ]
  go_wp2
  rw [rounds_succ]
  go_wp2
  rw [rounds_succ]
  go_wp2_with (fail)
  have HB7 : Aside0 (Below w6.heap.size w6 (w6.alloc (.cells (nums .u8 (be8 q)).toArray 79))) := ⟨bel_alloc (Below.refl _ _) _⟩
  refine (write_calls w.heap.size ge v6 s6 r6 (0 + ((tail1 n).length : Nat)) (some ⟨w6.heap.size, 0, none⟩) 8 8 (be8 q) _ (HH6.out.below HB7.out) (Nat.le_trans (Nat.le_of_lt HS6.out) HB7.out.size) (C_int (reads_lit w6 .u8 79 (be8 q) (by simp [be8]))) (fun x hx => by
    rcases List.mem_append.1 hx with h1 | h1
    · exact HBy6.out x h1
    · exact be8_byte q x h1) (by have := HLn6.out; omega) (by omega) (by have := HTl.out; omega) (Nat.lt_of_lt_of_le HG.out HB.out) (HL6.out.below HB7.out)).mono ?_
  intro e w8 hw8
  obtain ⟨rfl, v8, hH8, hO8, hK8, hb8⟩ := hw8
  have HH8 := Aside0.mk hH8
  have HB8 : Aside0 (Below w.heap.size w w8) := ⟨(HB6'.out.trans (bel_alloc (Below.refl _ _) _ |>.mono (Nat.le_of_lt HS6.out))).trans hb8⟩
  have HR8 : Aside0 (w8.heap[w.heap.size]? = some (.cells z32 63 (0, 0))) := ⟨by
    have h5 := (HB7.out.block w.heap.size (blk_lt HR6.out)).trans HR6.out
    refine (hK8.2 w.heap.size (blk_lt h5) ?_).trans h5
    rintro (h1 | h1)
    · omega
    · have h2 := Kd.Q_ne (HH6.out.below HB7.out).2.2 h5 (by decide)
      exact h2 h1⟩
  have HV : Aside0 (sumOf ⟨sa, sb, sc, sd, se, sf, sg, sh⟩ r n = digL (absorb s6 (r6 ++ be8 q)).1) := ⟨by
    unfold sumOf
    rw [HAb.out, HQ.out]
    rfl⟩
  clear hH8 hO8 hK8 hb8 HB7 HH6 HR6 HL6 HS6 HAb HBy6 HLn6 HB6'
  generalize (absorb s6 (r6 ++ be8 q)).1 = t at *
  generalize (absorb s6 (r6 ++ be8 q)).2 = r8 at *
  obtain ⟨m8, hm8⟩ : ∃ m8 : Int, m8 = 0 + ((tail1 n).length : Int) + (8 : Nat) := ⟨_, rfl⟩
  rw [← hm8] at HH8
  clear hm8
  obtain ⟨p0, p1, p2, p3, p4, p5, p6, p7⟩ := t
  have h0 : ∀ o : Obj, (w8.alloc o).cell? ⟨ge, 0, none⟩ = some (.int .u32 (wi p0)) := fun o => cell_keep (bel_alloc (Below.refl _ _) _) (blk_cell HH8.out.2.1 0)
  have h1 : ∀ o : Obj, (w8.alloc o).cell? ⟨ge, 1, none⟩ = some (.int .u32 (wi p1)) := fun o => cell_keep (bel_alloc (Below.refl _ _) _) (blk_cell HH8.out.2.1 1)
  have h2 : ∀ o : Obj, (w8.alloc o).cell? ⟨ge, 2, none⟩ = some (.int .u32 (wi p2)) := fun o => cell_keep (bel_alloc (Below.refl _ _) _) (blk_cell HH8.out.2.1 2)
  have h3 : ∀ o : Obj, (w8.alloc o).cell? ⟨ge, 3, none⟩ = some (.int .u32 (wi p3)) := fun o => cell_keep (bel_alloc (Below.refl _ _) _) (blk_cell HH8.out.2.1 3)
  have h4 : ∀ o : Obj, (w8.alloc o).cell? ⟨ge, 4, none⟩ = some (.int .u32 (wi p4)) := fun o => cell_keep (bel_alloc (Below.refl _ _) _) (blk_cell HH8.out.2.1 4)
  have h5 : ∀ o : Obj, (w8.alloc o).cell? ⟨ge, 5, none⟩ = some (.int .u32 (wi p5)) := fun o => cell_keep (bel_alloc (Below.refl _ _) _) (blk_cell HH8.out.2.1 5)
  have h6 : ∀ o : Obj, (w8.alloc o).cell? ⟨ge, 6, none⟩ = some (.int .u32 (wi p6)) := fun o => cell_keep (bel_alloc (Below.refl _ _) _) (blk_cell HH8.out.2.1 6)
  have h7 : ∀ o : Obj, (w8.alloc o).cell? ⟨ge, 7, none⟩ = some (.int .u32 (wi p7)) := fun o => cell_keep (bel_alloc (Below.refl _ _) _) (blk_cell HH8.out.2.1 7)
  go_wp2
  obtain ⟨go, hgo⟩ : ∃ go, go = w8.heap.size := ⟨_, rfl⟩
  have HO9 : Aside0 (OutW w z32 go ⟨p0, p1, p2, p3, p4, p5, p6, p7⟩ 0 (w8.alloc (.cells (dA (digP ⟨p0, p1, p2, p3, p4, p5, p6, p7⟩ 0)) 63))) := ⟨by
    rw [hgo]
    exact ⟨heap_alloc_new _ _, ((bel_alloc (Below.refl _ _) _).block _ (blk_lt HR8.out)).trans HR8.out, below_step HB8.out (bel_alloc (Below.refl _ _) _), blk_lt HR8.out⟩⟩
  rw [← hgo]
  clear h0 h1 h2 h3 h4 h5 h6 h7 hgo HH8
  go_loopw [63] (fun v63 wr => ∃ i : Nat, i ≤ 8 ∧ v63 = .int .i64 i ∧ Aside0 (OutW w z32 go ⟨p0, p1, p2, p3, p4, p5, p6, p7⟩ i wr)) (fun v63 _ => 8 - (intOf v63).toNat)
  case atStart => exact ⟨0, Nat.zero_le _, rfl, HO9⟩
  case round =>
    obtain ⟨i, hi, rfl, HO⟩ := hrel
    by_cases hlt : i < 8
    · have hix : ∀ W : World, (Instr.index 74 (.agg #[.int .u32 (wi p0), .int .u32 (wi p1), .int .u32 (wi p2), .int .u32 (wi p3), .int .u32 (wi p4), .int .u32 (wi p5), .int .u32 (wi p6), .int .u32 (wi p7)]) (.int .i64 (i : Int))).run Tryd.prog W = .ok (.int .u32 (wi ([p0, p1, p2, p3, p4, p5, p6, p7].getD i 0))) W := fun W =>
        run_index_int 74 73 8 _ .i64 .u32 i Tryd.underlying74 Tryd.underlying73 info_u32 hlt _ (sArr_get [p0, p1, p2, p3, p4, p5, p6, p7] i hlt) W
      have HS := Aside0.mk (digP_step ⟨p0, p1, p2, p3, p4, p5, p6, p7⟩ i hlt)
      obtain ⟨y, hy⟩ : ∃ y, y = wi ([p0, p1, p2, p3, p4, p5, p6, p7].getD i 0) := ⟨_, rfl⟩
      have HS2 : Aside0 (((((digP ⟨p0, p1, p2, p3, p4, p5, p6, p7⟩ i).set (4 * i) (y / 16777216 % 256)).set (4 * i + 1) (y / 65536 % 256)).set (4 * i + 2) (y / 256 % 256)).set (4 * i + 3) (y % 256) = digP ⟨p0, p1, p2, p3, p4, p5, p6, p7⟩ (i + 1)) := ⟨by rw [hy]; exact HS.out⟩
      rw [← hy] at hix
      clear hy HS
      have c0 : ∃ u, wr.cell? ⟨go, 4 * i, none⟩ = some u := ⟨_, HO.out.cell (4 * i) (by omega)⟩
      have c1 : ∃ u, wr.cell? ⟨go, 4 * i + 1, none⟩ = some u := ⟨_, HO.out.cell (4 * i + 1) (by omega)⟩
      have c2 : ∃ u, wr.cell? ⟨go, 4 * i + 2, none⟩ = some u := ⟨_, HO.out.cell (4 * i + 2) (by omega)⟩
      have c3 : ∃ u, wr.cell? ⟨go, 4 * i + 3, none⟩ = some u := ⟨_, HO.out.cell (4 * i + 3) (by omega)⟩
      obtain ⟨u0, c0⟩ := c0
      obtain ⟨u1, c1⟩ := c1
      obtain ⟨u2, c2⟩ := c2
      obtain ⟨u3, c3⟩ := c3
      have f0 : wr.frozen? ⟨go, 4 * i, none⟩ = false := blk_frozen HO.out.1 _
      have f1 : wr.frozen? ⟨go, 4 * i + 1, none⟩ = false := blk_frozen HO.out.1 _
      have f2 : wr.frozen? ⟨go, 4 * i + 2, none⟩ = false := blk_frozen HO.out.1 _
      have f3 : wr.frozen? ⟨go, 4 * i + 3, none⟩ = false := blk_frozen HO.out.1 _
      go_wp2
      refine wp_loop_rounds 5 ?_
      rw [rounds_succ]
      go_wp2
      rw [rounds_succ]
      go_wp2
      rw [rounds_succ]
      go_wp2
      rw [rounds_succ]
      go_wp2
      rw [rounds_succ]
      go_wp2
      go_roundw
      case measure => simp [intOf]; omega
      case rel => exact ⟨i + 1, by omega, by go_num, ⟨by rw [OutW, ← HS2.out]; exact ((((HO.out.set (4 * i) _).set (4 * i + 1) _).set (4 * i + 2) _).set (4 * i + 3) _)⟩⟩
    · obtain rfl : i = 8 := by omega
      have HD : Aside0 (digP ⟨p0, p1, p2, p3, p4, p5, p6, p7⟩ 8 = sumOf ⟨sa, sb, sc, sd, se, sf, sg, sh⟩ r n) := ⟨by rw [HV.out, digP_end]⟩
      have HO' : Aside0 (wr.heap[go]? = some (.cells (dA (digP ⟨p0, p1, p2, p3, p4, p5, p6, p7⟩ 8)) 63 (0, 0)) ∧ wr.heap[w.heap.size]? = some (.cells z32 63 (0, 0)) ∧ Below w.heap.size w wr) := ⟨⟨HO.out.1, HO.out.2.1, HO.out.2.2.1⟩⟩
      rw [HD.out] at HO'
      have HLd : Aside0 ((sumOf ⟨sa, sb, sc, sd, se, sf, sg, sh⟩ r n).length = 32) := ⟨digL_length _⟩
      clear HO HV HD hlt hi
      have HI1 : Aside0 ((Tryd.prog.info? 63).map (·.size) = some (dA (sumOf ⟨sa, sb, sc, sd, se, sf, sg, sh⟩ r n)).size) := ⟨by rw [dA_size, HLd.out]; kernel_rfl⟩
      have HI2 : Aside0 (z32.size = (dA (sumOf ⟨sa, sb, sc, sd, se, sf, sg, sh⟩ r n)).size) := ⟨by rw [dA_size, HLd.out, HZ.out]; rfl⟩
      have HI3 := Aside0.mk (dA_one (sumOf ⟨sa, sb, sc, sd, se, sf, sg, sh⟩ r n))
      obtain ⟨d, hd⟩ : ∃ d, d = sumOf ⟨sa, sb, sc, sd, se, sf, sg, sh⟩ r n := ⟨_, rfl⟩
      rw [← hd] at HO' HI1 HI2 HI3
      have Hd := Aside0.mk hd
      clear hd HLd
      go_wp2_with (first
        | (with_reducible refine wpList_load_row rfl 63 (.tmp 8) rfl go rfl 63 (dA d) (0, 0) _ HO'.out.1 Tryd.underlying63 rfl HI1.out ?_)
        | (with_reducible refine wpList_store_row rfl 63 (.tmp 2) (.tmp 83) rfl w.heap.size (dA d) rfl rfl 63 z32 HO'.out.2.1 HI1.out HI2.out HI3.out ?_))
      exact bodyPost_ret (results_cell_row Tryd.results39 _ _ w.heap.size 63 (dA d) (0, 0) _ rfl (setRow_heap _ _ _ _ _ _ HO'.out.2.1) Tryd.underlying63 rfl HI1.out) rfl ⟨by rw [Hd.out], below_setRow HO'.out.2.2 (Nat.le_refl _) _⟩
end Go.Proofs.YtpndobhakmjglaaDoor.Sha
