/- tensor: plain: a matrix that picks places; Mix of one vector. -/
import Derived.Test.YtfameghednapkaaDoorTenAddB
namespace Go.Proofs.YtfameghednapkaaDoor.Ten
open Go.RowKit Go.Proofs.YtfameghednapkaaDoorW.PrintWords Go.Proofs.YtfameghednapkaaDoorW.PrintLast Go.Proofs.YtfameghednapkaaDoorW.PrintMore Go.Proofs.YtfameghednapkaaDoor.K Go.Proofs.YtfameghednapkaaDoor.RI Go.Proofs.YtfameghednapkaaDoor.Fixed
set_option linter.unusedVariables false
set_option linter.unusedSimpArgs false
def kOf (n : Nat) (x : Int) : Nat := ((x.tmod n + n).tmod n).toNat
theorem kOf_spec (n : Nat) (x : Int) (h : 1 ≤ n) : -(n : Int) < x.tmod n ∧ x.tmod n < n ∧ (x.tmod n + n).tmod n = (kOf n x : Int) ∧ kOf n x < n := by
  have h1 : (x.tmod n).natAbs < n := by
    rw [Int.natAbs_tmod]
    exact Nat.mod_lt _ (by omega)
  have h2 : (x.tmod n + n).tmod n = (x.tmod n + n) % n := Int.tmod_eq_emod_of_nonneg (by omega)
  have h3 := Int.emod_nonneg (x.tmod n + n) (show (n : Int) ≠ 0 by omega)
  have h4 := Int.emod_lt_of_pos (x.tmod n + n) (show (0 : Int) < n by omega)
  have h5 : kOf n x = ((x.tmod n + n) % n).toNat := by unfold kOf; rw [h2]
  refine ⟨by omega, by omega, ?_, by omega⟩
  rw [h2, h5]
  omega
def unitA (n : Nat) (ks : Nat → Nat) : Nat → List Int → List Int
  | 0, l => l
  | i + 1, l => (unitA n ks i l).set (i * n + ks i) 65536
theorem unitA_length (n : Nat) (ks : Nat → Nat) (l : List Int) : ∀ i, (unitA n ks i l).length = l.length
  | 0 => rfl
  | i + 1 => by simp only [unitA]; rw [List.length_set, unitA_length n ks l i]
theorem unitA_get {n m : Nat} {ks : Nat → Nat} (hn : 1 ≤ n) (hk : ∀ i, ks i < n) (j : Nat) (hj : j < m * n) : ∀ i, i ≤ m → (unitA n ks i (List.replicate (m * n) 0)).getD j 0 = if j / n < i ∧ j % n = ks (j / n) then 65536 else 0
  | 0, _ => by simp [unitA, List.getD_eq_getElem?_getD, hj]
  | i + 1, hi => by
    have ih := unitA_get hn hk j hj i (by omega)
    simp only [unitA]
    have hp : (i * n + ks i) / n = i := by
      rw [Nat.add_comm, Nat.add_mul_div_right _ _ (by omega), Nat.div_eq_of_lt (hk i), Nat.zero_add]
    have hq : (i * n + ks i) % n = ks i := by
      rw [Nat.add_comm, Nat.add_mul_mod_self_right, Nat.mod_eq_of_lt (hk i)]
    by_cases e : j = i * n + ks i
    · rw [List.getD_eq_getElem?_getD, ← e, List.getElem?_set_self (by rw [unitA_length, List.length_replicate]; exact hj)]
      rw [e, hp, hq, if_pos ⟨by omega, rfl⟩]
      rfl
    · rw [List.getD_eq_getElem?_getD, List.getElem?_set_ne (fun h => e h.symm), ← List.getD_eq_getElem?_getD, ih]
      have hdm := Nat.div_add_mod j n
      by_cases h1 : j / n < i ∧ j % n = ks (j / n)
      · rw [if_pos h1, if_pos ⟨by omega, h1.2⟩]
      · rw [if_neg h1, if_neg (fun h2 => ?_)]
        by_cases h3 : j / n = i
        · rw [h3] at h2 hdm
          rw [h2.2, Nat.mul_comm] at hdm
          exact e hdm.symm
        · exact h1 ⟨by omega, h2.2⟩
def pickL (v : List Int) (ks : Nat → Nat) (m : Nat) : List Int := (List.range m).map fun i => v.getD (ks i) 0
theorem pickL_length (v : List Int) (ks : Nat → Nat) (m : Nat) : (pickL v ks m).length = m := by simp [pickL]
theorem pickL_succ (v : List Int) (ks : Nat → Nat) (m : Nat) : pickL v ks (m + 1) = pickL v ks m ++ [v.getD (ks m) 0] := by simp [pickL, List.range_succ]
theorem unit_row {n m : Nat} {ks : Nat → Nat} {v : List Int} (hn : 1 ≤ n) (hn64 : n ≤ 64) (hv : v.length = n) (hk : ∀ i, ks i < n) (hr : v.all inR = true) (i : Nat) (hi : i < m) : rowF (n : Int) (unitA n ks m (List.replicate (m * n) 0)) v i = (v.getD (ks i) 0, 0) := by
  have hl : (unitA n ks m (List.replicate (m * n) 0)).length = m * n := by rw [unitA_length, List.length_replicate]
  have hi2 : (i + 1) * n ≤ m * n := Nat.mul_le_mul_right _ hi
  rw [Nat.add_mul, Nat.one_mul] at hi2
  unfold rowF
  refine unit_dot (by rw [rowL_len hl hi, hv]) (by omega) (by rw [hv]; exact hk i) (fun j hj => ?_) hr
  rw [hv] at hj
  rw [rowL_get hl hi hj, unitA_get hn hk _ (by omega) m (Nat.le_refl _)]
  have hp : (i * n + j) / n = i := by rw [Nat.add_comm, Nat.add_mul_div_right _ _ (by omega), Nat.div_eq_of_lt hj, Nat.zero_add]
  have hq : (i * n + j) % n = j := by rw [Nat.add_comm, Nat.add_mul_mod_self_right, Nat.mod_eq_of_lt hj]
  rw [hp, hq]
  by_cases e : j = ks i
  · rw [if_pos ⟨hi, e⟩, if_pos e]
  · rw [if_neg (fun h => e h.2), if_neg e]
theorem unit_m {n m : Nat} {ks : Nat → Nat} (hn : 1 ≤ n) (hn64 : n ≤ 64) (hm : 1 ≤ m) (hm2 : m ≤ 512) (hk : ∀ i, ks i < n) : mV (m : Int) (n : Int) (unitA n ks m (List.replicate (m * n) 0)) = 0 := by
  have hl : (unitA n ks m (List.replicate (m * n) 0)).length = m * n := by rw [unitA_length, List.length_replicate]
  refine m_mk hm hm2 hn hn64 hl ?_
  rw [List.all_eq_true]
  intro x hx
  obtain ⟨j, hj, rfl⟩ := List.mem_iff_getElem.1 hx
  have h := unitA_get hn hk j (by omega) m (Nat.le_refl _)
  rw [List.getD_eq_getElem?_getD, List.getElem?_eq_getElem hj, Option.getD_some] at h
  rw [h]
  split <;> decide
theorem unit_mulE {n m : Nat} {ks : Nat → Nat} {v : List Int} (hn : 1 ≤ n) (hn64 : n ≤ 64) (hm : 1 ≤ m) (hm2 : m ≤ 512) (hv : v.length = n) (hk : ∀ i, ks i < n) (hr : v.all inR = true) : mulE (m : Int) (n : Int) (unitA n ks m (List.replicate (m * n) 0)) v = 0 := by
  unfold mulE
  rw [if_pos (unit_m hn hn64 hm hm2 hk), if_pos (by rw [hv]), Int.toNat_natCast]
  exact errF_zero _ _ _ (fun j _ hj => by rw [unit_row hn hn64 hv hk hr j (by omega)])
theorem unit_mulL {n m : Nat} {ks : Nat → Nat} {v : List Int} (hn : 1 ≤ n) (hn64 : n ≤ 64) (hv : v.length = n) (hk : ∀ i, ks i < n) (hr : v.all inR = true) : mulL (m : Int) (n : Int) (unitA n ks m (List.replicate (m * n) 0)) v = pickL v ks m := by
  unfold mulL pickL outL
  rw [Int.toNat_natCast]
  refine List.map_congr_left fun i hi => ?_
  rw [unit_row hn hn64 hv hk hr i (List.mem_range.1 hi)]
theorem one_mixF {v : List Int} (h : checkV v = 0) (k : Nat) : mixF [65536] [v] k = (v.getD k 0, 0) := by
  have hr := getD_r (check_ok_in h).1 k
  have e : mixS [65536] [v] k ([65536] : List Int).length = 65536 * v.getD k 0 := by
    show 0 + 65536 * v.getD k 0 = _
    omega
  unfold mixF
  rw [e]
  have e2 : rndV (65536 * v.getD k 0) = v.getD k 0 := by unfold rndV; omega
  unfold rtV toldV
  rw [e2, if_pos (show inR (v.getD k 0) = true from decide_eq_true hr)]
theorem one_mixE {v : List Int} (h : checkV v = 0) : mixE [65536] [v] = 0 := by
  have hc : checksV [v] = 0 := by
    unfold checksV
    rw [if_pos (by simp [sameL])]
    simp only [firstE]
    rw [if_pos h]
  unfold mixE
  rw [if_neg (by simp), if_pos hc, if_pos (by decide)]
  exact errF_zero _ _ _ (fun j _ _ => by rw [one_mixF h])
theorem one_mixL {v : List Int} (h : checkV v = 0) : mixL [65536] [v] = v := by
  unfold mixL outL
  apply List.ext_getElem (by simp)
  intro i h1 h2
  simp only [List.getElem_map, List.getElem_range]
  rw [one_mixF h, List.getD_eq_getElem?_getD, List.getElem?_eq_getElem h2, Option.getD_some]
theorem blk_C {W : World} {g : Nat} {xs : List Int} (h : W.heap[g]? = some (.cells (nums .i64 xs).toArray 3 (0, 0))) (hm : xs.length ≤ 9223372036854775807) : Kd.C (Kd.int .i64) W (some ⟨g, 0, none⟩) xs.length xs := by
  refine C_int ⟨rfl, hm, fun _ => ⟨_, rfl, fun j hj => ?_⟩⟩
  rw [add_plain]
  refine (blk_cell h j).trans ?_
  simp [nums, List.getElem?_eq_getElem hj, List.getD_eq_getElem?_getD]
theorem blk_made (W : World) (m : Nat) : (W.alloc (.cells (madeCells #[.int .i64 0] m) 3)).heap[W.heap.size]? = some (.cells (nums .i64 (List.replicate m 0)).toArray 3 (0, 0)) := by
  rw [heap_alloc_new]
  have hl : (madeCells #[Value.int .i64 0] m) = (nums .i64 (List.replicate m 0)).toArray := by
    apply Array.ext
    · simp [nums, madeCells]
    · intro i h1 h2
      simp [nums, madeCells, Nat.mod_one]
  rw [hl]
theorem blk_num_set {W : World} {g : Nat} {xs : List Int} (h : W.heap[g]? = some (.cells (nums .i64 xs).toArray 3 (0, 0))) (j : Nat) (x : Int) : (W.setCell ⟨g, j, none⟩ (.int .i64 x)).heap[g]? = some (.cells (nums .i64 (xs.set j x)).toArray 3 (0, 0)) :=
  blk_put h j _ (by simp [nums, List.map_set])
def listOr (E : Int) (L : List Int) : List Int := if E = 0 then L else []
theorem nil_C (w : World) : Kd.C (Kd.int .i64) w none 0 [] := C_int ⟨rfl, by decide, fun h => absurd h (by decide)⟩
theorem list_any {E : Int} {L : List Int} {w w' : World} {e : Ending} (h : ListEnd E L w e w') : ∃ A n c, e = .returned (.tuple #[.slice A n c, .int .i64 E]) ∧ Kd.C (Kd.int .i64) w' A n (listOr E L) := by
  by_cases hE : E = 0
  · obtain ⟨A, c, h1, h2, _⟩ := h.2.1 hE
    refine ⟨A, _, c, by rw [hE]; exact h1, ?_⟩
    unfold listOr
    rw [if_pos hE]
    exact h2
  · refine ⟨none, 0, 0, h.1 hE, ?_⟩
    unfold listOr
    rw [if_neg hE]
    exact nil_C _
theorem add_comm_or {a b : List Int} (ha : checkV a = 0) : listOr (addE a b) (addL a b) = listOr (addE b a) (addL b a) := by
  unfold listOr
  rw [add_comm_E ha]
  by_cases h : addE b a = 0
  · rw [if_pos h, if_pos h, add_comm_L h]
  · rw [if_neg h, if_neg h]
theorem one_row {A : Option Addr} {c : Nat} {a : List Int} {w : World} (hA : Kd.C (Kd.int .i64) w A a.length a) (hc : a.length ≤ c) :
    Kd.C (Kd.slice 3 (Kd.int .i64)) (w.alloc (.cells #[.slice A a.length c] 22)) (some ⟨w.heap.size, 0, none⟩) 1 [a] := by
  refine rows_lit w 22 [.slice A a.length c] [a] (by simp) ?_
  intro j x hj
  match j with
  | 0 => cases hj; exact ⟨A, c, rfl, hc, hA⟩
  | j + 1 => simp at hj
end Go.Proofs.YtfameghednapkaaDoor.Ten
