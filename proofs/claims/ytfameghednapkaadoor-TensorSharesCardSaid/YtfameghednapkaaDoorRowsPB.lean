/- tensor: plain laws of a matrix's rows: the rows of two matrices, a vector of noughts, a weight at one place. -/
import Derived.Test.YtfameghednapkaaDoorTenMul2B
namespace Go.Proofs.YtfameghednapkaaDoor.Ten
open Go.RowKit Go.Proofs.YtfameghednapkaaDoorW.PrintWords Go.Proofs.YtfameghednapkaaDoorW.PrintLast Go.Proofs.YtfameghednapkaaDoorW.PrintMore Go.Proofs.YtfameghednapkaaDoor.K Go.Proofs.YtfameghednapkaaDoor.Fixed
set_option linter.unusedVariables false
set_option linter.unusedSimpArgs false
theorem errF_shift {f g : Nat → Int × Int} (s : Nat) : ∀ (m k : Nat), (∀ j, k ≤ j → j < k + m → f (s + j) = g j) → errF f m (s + k) = errF g m k
  | 0, _, _ => rfl
  | m + 1, k, h => by
    have h1 := h k (Nat.le_refl _) (by omega)
    have h2 := errF_shift (f := f) (g := g) s m (k + 1) (fun j hj1 hj2 => h j (by omega) (by omega))
    simp only [errF]
    rw [h1, show s + k + 1 = s + (k + 1) by omega, h2]
theorem errF_congr {f g : Nat → Int × Int} (m : Nat) (h : ∀ j, j < m → f j = g j) : errF f m 0 = errF g m 0 := by
  have := errF_shift (f := f) (g := g) 0 m 0 (fun j _ hj => by rw [Nat.zero_add]; exact h j (by omega))
  rwa [Nat.zero_add] at this
theorem errF_add (f : Nat → Int × Int) (n : Nat) : ∀ (m k : Nat), errF f (m + n) k = if errF f m k = 0 then errF f n (k + m) else errF f m k
  | 0, k => by simp [errF]
  | m + 1, k => by
    rw [show m + 1 + n = (m + n) + 1 by omega]
    by_cases h : (f k).2 = 0
    · have e1 : errF f (m + n + 1) k = errF f (m + n) (k + 1) := if_pos h
      have e2 : errF f (m + 1) k = errF f m (k + 1) := if_pos h
      rw [e1, e2, errF_add f n m (k + 1), show k + 1 + m = k + (m + 1) by omega]
    · have e1 : errF f (m + n + 1) k = (f k).2 := if_neg h
      have e2 : errF f (m + 1) k = (f k).2 := if_neg h
      rw [e1, e2, if_neg h]
theorem errF_zero (f : Nat → Int × Int) : ∀ (m k : Nat), (∀ j, k ≤ j → j < k + m → (f j).2 = 0) → errF f m k = 0
  | 0, _, _ => rfl
  | m + 1, k, h => by
    simp only [errF]
    rw [if_pos (h k (Nat.le_refl _) (by omega))]
    exact errF_zero f m (k + 1) (fun j h1 h2 => h j (by omega) (by omega))
theorem outL_getD (f : Nat → Int × Int) (n k : Nat) (h : k < n) : (outL f n).getD k 0 = (f k).1 := by
  simp [outL, List.getD_eq_getElem?_getD, h]
theorem outL_congr {f g : Nat → Int × Int} (m : Nat) (h : ∀ j, j < m → f j = g j) : outL f m = outL g m := by
  unfold outL
  refine List.map_congr_left fun k hk => ?_
  rw [h k (List.mem_range.1 hk)]
theorem outL_add {f g : Nat → Int × Int} (n : Nat) : ∀ m : Nat, (∀ j, j < m → f (n + j) = g j) → outL f (n + m) = outL f n ++ outL g m
  | 0, _ => by simp [outL]
  | m + 1, h => by
    rw [← Nat.add_assoc, outL_succ, outL_succ, outL_add n m (fun j hj => h j (by omega)), h m (by omega), List.append_assoc]
theorem rowL_nat (cn k : Nat) (l : List Int) : rowL (cn : Int) l (k : Int) = (l.drop (k * cn)).take cn := by
  unfold rowL
  rw [← Int.natCast_mul, Int.toNat_natCast, Int.toNat_natCast]
theorem rowL_left {cn ra k : Nat} {la lb : List Int} (hl : la.length = ra * cn) (hk : k < ra) : rowL (cn : Int) (la ++ lb) (k : Int) = rowL (cn : Int) la (k : Int) := by
  have h1 : (k + 1) * cn ≤ ra * cn := Nat.mul_le_mul_right _ hk
  rw [Nat.add_mul, Nat.one_mul] at h1
  rw [rowL_nat, rowL_nat, List.drop_append_of_le_length (by omega), List.take_append_of_le_length (by rw [List.length_drop]; omega)]
theorem rowL_right {cn ra k : Nat} {la lb : List Int} (hl : la.length = ra * cn) : rowL (cn : Int) (la ++ lb) ((ra + k : Nat) : Int) = rowL (cn : Int) lb (k : Int) := by
  rw [rowL_nat, rowL_nat, Nat.add_mul, ← hl, List.drop_append, List.drop_of_length_le (by omega), List.nil_append, show la.length + k * cn - la.length = k * cn by omega]
theorem rowL_len {cn ra k : Nat} {l : List Int} (hl : l.length = ra * cn) (hk : k < ra) : (rowL (cn : Int) l (k : Int)).length = cn := by
  have h1 : (k + 1) * cn ≤ ra * cn := Nat.mul_le_mul_right _ hk
  rw [Nat.add_mul, Nat.one_mul] at h1
  rw [rowL_nat, List.length_take, List.length_drop]
  omega
theorem rowL_get {cn ra k j : Nat} {l : List Int} (hl : l.length = ra * cn) (hk : k < ra) (hj : j < cn) : (rowL (cn : Int) l (k : Int)).getD j 0 = l.getD (k * cn + j) 0 := by
  rw [rowL_nat, List.getD_eq_getElem?_getD, List.getElem?_take, if_pos hj, List.getElem?_drop, List.getD_eq_getElem?_getD]
theorem rowL_w {cols : Int} {l : List Int} (k : Int) (h : l.all isW = true) : (rowL cols l k).all isW = true := by
  rw [List.all_eq_true] at h ⊢
  intro x hx
  exact h x (List.mem_of_mem_drop (List.mem_of_mem_take hx))
theorem m_nat {rows cols : Int} {l : List Int} (h : mV rows cols l = 0) : ∃ r c : Nat, rows = (r : Int) ∧ cols = (c : Int) ∧ 1 ≤ r ∧ r ≤ 512 ∧ 1 ≤ c ∧ c ≤ 64 ∧ l.length = r * c ∧ l.all isW = true := by
  obtain ⟨h1, h2, h3, h4, h5, h6⟩ := m_ok h
  obtain ⟨r, rfl⟩ : ∃ r : Nat, rows = (r : Int) := ⟨rows.toNat, by omega⟩
  obtain ⟨c, rfl⟩ : ∃ r : Nat, cols = (r : Int) := ⟨cols.toNat, by omega⟩
  refine ⟨r, c, rfl, rfl, by omega, by omega, by omega, by omega, ?_, h6⟩
  rw [← Int.natCast_mul] at h5
  omega
theorem m_mk {r c : Nat} {l : List Int} (h1 : 1 ≤ r) (h2 : r ≤ 512) (h3 : 1 ≤ c) (h4 : c ≤ 64) (h5 : l.length = r * c) (h6 : l.all isW = true) : mV (r : Int) (c : Int) l = 0 := by
  unfold mV
  rw [if_neg, if_pos h6]
  rw [h5, Int.natCast_mul]
  simp
  omega
theorem m_both {ra rb cols : Int} {la lb : List Int} (ha : mV ra cols la = 0) (hb : mV rb cols lb = 0) (h : ra + rb ≤ 512) : mV (ra + rb) cols (la ++ lb) = 0 := by
  obtain ⟨r, c, rfl, rfl, h1, h2, h3, h4, h5, h6⟩ := m_nat ha
  obtain ⟨r', c', rfl, hc, g1, g2, g3, g4, g5, g6⟩ := m_nat hb
  obtain rfl : c = c' := by omega
  rw [← Int.natCast_add]
  exact m_mk (by omega) (by omega) h3 h4 (by rw [List.length_append, h5, g5, Nat.add_mul]) (by rw [List.all_append, h6, g6]; rfl)
def rowF (cols : Int) (l v : List Int) (k : Nat) : Int × Int := dotV (rowL cols l (k : Int)) v
theorem both_err {ra rb cols : Int} {la lb v : List Int} (ha : mV ra cols la = 0) (hb : mV rb cols lb = 0) :
    errF (rowF cols (la ++ lb) v) (ra + rb).toNat 0 = if errF (rowF cols la v) ra.toNat 0 = 0 then errF (rowF cols lb v) rb.toNat 0 else errF (rowF cols la v) ra.toNat 0 := by
  obtain ⟨r, c, rfl, rfl, h1, h2, h3, h4, h5, h6⟩ := m_nat ha
  obtain ⟨r', c', rfl, hc, g1, g2, g3, g4, g5, g6⟩ := m_nat hb
  obtain rfl : c = c' := by omega
  rw [← Int.natCast_add, Int.toNat_natCast, Int.toNat_natCast, Int.toNat_natCast, errF_add]
  have e1 : errF (rowF (c : Int) (la ++ lb) v) r 0 = errF (rowF (c : Int) la v) r 0 := errF_congr r (fun j hj => by unfold rowF; rw [rowL_left h5 hj])
  have e2 : errF (rowF (c : Int) (la ++ lb) v) r' (0 + r) = errF (rowF (c : Int) lb v) r' 0 := by
    rw [show 0 + r = r + 0 by omega]
    exact errF_shift r r' 0 (fun j _ _ => by unfold rowF; rw [rowL_right h5])
  rw [e1, e2]
theorem both_out {ra rb cols : Int} {la lb v : List Int} (ha : mV ra cols la = 0) (hb : mV rb cols lb = 0) :
    outL (rowF cols (la ++ lb) v) (ra + rb).toNat = outL (rowF cols la v) ra.toNat ++ outL (rowF cols lb v) rb.toNat := by
  obtain ⟨r, c, rfl, rfl, h1, h2, h3, h4, h5, h6⟩ := m_nat ha
  obtain ⟨r', c', rfl, hc, g1, g2, g3, g4, g5, g6⟩ := m_nat hb
  obtain rfl : c = c' := by omega
  rw [← Int.natCast_add, Int.toNat_natCast, Int.toNat_natCast, Int.toNat_natCast, outL_add r r' (fun j hj => by unfold rowF; rw [rowL_right h5])]
  rw [outL_congr r (f := rowF (c : Int) (la ++ lb) v) (g := rowF (c : Int) la v) (fun j hj => by unfold rowF; rw [rowL_left h5 hj])]
  rfl
theorem dotV_ok {r v : List Int} (h1 : r.length = v.length) (h2 : 1 ≤ v.length) (h3 : v.length ≤ 64) (h4 : r.all isW = true) (h5 : v.all inR = true) : dotV r v = rtV (dotS r v v.length) := by
  unfold dotV
  rw [if_neg (by omega), if_pos ⟨h4, h5⟩]
theorem dotS_one (r v : List Int) (k : Nat) (y : Int) (h : ∀ j, j < v.length → r.getD j 0 * v.getD j 0 = if j = k then y else 0) : ∀ m, m ≤ v.length → dotS r v m = if k < m then y else 0
  | 0, _ => by simp [dotS]
  | m + 1, hm => by
    simp only [dotS]
    rw [dotS_one r v k y h m (by omega), h m (by omega)]
    by_cases e : m = k
    · subst e
      rw [if_neg (by omega), if_pos rfl, if_pos (by omega)]
      omega
    · rw [if_neg e]
      by_cases e2 : k < m
      · rw [if_pos e2, if_pos (by omega)]; omega
      · rw [if_neg e2, if_neg (by omega)]; omega
theorem rtV_zero : rtV 0 = (0, 0) := by decide
theorem zeros_all {c : Nat} : (List.replicate c (0 : Int)).all inR = true := by
  rw [List.all_eq_true]
  intro x hx
  rw [(List.mem_replicate.1 hx).2]
  decide
theorem zero_row {rows cols : Int} {l : List Int} {n : Nat} (hn : (n : Int) = cols) (h : mV rows cols l = 0) (k : Nat) (hk : k < rows.toNat) : rowF cols l (List.replicate n 0) k = (0, 0) := by
  obtain ⟨r, c, rfl, rfl, h1, h2, h3, h4, h5, h6⟩ := m_nat h
  obtain rfl : n = c := by omega
  rw [Int.toNat_natCast] at hk
  unfold rowF
  rw [dotV_ok (by rw [rowL_len h5 hk, List.length_replicate]) (by rw [List.length_replicate]; omega) (by rw [List.length_replicate]; omega) (rowL_w _ h6) zeros_all]
  rw [dotS_one _ _ 0 0 (fun j hj => by
    rw [List.length_replicate] at hj
    simp [List.getD_eq_getElem?_getD, hj]) _ (Nat.le_refl _)]
  rw [show (if 0 < (List.replicate n (0 : Int)).length then (0 : Int) else 0) = 0 by split <;> rfl]
  exact rtV_zero
theorem zero_err {rows cols : Int} {l : List Int} {n : Nat} (hn : (n : Int) = cols) (h : mV rows cols l = 0) : errF (rowF cols l (List.replicate n 0)) rows.toNat 0 = 0 :=
  errF_zero _ _ _ (fun j _ hj => by rw [zero_row hn h j (by omega)])
theorem zero_get {rows cols : Int} {l : List Int} {n : Nat} (hn : (n : Int) = cols) (h : mV rows cols l = 0) (k : Nat) (hk : k < rows.toNat) : (outL (rowF cols l (List.replicate n 0)) rows.toNat).getD k 0 = 0 := by
  rw [outL_getD _ _ _ hk, zero_row hn h k hk]
/-- Of a row of weights with 65536 at one place, and 0 elsewhere, the vector's number of that place. -/
theorem unit_dot {r v : List Int} {k : Nat} (h1 : r.length = v.length) (h3 : v.length ≤ 64) (hk : k < v.length) (h : ∀ j, j < v.length → r.getD j 0 = if j = k then 65536 else 0) (h5 : v.all inR = true) : dotV r v = (v.getD k 0, 0) := by
  have hw : r.all isW = true := by
    rw [List.all_eq_true]
    intro x hx
    obtain ⟨j, hj, rfl⟩ := List.mem_iff_getElem.1 hx
    have := h j (by omega)
    rw [List.getD_eq_getElem?_getD, List.getElem?_eq_getElem hj, Option.getD_some] at this
    rw [this]
    split <;> decide
  rw [dotV_ok h1 (by omega) h3 hw h5, dotS_one r v k (65536 * v.getD k 0) (fun j hj => by
    rw [h j hj]
    by_cases e : j = k
    · subst e; rw [if_pos rfl, if_pos rfl]
    · rw [if_neg e, if_neg e, Int.zero_mul]) _ (Nat.le_refl _), if_pos hk]
  have hr := getD_r h5 k
  have e : rndV (65536 * v.getD k 0) = v.getD k 0 := by unfold rndV; omega
  unfold rtV toldV
  rw [e, if_pos (show inR (v.getD k 0) = true from decide_eq_true hr)]
end Go.Proofs.YtfameghednapkaaDoor.Ten
