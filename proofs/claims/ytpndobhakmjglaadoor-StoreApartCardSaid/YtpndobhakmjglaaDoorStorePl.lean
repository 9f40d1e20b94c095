/- store, plain: what is recovered of a store's bytes, whole or cut. -/
import Derived.Test.YtpndobhakmjglaaDoorStoreRecP
namespace Go.Proofs.YtpndobhakmjglaaDoor.Store
open Go.RowKit Go.Proofs.YtpndobhakmjglaaDoorW.PrintWords Go.Proofs.YtpndobhakmjglaaDoorW.PrintLast Go.Proofs.YtpndobhakmjglaaDoorW.PrintMore Go.Proofs.YtpndobhakmjglaaDoor.K Go.Proofs.YtpndobhakmjglaaDoor.Sha
set_option linter.unusedVariables false
theorem num4_be4 (n : Nat) (h : n ≤ 1048576) (t : List Int) : num4 (be4 n ++ t) = n := by
  simp only [num4, be4, List.cons_append, List.getD_cons_zero, List.getD_cons_succ]
  omega
theorem join_head (r s t : List Int) : joinL [r, s] ++ t = be4 r.length ++ (r ++ (be4 s.length ++ s ++ t)) := by
  rw [joinTwo]; simp only [List.append_assoc]
theorem be4_len (n : Nat) : (be4 n).length = 4 := rfl
theorem drop4 (n : Nat) (t : List Int) : (be4 n ++ t).drop 4 = t := by
  rw [show (4 : Nat) = (be4 n).length from rfl, List.drop_left]
theorem recR_join {r : List Int} (s t : List Int) (h : r.length ≤ 1048576) : recR (joinL [r, s] ++ t) = r := by
  rw [join_head, recR, num4_be4 _ h, drop4, Int.toNat_natCast, List.take_left]
theorem recOk_join {a r : List Int} (t : List Int) (h : r.length ≤ 1048576) : recOk a (joinL [r, sealV a r] ++ t) = true := by
  have h1 : (joinL [r, sealV a r] ++ t).length = r.length + 24 + t.length := by rw [List.length_append, joinTwo_len, sealV_len]
  have h2 : num4 (joinL [r, sealV a r] ++ t) = r.length := by rw [join_head, num4_be4 _ h]
  have h3 : recW a (joinL [r, sealV a r] ++ t) = joinL [r, sealV a r] := by rw [recW, recR_join _ _ h]
  have h4 : hasB (joinL [r, sealV a r] ++ t) (joinL [r, sealV a r]) = true := by simp [hasB]
  rw [recOk, h2, h3, h4, List.length_drop, h1]
  simp only [Bool.and_eq_true, decide_eq_true_eq, and_true]
  omega
/-- What is recovered of a store's bytes, and more. -/
theorem recV_store : ∀ (l : List (List Int)) (a t : List Int), (∀ r ∈ l, r.length ≤ 1048576) → recV a (storeB a l ++ t) = (l ++ (recV (markV a l) t).1, (recV (markV a l) t).2)
  | [], a, t, _ => rfl
  | r :: l, a, t, h => by
    have hr := h r (List.mem_cons_self ..)
    have e : storeB a (r :: l) ++ t = joinL [r, sealV a r] ++ (storeB (sealV a r) l ++ t) := by
      show joinL [r, sealV a r] ++ storeB (sealV a r) l ++ t = _
      rw [List.append_assoc]
    rw [e, recV_yes (recOk_join _ hr), recR_join _ _ hr, show recW a (joinL [r, sealV a r] ++ (storeB (sealV a r) l ++ t)) = joinL [r, sealV a r] from by rw [recW, recR_join _ _ hr], List.drop_left, recV_store l _ t (fun x hx => h x (List.mem_cons_of_mem _ hx))]
    rfl
theorem recV_nil (a : List Int) : recV a [] = ([], []) := recV_no (by simp [recOk])
theorem recV_own {l : List (List Int)} (a : List Int) (h : ∀ r ∈ l, r.length ≤ 1048576) : recV a (storeB a l) = (l, []) := by
  have := recV_store l a [] h
  rw [List.append_nil, recV_nil, List.append_nil] at this
  exact this
theorem storeB_inj {l m : List (List Int)} (a : List Int) (hl : ∀ r ∈ l, r.length ≤ 1048576) (hm : ∀ r ∈ m, r.length ≤ 1048576) (h : storeB a l = storeB a m) : l = m := by
  have h1 := recV_own a hl
  rw [h, recV_own a hm] at h1
  exact (congrArg Prod.fst h1).symm
theorem recR_short {a b : List Int} (h : recOk a b = true) : (recR b).length ≤ 1048576 := by
  simp only [recOk, Bool.and_eq_true, decide_eq_true_eq] at h
  rw [recR, List.length_take]
  omega
theorem recV_short (n : Nat) : ∀ (a b : List Int), b.length ≤ n → ∀ r ∈ (recV a b).1, r.length ≤ 1048576 := by
  induction n with
  | zero =>
    intro a b hb
    rw [recV_no (by simp [recOk, show ¬ 4 ≤ b.length by omega])]
    intro r hr
    cases hr
  | succ n ih =>
    intro a b hb r hr
    cases h : recOk a b with
    | false =>
      rw [recV_no h] at hr
      cases hr
    | true =>
      rw [recV_yes h] at hr
      rcases List.mem_cons.1 hr with rfl | hr
      · exact recR_short h
      · exact ih _ _ (by rw [List.length_drop, recW_len]; omega) r hr
/-- A record whose bytes are cut is none. -/
theorem recOk_cut {a r : List Int} (t u : List Int) (h : r.length ≤ 1048576) (ht : t.length < r.length + 24) (hp : t <+: joinL [r, sealV a r] ++ u) : recOk a t = false := by
  cases hk : recOk a t with
  | false => rfl
  | true =>
    exfalso
    obtain ⟨v, hv⟩ := hp
    have h0 := hk
    simp only [recOk, Bool.and_eq_true, decide_eq_true_eq] at hk
    have hn : num4 t = r.length := by
      have h1 := congrArg num4 hv
      rw [join_head, num4_be4 _ h] at h1
      rw [← h1]
      have hg : ∀ i, i < 4 → (t ++ v).getD i 0 = t.getD i 0 := fun i hi => by
        rw [List.getD_eq_getElem?_getD, List.getD_eq_getElem?_getD, List.getElem?_append_left (by omega)]
      simp only [num4, hg 0 (by decide), hg 1 (by decide), hg 2 (by decide), hg 3 (by decide)]
    have hl : (recR t).length = r.length := by
      rw [recR, List.length_take]
      omega
    have h2 := congrArg List.length (recOk_has h0)
    rw [List.length_append, recW_len, hl] at h2
    omega
theorem joinTwo_eq_len (r s : List Int) (hs : s.length = 16) : (joinL [r, s]).length = r.length + 24 := by rw [joinTwo_len, hs]
/-- The records and the rest of a store's bytes that are cut. -/
theorem recV_cut : ∀ (l : List (List Int)) (a : List Int) (m k : Nat), (∀ r ∈ l, r.length ≤ 1048576) → m ≤ l.length → (storeB a (l.take m)).length ≤ k → (m < l.length → k < (storeB a (l.take (m + 1))).length) → (m = l.length → k ≤ (storeB a l).length) →
    recV a ((storeB a l).take k) = (l.take m, ((storeB a l).take k).drop (storeB a (l.take m)).length) := by
  intro l a m k h hm h1 h2 h3
  have hL : storeB a l = storeB a (l.take m) ++ storeB (markV a (l.take m)) (l.drop m) := by
    rw [← storeB_append, List.take_append_drop]
  have hT : (storeB a l).take k = storeB a (l.take m) ++ (storeB (markV a (l.take m)) (l.drop m)).take (k - (storeB a (l.take m)).length) := by
    rw [hL, List.take_append, List.take_of_length_le h1]
  have hD : ((storeB a l).take k).drop (storeB a (l.take m)).length = (storeB (markV a (l.take m)) (l.drop m)).take (k - (storeB a (l.take m)).length) := by
    rw [hT, List.drop_left]
  rw [hD, hT, recV_store _ _ _ (fun r hr => h r (List.mem_of_mem_take hr))]
  rcases Nat.lt_or_ge m l.length with hlt | hge
  · have hk := h2 hlt
    obtain ⟨r, l2, hd⟩ : ∃ r l2, l.drop m = r :: l2 := by
      cases hc : l.drop m with
      | nil =>
        have := congrArg List.length hc
        rw [List.length_drop, List.length_nil] at this
        omega
      | cons r l2 => exact ⟨r, l2, rfl⟩
    have hr : r.length ≤ 1048576 := h r (List.mem_of_mem_drop (by rw [hd]; exact List.mem_cons_self ..))
    have hs : l.take (m + 1) = l.take m ++ [r] := by
      have h6 := List.take_append_drop m l
      have h7 : (l.take m).length = m := by rw [List.length_take]; omega
      rw [hd] at h6
      conv => lhs; rw [← h6]
      rw [List.take_append, List.take_of_length_le (by omega), h7, show m + 1 - m = 1 by omega]
      rfl
    rw [hs, storeB_snoc, List.length_append, joinTwo_eq_len _ _ (sealV_len _ _)] at hk
    rw [hd]
    have hno : recOk (markV a (l.take m)) ((storeB (markV a (l.take m)) (r :: l2)).take (k - (storeB a (l.take m)).length)) = false :=
      recOk_cut _ (storeB (sealV (markV a (l.take m)) r) l2) hr (by rw [List.length_take]; omega) (List.take_prefix _ _)
    rw [recV_no hno, List.append_nil]
  · obtain rfl : m = l.length := by omega
    rw [List.drop_length]
    simp [storeB, recV_nil]
end Go.Proofs.YtpndobhakmjglaaDoor.Store
