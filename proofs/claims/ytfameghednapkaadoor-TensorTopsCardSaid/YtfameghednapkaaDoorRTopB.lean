/- cupelref07.Top: the greatest one of those left, again and again. -/
import Derived.Test.YtfameghednapkaaDoorTopAB
namespace Go.Proofs.YtfameghednapkaaDoor.Top
open Go.RowKit Go.Proofs.YtfameghednapkaaDoorW.PrintWords Go.Proofs.YtfameghednapkaaDoorW.PrintLast Go.Proofs.YtfameghednapkaaDoorW.PrintMore Go.Proofs.YtfameghednapkaaDoor.K Go.Proofs.YtfameghednapkaaDoor.RI Go.Proofs.YtfameghednapkaaDoor.Sort Go.Proofs.YtfameghednapkaaDoor.Ten Go.Proofs.YtfameghednapkaaDoor.Fixed
set_option linter.unusedVariables false
set_option linter.unusedSimpArgs false
def usedB (l : List Int) (j i : Nat) : Bool := decide ((i : Int) ∈ (ordL l).take j)
def usedL (l : List Int) (j : Nat) : List Bool := (List.range l.length).map (usedB l j)
theorem usedL_length (l : List Int) (j : Nat) : (usedL l j).length = l.length := by simp [usedL]
theorem take_mem {l : List Int} {j : Nat} {x : Int} : x ∈ (ordL l).take j ↔ ∃ t, t < j ∧ t < l.length ∧ (ordL l).getD t 0 = x := by
  constructor
  · intro h
    obtain ⟨t, ht, rfl⟩ := List.mem_iff_getElem.1 h
    rw [List.length_take, ordL_length] at ht
    refine ⟨t, by omega, by omega, ?_⟩
    rw [List.getElem_take, List.getD_eq_getElem?_getD, List.getElem?_eq_getElem (by rw [ordL_length]; omega)]
    rfl
  · rintro ⟨t, h1, h2, rfl⟩
    rw [List.getD_eq_getElem?_getD, List.getElem?_eq_getElem (by rw [ordL_length]; exact h2), Option.getD_some]
    have h3 : t < ((ordL l).take j).length := by rw [List.length_take, ordL_length]; omega
    have h4 : ((ordL l).take j)[t] = (ordL l)[t]'(by rw [ordL_length]; exact h2) := List.getElem_take
    rw [← h4]
    exact List.getElem_mem h3
theorem usedB_zero (l : List Int) (i : Nat) : usedB l 0 i = false := by simp [usedB]
theorem used_set {l : List Int} {j q : Nat} (hj : j < l.length) (hq : (ordL l).getD j 0 = (q : Int)) (hql : q < l.length) : (usedL l j).set q true = usedL l (j + 1) := by
  apply List.ext_getElem (by simp [usedL])
  intro i h1 h2
  have hi : i < l.length := by rw [usedL_length] at h2; exact h2
  rw [List.getElem_set]
  by_cases e : q = i
  · subst e
    rw [if_pos rfl]
    simp only [usedL, List.getElem_map, List.getElem_range, usedB]
    symm
    rw [decide_eq_true_eq]
    exact take_mem.2 ⟨j, by omega, hj, hq⟩
  · rw [if_neg e]
    simp only [usedL, List.getElem_map, List.getElem_range, usedB]
    rw [decide_eq_decide]
    rw [take_mem, take_mem]
    constructor
    · rintro ⟨t, t1, t2, t3⟩
      exact ⟨t, by omega, t2, t3⟩
    · rintro ⟨t, t1, t2, t3⟩
      refine ⟨t, ?_, t2, t3⟩
      rcases Nat.lt_or_ge t j with c | c
      · exact c
      · obtain rfl : t = j := by omega
        rw [hq] at t3
        omega
/-- What has been found among those ahead. -/
def AtI (l : List Int) (j i : Nat) (a : Int) : Prop := (a = -1 ∧ ∀ t, t < i → usedB l j t = true) ∨ (∃ m : Nat, m < i ∧ a = (m : Int) ∧ usedB l j m = false ∧ ∀ t, t < i → usedB l j t = false → t = m ∨ prV l (m : Int) (t : Int))
theorem AtI.start (l : List Int) (j : Nat) : AtI l j 0 (-1) := .inl ⟨rfl, fun t h => by omega⟩
theorem AtI.skip {l : List Int} {j i : Nat} {a : Int} (h : AtI l j i a) (hu : usedB l j i = true) : AtI l j (i + 1) a := by
  rcases h with ⟨h1, h2⟩ | ⟨m, m1, m2, m3, m4⟩
  · refine .inl ⟨h1, fun t ht => ?_⟩
    rcases Nat.lt_or_ge t i with c | c
    · exact h2 t c
    · obtain rfl : t = i := by omega
      exact hu
  · refine .inr ⟨m, by omega, m2, m3, fun t ht hf => ?_⟩
    rcases Nat.lt_or_ge t i with c | c
    · exact m4 t c hf
    · obtain rfl : t = i := by omega
      rw [hu] at hf
      cases hf
theorem AtI.first {l : List Int} {j i : Nat} {a : Int} (h : AtI l j i a) (hu : usedB l j i = false) (ha : a < 0) : AtI l j (i + 1) (i : Int) := by
  rcases h with ⟨h1, h2⟩ | ⟨m, m1, m2, m3, m4⟩
  · refine .inr ⟨i, by omega, rfl, hu, fun t ht hf => ?_⟩
    rcases Nat.lt_or_ge t i with c | c
    · rw [h2 t c] at hf; cases hf
    · exact .inl (by omega)
  · omega
theorem AtI.more {l : List Int} {j i m : Nat} (h : AtI l j i (m : Int)) (hu : usedB l j i = false) (hgt : l.getD m 0 < l.getD i 0) : AtI l j (i + 1) (i : Int) := by
  rcases h with ⟨h1, h2⟩ | ⟨m', m1, m2, m3, m4⟩
  · omega
  · obtain rfl : m = m' := by omega
    refine .inr ⟨i, by omega, rfl, hu, fun t ht hf => ?_⟩
    rcases Nat.lt_or_ge t i with c | c
    · refine .inr ?_
      unfold prV cfV
      rw [Int.toNat_natCast, Int.toNat_natCast]
      rcases m4 t c hf with rfl | h9
      · omega
      · unfold prV cfV at h9
        rw [Int.toNat_natCast, Int.toNat_natCast] at h9
        omega
    · exact .inl (by omega)
theorem AtI.keep {l : List Int} {j i m : Nat} (h : AtI l j i (m : Int)) (hle : l.getD i 0 ≤ l.getD m 0) : AtI l j (i + 1) (m : Int) := by
  rcases h with ⟨h1, h2⟩ | ⟨m', m1, m2, m3, m4⟩
  · omega
  · obtain rfl : m = m' := by omega
    refine .inr ⟨m, by omega, rfl, m3, fun t ht hf => ?_⟩
    rcases Nat.lt_or_ge t i with c | c
    · exact m4 t c hf
    · obtain rfl : t = i := by omega
      refine .inr ?_
      unfold prV cfV
      rw [Int.toNat_natCast, Int.toNat_natCast]
      omega
theorem AtI.nat {l : List Int} {j i : Nat} {a : Int} (h : AtI l j i a) (ha : ¬ a < 0) : ∃ m : Nat, a = (m : Int) ∧ m < i := by
  rcases h with ⟨h1, h2⟩ | ⟨m, m1, m2, m3, m4⟩
  · omega
  · exact ⟨m, m2, m1⟩
theorem AtI.done {l : List Int} {j : Nat} {a : Int} (h : AtI l j l.length a) (hj : j < l.length) : ∃ q : Nat, q < l.length ∧ a = (q : Int) ∧ (ordL l).getD j 0 = (q : Int) := by
  obtain ⟨q, q1, q2⟩ := ordL_at l j hj
  have ir := (prV_strict l).irrefl
  have tr := (prV_strict l).trans
  have srt : ∀ s t, s < t → t < l.length → prV l ((ordL l).getD s 0) ((ordL l).getD t 0) := fun s t h1 h2 => (ordL_good l).1 s t (Nat.zero_le _) h1 h2
  have hq : usedB l j q = false := by
    unfold usedB
    rw [decide_eq_false_iff_not, take_mem]
    rintro ⟨t, t1, t2, t3⟩
    have := srt t j t1 hj
    rw [t3, q2] at this
    exact ir _ this
  rcases h with ⟨h1, h2⟩ | ⟨m, m1, m2, m3, m4⟩
  · rw [h2 q q1] at hq
    cases hq
  · refine ⟨q, q1, ?_, q2⟩
    obtain ⟨s, s1, s2⟩ := good_onto (ordL_good l) m m1
    replace s2 : (ordL l).getD s 0 = (m : Int) := s2
    have hsj : j ≤ s := by
      rcases Nat.lt_or_ge s j with c | c
      · have : usedB l j m = true := by
          unfold usedB
          rw [decide_eq_true_eq, take_mem]
          exact ⟨s, c, s1, s2⟩
        rw [this] at m3
        cases m3
      · exact c
    rcases m4 q q1 hq with e | e
    · omega
    · rcases Nat.lt_or_ge j s with c | c
      · have h9 := srt j s c s1
        rw [q2, s2] at h9
        exact absurd (tr _ _ _ e h9) (ir _)
      · obtain rfl : s = j := by omega
        omega
theorem info_bool_ : (Tryd.prog.info? 4).map (fun i => (i.zero, i.size, i.bytes)) = some (some (.bool false), 1, 1) := by kernel_rfl
theorem bools_made (n : Nat) : madeCells #[Value.bool false] n = ((List.replicate n false).map Value.bool).toArray := by
  apply Array.ext
  · simp [madeCells]
  · intro i h1 h2
    simp [madeCells, Nat.mod_one]
theorem used_zero (l : List Int) : usedL l 0 = List.replicate l.length false := by
  apply List.ext_getElem (by simp [usedL])
  intro i h1 h2
  simp [usedL, usedB_zero]
theorem take_ord_succ {l : List Int} {j : Nat} (h : j < l.length) : (ordL l).take (j + 1) = (ordL l).take j ++ [(ordL l).getD j 0] := by
  rw [List.take_succ_eq_append_getElem (by rw [ordL_length]; exact h), List.getD_eq_getElem?_getD, List.getElem?_eq_getElem (by rw [ordL_length]; exact h), Option.getD_some]
set_option maxHeartbeats 8000000 in
set_option maxRecDepth 100000 in
theorem rtop_calls (A : Option Addr) (c k : Nat) (l : List Int) (w : World) (hC : Kd.C (Kd.int .i64) w A l.length l) (hl : l.length ≤ 1000000) (hp : 0 < l.length) (hk : k ≤ l.length) :
    Calls Tryd.prog 18 #[.slice A l.length c, .int .i64 (k : Int)] w fun e w' => ∃ A' c', e = .returned (.slice A' k c') ∧ Kd.C (Kd.int .i64) w' A' k ((ordL l).take k) ∧ Below w.heap.size w w' := by
  have HC := Aside0.mk hC
  have HK := Aside0.mk (And.intro hl (And.intro hp hk))
  have hmk : ∀ W : World, (Instr.makeSlice 61 (.int .i64 (l.length : Int)) (.int .i64 (l.length : Int))).run Tryd.prog W = .ok (.slice (some ⟨W.heap.size, 0, none⟩) l.length l.length) (W.alloc (.cells (madeCells #[.bool false] l.length) 4)) := fun W =>
    run_make_row' 61 4 (.bool false) 1 Tryd.underlying61 info_bool_ rfl .i64 .i64 l.length (by omega) (by omega) W
  have HB0 : Aside0 (Below w.heap.size w (w.alloc (.cells (madeCells #[.bool false] l.length) 4))) := ⟨bel_alloc (Below.refl _ _) _⟩
  have HU0 : Aside0 ((w.alloc (.cells (madeCells #[.bool false] l.length) 4)).heap[w.heap.size]? = some (.cells ((usedL l 0).map Value.bool).toArray 4 (0, 0))) := ⟨by rw [heap_alloc_new, bools_made, used_zero]⟩
  have HS0 : Aside0 ((w.alloc (.cells (madeCells #[.bool false] l.length) 4)).heap.size = w.heap.size + 1) := ⟨World.size_alloc ..⟩
  clear hC hl hp hk
  go_enter Tryd.func18, Tryd.ntmps18
  go_wp2_with (fail)
  generalize w.alloc (.cells (madeCells #[.bool false] l.length) 4) = w0 at *
  clear hmk
  go_loopw [5] (fun o wr => ∃ j : Nat, j ≤ k ∧ Aside0 (wr.ownsRow (w.heap.size + 1) 3 1 o ((ordL l).take j).length (nums .i64 ((ordL l).take j)) ∧ wr.heap[w.heap.size]? = some (.cells ((usedL l j).map Value.bool).toArray 4 (0, 0)) ∧ Below w.heap.size w wr ∧ w.heap.size + 1 ≤ wr.heap.size) ∧ ∃ A5 c5, o = .slice A5 j c5) (fun o _ => k - (match o with | .slice _ n _ => n | _ => 0))
  case atStart => exact ⟨0, Nat.zero_le _, ⟨own_nil _ _ _ _, HU0.out, HB0.out, by rw [HS0.out]; exact Nat.le_refl _⟩, none, 0, rfl⟩
  case round =>
    obtain ⟨j, hj, HO, A5, c5, rfl⟩ := hrel
    have hlk := HK.out
    by_cases hlt : j < k
    · have d1 : decide ((j : Int) < (k : Int)) = true := by simp; omega
      have d2 : decide (j < k) = true := by simpa using hlt
      obtain ⟨wo, rfl⟩ : ∃ wo : World, wo = wr := ⟨_, rfl⟩
      have HJ := Aside0.mk hlt
      clear hlk hlt hj
      go_wp2_with (fail)
      go_loopw [7, 8] (fun a i wr => ∃ (i' : Nat) (a' : Int), i' ≤ l.length ∧ i = .int .i64 (i' : Int) ∧ a = .int .i64 a' ∧ Aside0 (AtI l j i' a' ∧ Drawn0 wo wr)) (fun _ i _ => l.length - (intOf i).toNat)
      case atStart => exact ⟨0, -1, Nat.zero_le _, rfl, rfl, ⟨AtI.start l j, ⟨⟨0, rfl⟩⟩⟩⟩
      case round =>
        obtain ⟨i, a, hi, rfl, rfl, HI⟩ := hrel
        obtain ⟨hat, ⟨⟨nd, rfl⟩⟩⟩ := HI.out
        have hlen := HK.out.1
        by_cases hil : i < l.length
        · have hwi : IntKind.i64.wrap ((i : Int) + 1) = (i : Int) + 1 := by rw [IntKind.wrap_i64]; omega
          have hcu : wo.cell? ⟨w.heap.size, i, none⟩ = some (.bool (usedB l j i)) := by
            refine (blk_cell HO.out.2.1 i).trans ?_
            simp [usedL, hil]
          obtain ⟨u, hu⟩ : ∃ u, u = usedB l j i := ⟨_, rfl⟩
          rw [← hu] at hcu
          cases u with
          | true =>
            have HN := Aside0.mk (hat.skip hu.symm)
            clear hat hu hlen HI
            go_wp2_with (fail)
            go_quiet (fail)
            go_wp2
            go_roundw
            case rel => exact ⟨i + 1, a, by omega, by go_num, rfl, ⟨HN.out, by first | exact ⟨⟨_, rfl⟩⟩ | exact ⟨⟨_, World.drewN_drewN _ _ _⟩⟩⟩⟩
            case measure => simp [intOf]; omega
          | false =>
            by_cases ha : a < 0
            · have da : decide (a < 0) = true := by simpa using ha
              have HN := Aside0.mk (hat.first hu.symm ha)
              clear hat hu hlen ha HI
              go_wp2_with (fail)
              go_quiet (fail)
              go_wp2
              go_roundw
              case rel => exact ⟨i + 1, i, by omega, by go_num, rfl, ⟨HN.out, by first | exact ⟨⟨_, rfl⟩⟩ | exact ⟨⟨_, World.drewN_drewN _ _ _⟩⟩⟩⟩
              case measure => simp [intOf]; omega
            · obtain ⟨m, rfl, hmi⟩ := hat.nat ha
              have da : decide ((m : Int) < 0) = false := by simp
              have hml : m < l.length := by omega
              obtain ⟨ad, rfl, hx⟩ := int_at (Kd.C_below HC.out HO.out.2.2.1) i hil
              obtain ⟨_, he, hy⟩ := int_at (Kd.C_below HC.out HO.out.2.2.1) m hml
              cases he
              by_cases hgt : l.getD m 0 < l.getD i 0
              · have HN := Aside0.mk (hat.more hu.symm hgt)
                obtain ⟨x, hxe⟩ : ∃ x, x = l.getD i 0 := ⟨_, rfl⟩
                obtain ⟨y, hye⟩ : ∃ x, x = l.getD m 0 := ⟨_, rfl⟩
                rw [← hxe] at hx hgt
                rw [← hye] at hy hgt
                have dg : decide (y < x) = true := by simpa using hgt
                clear hat hu hlen ha HI hgt hxe hye
                go_wp2_with (fail)
                go_quiet (fail)
                go_wp2
                go_roundw
                case rel => exact ⟨i + 1, i, by omega, by go_num, rfl, ⟨HN.out, by first | exact ⟨⟨_, rfl⟩⟩ | exact ⟨⟨_, World.drewN_drewN _ _ _⟩⟩⟩⟩
                case measure => simp [intOf]; omega
              · have HN := Aside0.mk (hat.keep (by omega))
                obtain ⟨x, hxe⟩ : ∃ x, x = l.getD i 0 := ⟨_, rfl⟩
                obtain ⟨y, hye⟩ : ∃ x, x = l.getD m 0 := ⟨_, rfl⟩
                rw [← hxe] at hx hgt
                rw [← hye] at hy hgt
                have dg : decide (y < x) = false := by simpa using hgt
                clear hat hu hlen ha HI hgt hxe hye
                go_wp2_with (fail)
                go_quiet (fail)
                go_wp2
                go_roundw
                case rel => exact ⟨i + 1, m, by omega, by go_num, rfl, ⟨HN.out, by first | exact ⟨⟨_, rfl⟩⟩ | exact ⟨⟨_, World.drewN_drewN _ _ _⟩⟩⟩⟩
                case measure => simp [intOf]; omega
        · obtain rfl : i = l.length := by omega
          obtain ⟨q, q1, rfl, q3⟩ := hat.done (by have := HJ.out; have := HK.out; omega)
          have HX := Aside0.mk (take_ord_succ (l := l) (j := j) (by have := HJ.out; have := HK.out; omega))
          rw [q3] at HX
          have HUs := Aside0.mk (used_set (by have := HJ.out; have := HK.out; omega) q3 q1)
          have hlj : ((ordL l).take j).length = j := by rw [List.length_take, ordL_length]; have := HJ.out; have := HK.out; omega
          have hcu : ∃ u, (wo.drewN nd).cell? ⟨w.heap.size, q, none⟩ = some (.bool u) := ⟨usedB l j q, by
            refine (blk_cell HO.out.2.1 q).trans ?_
            simp [usedL, q1]⟩
          obtain ⟨u, hcu⟩ := hcu
          have hfu : (wo.drewN nd).frozen? ⟨w.heap.size, q, none⟩ = false := blk_frozen HO.out.2.1 q
          have HOn : Aside0 ((wo.drewN nd).ownsRow (w.heap.size + 1) 3 1 (.slice A5 j c5) ((ordL l).take j).length (nums .i64 ((ordL l).take j))) := ⟨own_int (Kd.R_below (R_int HO.out.1) (pw_below_drewN (Below.refl _ _) nd))⟩
          have HW1 : Aside0 (((wo.drewN nd).setCell ⟨w.heap.size, q, none⟩ (.bool true)).ownsRow (w.heap.size + 1) 3 1 (.slice A5 j c5) ((ordL l).take j).length (nums .i64 ((ordL l).take j))) := ⟨ownsRow_setCell_below HOn.out (Nat.lt_succ_self _) _⟩
          have HW2 : Aside0 (((wo.drewN nd).setCell ⟨w.heap.size, q, none⟩ (.bool true)).heap[w.heap.size]? = some (.cells ((usedL l (j + 1)).map Value.bool).toArray 4 (0, 0))) := ⟨blk_put (blk_drewN HO.out.2.1 nd) q _ (by rw [← HUs.out]; simp [List.map_set])⟩
          have HW3 : Aside0 (Below w.heap.size w ((wo.drewN nd).setCell ⟨w.heap.size, q, none⟩ (.bool true))) := ⟨(pw_below_drewN HO.out.2.2.1 nd).setCell (Nat.le_refl _) _⟩
          have HW4 : Aside0 (w.heap.size + 1 ≤ ((wo.drewN nd).setCell ⟨w.heap.size, q, none⟩ (.bool true)).heap.size) := ⟨by have h := HO.out.2.2.2; simpa [World.setCell, World.drewN] using h⟩
          clear hat q3 HI HO HOn hil hlen
          go_upto_region 11 with (fail)
          generalize ((wo.drewN nd).setCell ⟨w.heap.size, q, none⟩ (.bool true)) = w2 at *
          clear hcu hfu
          obtain ⟨es, hes⟩ : ∃ es, es = (ordL l).take j := ⟨_, rfl⟩
          rw [← hes] at HW1 HX hlj
          subst hlj
          have HE := Aside0.mk hes
          clear hes
          go_wp2_with (at_builtin; refine print_append_num (w0 := w2) (w.heap.size + 1) rfl (.tmp 46) (.tmp 48) 22 3 .i64 8 rfl Tryd.underlying22 Top.info_int (by decide) _ es _ rfl rfl HW1.out (Below.refl _ _) HW4.out ?_ ?_; rotate_left; intro v1 w4 hown hbw hgr hat; have HA := Aside0.mk (And.intro hown hbw); obtain ⟨A6, c6, rfl⟩ := own_slice hown; clear hown hbw hgr hat)
          · have hl1 : (es ++ [(q : Int)]).length = es.length + 1 := by simp
            refine ⟨⟨es.length + 1, HJ.out, ⟨by rw [HX.out]; have h := HA.out.1; rw [hl1] at h ⊢; exact h, (HA.out.2.block _ (Nat.lt_succ_self _)).trans HW2.out, HW3.out.trans (HA.out.2.mono (Nat.le_succ _)), Nat.le_trans HW4.out HA.out.2.size⟩, A6, c6, rfl⟩, ?_⟩
            have := HJ.out
            simp
            omega
          · have := HK.out
            have := HJ.out
            omega
    · obtain rfl : j = k := by omega
      have d1 : decide ((j : Int) < (j : Int)) = false := by simp
      have hlj : ((ordL l).take j).length = j := by rw [List.length_take, ordL_length]; omega
      have HF : Aside0 (Kd.C (Kd.int .i64) wr A5 j ((ordL l).take j)) := ⟨by
        have h := (Kd.R_reads' (R_int HO.out.1)).2.2
        rwa [hlj] at h⟩
      have HBr := Aside0.mk HO.out.2.2.1
      clear hlk hlj HO
      go_wp2
      go_ret
      exact ⟨A5, c5, rfl, HF.out, HBr.out⟩
end Go.Proofs.YtfameghednapkaaDoor.Top
