/- bpe: add. -/
import Derived.Test.YtbgiccbegcepcaaBpeTok
import Derived.Test.YtbgiccbegcepcaaConcat
import Derived.Test.YtbgiccbegcepcaaQuietTail
import Derived.StillTailTactics
namespace Go.Proofs.Ytbgiccbegcepcaa.Bpe
open Go.RowKit Go.Proofs.YtbgiccbegcepcaaW.PrintWords Go.Proofs.YtbgiccbegcepcaaW.PrintLast Go.Proofs.YtbgiccbegcepcaaW.PrintMore Go.Proofs.Ytbgiccbegcepcaa.K Go.Proofs.Ytbgiccbegcepcaa.Cat
set_option linter.unusedVariables false
set_option linter.unusedSimpArgs false
def catT (T : List (List Int)) (p : Pr) : List Int := T.getD p.1.toNat [] ++ T.getD p.2.toNat []
def addE (T : List (List Int)) (ps : List Pr) (p : Pr) : Int :=
  if isTok T.length p.1 = false ∨ isTok T.length p.2 = false then 10 else if (look ps p).isSome = true then 15 else if 16 < (catT T p).length then 20 else 0
section
variable {w : World} {B g b : Nat} {vt vo : Value} {T : List (List Int)} {of : List Int} {n : Int} {ps os : List Pr}
/-- What add leaves, with a pair or without it. -/
def AddEnd (w : World) (B g b : Nat) (vo : Value) (of : List Int) (n : Int) (T : List (List Int)) (ps os : List Pr) (p : Pr) (e : Ending) (w' : World) : Prop :=
  e = .returned (.int .i64 (addE T ps p)) ∧ Below B w w' ∧ (addE T ps p = 0 → ∃ vt', CodAt w' B g vt' vo b (T ++ [catT T p]) of n (ps ++ [p]) os)
set_option maxHeartbeats 4000000 in
set_option maxRecDepth 100000 in
theorem add_range (x y : Int) (h : CodAt w B g vt vo b T of n ps os) (hB : B ≤ w.heap.size) (hr : isTok T.length x = false ∨ isTok T.length y = false) :
    Calls Try.prog 22 #[.pointer (some ⟨g, 0, none⟩), .agg #[.int .i64 x, .int .i64 y]] w (AddEnd w B g b vo of n T ps os (x, y)) := by
  have HE : Aside0 (addE T ps (x, y) = 10) := ⟨if_pos hr⟩
  have HH := Aside0.mk (h.below (bel_alloc (Below.refl _ _) (.cells #[.int .i64 x, .int .i64 y] 44)))
  have HB := Aside0.mk ((Below.refl B w).alloc hB (.cells #[.int .i64 x, .int .i64 y] 44))
  cases hx : isTok T.length x with
  | false =>
    have HX := Aside0.mk hx
    clear h hr hx hB
    go_enter Try.func22, Try.ntmps22
    go_wp2_with (go_at_call 27; refine (token_calls x false HX.out HH.out).mono ?_; rintro e w' ⟨rfl, rfl⟩)
    go_ret
    exact ⟨congrArg (fun z => Ending.returned (Value.int .i64 z)) HE.out.symm, HB.out, fun h0 => by rw [HE.out] at h0; cases h0⟩
  | true =>
    have HX := Aside0.mk hx
    have HY : Aside0 (isTok T.length y = false) := ⟨hr.resolve_left (by rw [hx]; simp)⟩
    clear h hr hx hB
    go_enter Try.func22, Try.ntmps22
    go_wp2_with (fail)
    refine (token_calls x true HX.out HH.out).mono ?_
    rintro e w' ⟨rfl, rfl⟩
    go_wp2_with (fail)
    refine (token_calls y false HY.out HH.out).mono ?_
    rintro e w' ⟨rfl, rfl⟩
    go_wp2
    go_ret
    exact ⟨congrArg (fun z => Ending.returned (Value.int .i64 z)) HE.out.symm, HB.out, fun h0 => by rw [HE.out] at h0; cases h0⟩
set_option maxHeartbeats 4000000 in
set_option maxRecDepth 100000 in
theorem add_rest (x y : Int) (h : CodAt w B g vt vo b T of n ps os) (hB : B ≤ w.heap.size) (hx : isTok T.length x = true) (hy : isTok T.length y = true) (hT : T.length ≤ 1000) (hps : ∀ q ∈ ps, wfP q) (hn : n + ps.length = T.length) (hn0 : 0 ≤ n) (hlen : ∀ t ∈ T, t.length ≤ 16) :
    Calls Try.prog 22 #[.pointer (some ⟨g, 0, none⟩), .agg #[.int .i64 x, .int .i64 y]] w (AddEnd w B g b vo of n T ps os (x, y)) := by
  obtain ⟨x, rfl⟩ : ∃ m : Nat, x = m := ⟨x.toNat, by simp [isTok] at hx; omega⟩
  obtain ⟨y, rfl⟩ : ∃ m : Nat, y = m := ⟨y.toNat, by simp [isTok] at hy; omega⟩
  have hxl : x < T.length := by simp [isTok] at hx; omega
  have hyl : y < T.length := by simp [isTok] at hy; omega
  have HX := Aside0.mk hx
  have HY := Aside0.mk hy
  have HN : Aside0 (¬ (isTok T.length (x : Int) = false ∨ isTok T.length (y : Int) = false)) := ⟨by rw [hx, hy]; simp⟩
  have HT := Aside0.mk hT
  have HPs := Aside0.mk hps
  have HNn := Aside0.mk hn
  have HN0 := Aside0.mk hn0
  have HLen := Aside0.mk hlen
  have HB0 := Aside0.mk hB
  have hwf : wfP ((x : Int), (y : Int)) := ⟨wf_nat x (by omega), wf_nat y (by omega)⟩
  have HWf := Aside0.mk hwf
  clear hx hy hT hps hn hn0 hlen hB hwf
  have HH := Aside0.mk (h.below (bel_alloc (Below.refl _ _) (.cells #[.int .i64 (x : Int), .int .i64 (y : Int)] 44)))
  have HB := Aside0.mk ((Below.refl B w).alloc HB0.out (.cells #[.int .i64 (x : Int), .int .i64 (y : Int)] 44))
  clear h
  go_enter Try.func22, Try.ntmps22
  go_wp2_with (fail)
  refine (token_calls x true HX.out HH.out).mono ?_
  rintro e w' ⟨rfl, rfl⟩
  go_wp2_with (fail)
  refine (token_calls y true HY.out HH.out).mono ?_
  rintro e w' ⟨rfl, rfl⟩
  go_wp2_with (fail)
  obtain ⟨gb, hgb⟩ : ∃ gb, gb = w.heap.size := ⟨_, rfl⟩
  have hp0 : (w.alloc (.cells #[.int .i64 (x : Int), .int .i64 (y : Int)] 44)).heap[gb]? = some (.cells #[.int .i64 (x : Int), .int .i64 (y : Int)] 44 (0, 0)) := by rw [hgb]; exact heap_alloc_new _ _
  rw [← hgb]
  have HGb : Aside0 (gb = w.heap.size) := ⟨hgb⟩
  clear hgb
  generalize w.alloc (.cells #[.int .i64 (x : Int), .int .i64 (y : Int)] 44) = W1 at *
  have HP0 := Aside0.mk hp0
  have hc0 : W1.cell? ⟨gb, 0, none⟩ = some (.int .i64 (x : Int)) := blk_cell hp0 0
  have hc1 : W1.cell? ⟨gb, 1, none⟩ = some (.int .i64 (y : Int)) := blk_cell hp0 1
  clear hp0
  have hm := cdm HH.out
  have hlk := HH.out.2.2.2.2.2.1.lookup_drew x y HWf.out
  cases hl : look ps ((x : Int), (y : Int)) with
  | some k =>
    have HE : Aside0 (addE T ps ((x : Int), (y : Int)) = 15) := ⟨by rw [addE, if_neg HN.out, if_pos (by rw [hl]; rfl)]⟩
    rw [hl] at hlk
    simp only [Option.isSome_some] at hlk
    clear hl
    go_quiet (fail)
    go_wp2
    go_ret
    exact ⟨congrArg (fun z => Ending.returned (Value.int .i64 z)) HE.out.symm, pw_below_drewN HB.out nq, fun h0 => by rw [HE.out] at h0; cases h0⟩
  | none =>
    have HE0 : Aside0 (addE T ps ((x : Int), (y : Int)) = if 16 < (catT T ((x : Int), (y : Int))).length then 20 else 0) := ⟨by rw [addE, if_neg HN.out, if_neg (by rw [hl]; simp)]⟩
    rw [hl] at hlk
    simp only [Option.isSome_none] at hlk
    have HL := Aside0.mk hl
    clear hl
    go_quiet (fail)
    go_wp2_with (fail)
    clear hlk hm hc0 hc1
    have HH2 : Aside0 (CodAt (W1.drewN nq) B g vt vo b T of n ps os) := ⟨HH.out.move (fun _ _ _ => rfl)⟩
    have HB2 : Aside0 (Below B w (W1.drewN nq)) := ⟨pw_below_drewN HB.out nq⟩
    have hp2 : (W1.drewN nq).heap[gb]? = some (.cells #[.int .i64 (x : Int), .int .i64 (y : Int)] 44 (0, 0)) := HP0.out
    clear HH HB HP0
    generalize W1.drewN nq = W2 at *
    have HP2 := Aside0.mk hp2
    have hc0 : W2.cell? ⟨gb, 0, none⟩ = some (.int .i64 (x : Int)) := blk_cell hp2 0
    have hc1 : W2.cell? ⟨gb, 1, none⟩ = some (.int .i64 (y : Int)) := blk_cell hp2 1
    have h0 := cd0 HH2.out
    clear hp2
    obtain ⟨A, c, rfl, hcap, hC⟩ := Kd.R_reads HH2.out.2.2.2.2.1
    have HC := Aside0.mk hC
    obtain ⟨ad, Ax, cx, rfl, hx1, hcx, hKx⟩ := row_at hC x hxl
    obtain ⟨ad', Ay, cy, e, hy1, hcy, hKy⟩ := row_at hC y hyl
    cases e
    have HKx := Aside0.mk hKx
    have HKy := Aside0.mk hKy
    clear hC hKx hKy
    have HXl : Aside0 ((T.getD x []).length ≤ 16) := ⟨by
      rw [List.getD_eq_getElem?_getD, List.getElem?_eq_getElem hxl]; exact HLen.out _ (List.getElem_mem hxl)⟩
    have HYl : Aside0 ((T.getD y []).length ≤ 16) := ⟨by
      rw [List.getD_eq_getElem?_getD, List.getElem?_eq_getElem hyl]; exact HLen.out _ (List.getElem_mem hyl)⟩
    have HCt : Aside0 (catT T ((x : Int), (y : Int)) = T.getD x [] ++ T.getD y []) := ⟨rfl⟩
    obtain ⟨ct, hct⟩ : ∃ ct, ct = catT T ((x : Int), (y : Int)) := ⟨_, rfl⟩
    have HCe := Aside0.mk hct
    rw [← hct] at HE0 HCt
    clear hct
    generalize T.getD x [] = tx at *
    generalize T.getD y [] = ty at *
    go_still_tail 16, (by kernel_rfl)
    have HH3 : Aside0 (CodAt W2.drew B g (.slice (some ad) T.length c) vo b T of n ps os) := ⟨HH2.out.move (fun _ _ _ => rfl)⟩
    have HB3 : Aside0 (Below B w W2.drew) := ⟨below_drew HB2.out⟩
    have HP3 : Aside0 (W2.drew.heap[gb]? = some (.cells #[.int .i64 (x : Int), .int .i64 (y : Int)] 44 (0, 0))) := ⟨HP2.out⟩
    have HKx3 : Aside0 (Kd.C (Kd.int .u8) W2.drew Ax tx.length tx) := ⟨HKx.out⟩
    have HKy3 : Aside0 (Kd.C (Kd.int .u8) W2.drew Ay ty.length ty) := ⟨HKy.out⟩
    have HAd : Aside0 (ad.block < W2.drew.heap.size) := ⟨Kd.R_lt HH3.out.2.2.2.2.1 _ rfl⟩
    change wpList _ _ _ _ _ W2.drew
    clear h0 hc0 hc1 hx1 hy1 HH2 HB2 HP2 HKx HKy HC
    generalize W2.drew = W3 at *
    have HCc : Aside0 (Calls Try.prog 29 #[.slice (some ⟨W3.heap.size, 0, none⟩) 2 2] (W3.alloc (.cells #[.slice Ax tx.length cx, .slice Ay ty.length cy] 22)) fun e w' => ∃ v, e = .returned v ∧ Kd.R (Kd.int .u8) 5 w' (W3.alloc (.cells #[.slice Ax tx.length cx, .slice Ay ty.length cy] 22)).heap.size (fun _ => True) v ct ∧ Below (W3.alloc (.cells #[.slice Ax tx.length cx, .slice Ay ty.length cy] 22)).heap.size (W3.alloc (.cells #[.slice Ax tx.length cx, .slice Ay ty.length cy] 22)) w') := ⟨by
      have hr : Kd.C (Kd.slice 5 (Kd.int .u8)) (W3.alloc (.cells [Value.slice Ax tx.length cx, .slice Ay ty.length cy].toArray 22)) (some ⟨W3.heap.size, 0, none⟩) [tx, ty].length [tx, ty] := rows_lit W3 22 _ [tx, ty] (by simp) (fun j z hj => by
        match j, hj with
        | 0, hj => cases hj; exact ⟨Ax, cx, rfl, hcx, HKx3.out⟩
        | 1, hj => cases hj; exact ⟨Ay, cy, rfl, hcy, HKy3.out⟩)
      have hc := concat_calls (some ⟨W3.heap.size, 0, none⟩) 2 [tx, ty] _ hr (by have := HXl.out; have := HYl.out; simp [sumLen]; omega)
      rw [show [tx, ty].flatten = ct by rw [HCt.out]; simp] at hc
      exact hc⟩
    have HB4 : Aside0 (Below W3.heap.size W3 (W3.alloc (.cells #[.slice Ax tx.length cx, .slice Ay ty.length cy] 22))) := ⟨bel_alloc (Below.refl _ _) _⟩
    go_wp2_with (fail)
    refine HCc.out.mono ?_
    rintro e W4 ⟨v7, rfl, hV, hb4⟩
    have HV := Aside0.mk (Kd.R_lower hV HB4.out.size)
    have HB5 := Aside0.mk (below_step HB4.out hb4)
    clear hV hb4 HCc HB4 HKx3 HKy3
    obtain ⟨A7, c7, rfl⟩ := Kd.R_slice HV.out
    have HCl : Aside0 (ct.length ≤ 32) := ⟨by have := HXl.out; have := HYl.out; rw [HCt.out, List.length_append]; omega⟩
    have HH4 := Aside0.mk (HH3.out.below HB5.out)
    have HB6 : Aside0 (Below B w W4) := ⟨HB3.out.trans (HB5.out.mono (Nat.le_trans (Nat.le_trans HB0.out (Nat.le_refl _)) HB3.out.size))⟩
    have hp4 : W4.heap[gb]? = some (.cells #[.int .i64 (x : Int), .int .i64 (y : Int)] 44 (0, 0)) := (HB5.out.block _ (blk_lt HP3.out)).trans HP3.out
    have HL4 : Aside0 (some gb ≠ some b) := ⟨fun e => by
      injection e with e
      subst e
      obtain ⟨es, ck, hb⟩ := HH4.out.2.2.2.2.2.1.obj
      rw [hp4] at hb
      cases hb⟩
    have hc0 : W4.cell? ⟨gb, 0, none⟩ = some (.int .i64 (x : Int)) := blk_cell hp4 0
    have hc1 : W4.cell? ⟨gb, 1, none⟩ = some (.int .i64 (y : Int)) := blk_cell hp4 1
    clear hp4
    by_cases hlong : 16 < ct.length
    · have HE : Aside0 (addE T ps ((x : Int), (y : Int)) = 20) := ⟨by rw [HE0.out, if_pos hlong]⟩
      have hd : decide (16 < (ct.length : Int)) = true := by simp; omega
      clear hlong
      go_wp2
      go_ret
      exact ⟨congrArg (fun z => Ending.returned (Value.int .i64 z)) HE.out.symm, HB6.out, fun h0 => by rw [HE.out] at h0; cases h0⟩
    · have HE : Aside0 (addE T ps ((x : Int), (y : Int)) = 0) := ⟨by rw [HE0.out, if_neg hlong]⟩
      have hd : decide (16 < (ct.length : Int)) = false := by simp; omega
      have h0 := cd0 HH4.out
      have hm := cdm HH4.out
      clear hlong
      go_wp2
      go_still_tail 10, (by kernel_rfl)
      have HH5 : Aside0 (CodAt W4.drew B g (.slice (some ad) T.length c) vo b T of n ps os) := ⟨HH4.out.move (fun _ _ _ => rfl)⟩
      have HB7 : Aside0 (Below B w W4.drew) := ⟨below_drew HB6.out⟩
      have HV5 : Aside0 (Kd.R (Kd.int .u8) 5 W4.drew W3.heap.size (fun _ => True) (.slice A7 ct.length c7) ct) := ⟨HV.out⟩
      have HS5 : Aside0 (W3.heap.size ≤ W4.drew.heap.size) := ⟨HB5.out.size⟩
      change wpList _ _ _ _ _ W4.drew
      clear HH4 HB6 HV HB5 h0 hm hc0 hc1
      generalize W4.drew = W5 at *
      obtain ⟨W6, hrun0, hP6, hg6⟩ := HH5.out.2.2.2.2.2.1.update x y HWf.out HPs.out HL.out (by have := HT.out; have := HNn.out; have := HN0.out; omega) (by rw [HNn.out]; exact wf_nat _ (by have := HT.out; omega))
      have hrun : (Instr.mapUpdate 55 (.map (some b)) (.agg #[.int .i64 (x : Int), .int .i64 (y : Int)]) (.int .i64 (T.length : Int))).run Try.prog W5 = .ok () W6 := by rw [HNn.out] at hrun0; exact hrun0
      have HH6 := Aside0.mk (HH5.out.mapped hP6 hg6)
      have HB8 : Aside0 (Below B w W6) := ⟨HB7.out.grown hg6 (Nat.le_trans HB0.out HB7.out.size) (fun k hk => by injection hk with hk; subst hk; exact HH5.out.2.1)⟩
      have HV6 : Aside0 (Kd.R (Kd.int .u8) 5 W6 W3.heap.size (fun _ => True) (.slice A7 ct.length c7) ct) := ⟨by
        obtain ⟨es, ck, hb⟩ := HH5.out.2.2.2.2.2.1.obj
        exact R_nomap HV5.out hb hg6⟩
      have HS6 : Aside0 (W3.heap.size ≤ W6.heap.size) := ⟨Nat.le_trans HS5.out hg6.size⟩
      clear hrun0 hP6 hg6
      have HM : Aside0 (kT.M W6 B (fun k => True ∧ some k ≠ (Value.slice (some ad) T.length c).ownBlock) ct [.slice A7 ct.length c7]) := ⟨by
        refine Kd.M_row (Kd.R_lower (base := W3.heap.size) (Kd.R_mono (Kd.R_bound HV6.out) (fun k hk => ⟨trivial, fun e => ?_⟩)) (Nat.le_trans HB0.out HB3.out.size))
        have h1 := hk.2.1
        have h2 := HAd.out
        simp only [Value.ownBlock, Option.some.injEq] at e
        omega⟩
      have h06 := cd0 HH6.out
      have f06 := cd0f HH6.out
      go_wp2_with (at_builtin; refine Kd.R_append kT (w0 := w) (W := W6) B rfl (.tmp 65) (.tmp 67) 57 22 (.slice none 0 0) 24 rfl Try.underlying57 info_bs rfl (by decide) (by decide) (.slice (some ad) T.length c) T ct [.slice A7 ct.length c7] (fun _ => True) (fun k => True ∧ some k ≠ (Value.slice (some ad) T.length c).ownBlock) rfl rfl HM.out (fun k hk => hk) (fun _ _ => trivial) HH6.out.2.2.2.2.1 HB8.out (Nat.le_trans HB0.out HB8.out.size) (by have := HT.out; omega) ?_; intro v1 W7 ho hb hg hat; obtain ⟨A1, c1, rfl⟩ := Kd.R_slice ho; have HLd := Aside0.mk (HH6.out.laid hg ho); have HB9 := Aside0.mk hb; have h07 : W7.cell? ⟨g, 0, none⟩ = some (.slice (some ad) T.length c) := blk_cell HLd.out.1 0; have f07 : W7.frozen? ⟨g, 0, none⟩ = false := blk_frozen HLd.out.1 0; clear ho hb hg hat)
      go_ret
      exact ⟨congrArg (fun z => Ending.returned (Value.int .i64 z)) HE.out.symm, HB9.out.setCell HLd.out.2.1 _, fun _ => ⟨Value.slice A1 (T.length + 1) c1, by
        rw [← HCe.out]
        have h := HLd.out.2
        rw [List.length_append, List.length_singleton] at h
        exact h⟩⟩
theorem add_calls (x y : Int) (h : CodAt w B g vt vo b T of n ps os) (hB : B ≤ w.heap.size) (hT : T.length ≤ 1000) (hps : ∀ q ∈ ps, wfP q) (hn : n + ps.length = T.length) (hn0 : 0 ≤ n) (hlen : ∀ t ∈ T, t.length ≤ 16) :
    Calls Try.prog 22 #[.pointer (some ⟨g, 0, none⟩), .agg #[.int .i64 x, .int .i64 y]] w (AddEnd w B g b vo of n T ps os (x, y)) := by
  cases hx : isTok T.length x with
  | false => exact add_range x y h hB (.inl hx)
  | true =>
    cases hy : isTok T.length y with
    | false => exact add_range x y h hB (.inr hy)
    | true => exact add_rest x y h hB hx hy hT hps hn hn0 hlen
theorem addE_wf {x y : Int} (h : addE T ps (x, y) = 0) (hT : T.length ≤ 1000) : wfP (x, y) := by
  unfold addE at h
  split at h
  · cases h
  · rename_i h1
    have hx : isTok T.length x = true := by cases hh : isTok T.length x <;> simp [hh] at h1 ⊢
    have hy : isTok T.length y = true := by cases hh : isTok T.length y <;> simp [hh] at h1 ⊢
    simp only [isTok, Bool.and_eq_true, decide_eq_true_eq] at hx hy
    have e1 : x = ((x.toNat : Nat) : Int) := by omega
    have e2 : y = ((y.toNat : Nat) : Int) := by omega
    exact ⟨by show (Lit.int .i64 x).wf = true; rw [e1]; exact wf_nat _ (by omega), by show (Lit.int .i64 y).wf = true; rw [e2]; exact wf_nat _ (by omega)⟩
theorem addE_cat {p : Pr} (h : addE T ps p = 0) : (catT T p).length ≤ 16 := by
  unfold addE at h
  split at h
  · cases h
  · split at h
    · cases h
    · split at h
      · cases h
      · omega
end
end Go.Proofs.Ytbgiccbegcepcaa.Bpe
