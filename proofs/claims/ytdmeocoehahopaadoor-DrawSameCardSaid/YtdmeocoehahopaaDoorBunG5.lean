/- Texts put together: Sort3, SymR, Sort4, SymS. -/
import Derived.Test.YtdmeocoehahopaaDoorBunG4
set_option linter.unusedVariables false
set_option linter.unusedSimpArgs false
namespace Go.Proofs.YtdmeocoehahopaaDoor.Sort
open Go.RowKit Go.Proofs.YtdmeocoehahopaaDoorW.PrintWords Go.Proofs.YtdmeocoehahopaaDoorW.PrintLast Go.Proofs.YtdmeocoehahopaaDoorW.PrintMore Go.Proofs.YtdmeocoehahopaaDoor.K Go.Proofs.YtdmeocoehahopaaDoor.RI
set_option linter.unusedVariables false
set_option linter.unusedSimpArgs false
def SwrF (g n c a b i p q : Nat) (yp yq : Int) (iv : Nat) (xv : Value) : Prop := match iv with
  | 0 => xv = .slice (some ⟨g, 0, none⟩) n c
  | 1 => xv = .int .i64 (a : Int)
  | 2 => xv = .int .i64 (i : Int)
  | 3 => xv = .int .i64 (p : Int)
  | 4 => xv = .slice (some ⟨g, 0, none⟩) n c
  | 5 => xv = .int .i64 (b : Int)
  | 6 => xv = .int .i64 (i : Int)
  | 7 => xv = .int .i64 (q : Int)
  | 8 => xv = .slice (some ⟨g, 0, none⟩) n c
  | 9 => xv = .int .i64 (b : Int)
  | 10 => xv = .int .i64 (i : Int)
  | 11 => xv = .int .i64 (q : Int)
  | 12 => xv = .pointer (some ⟨g, q, none⟩)
  | 13 => xv = .int .i64 yq
  | 14 => xv = .slice (some ⟨g, 0, none⟩) n c
  | 15 => xv = .int .i64 (a : Int)
  | 16 => xv = .int .i64 (i : Int)
  | 17 => xv = .int .i64 (p : Int)
  | 18 => xv = .pointer (some ⟨g, p, none⟩)
  | 19 => xv = .int .i64 yp
  | 20 => xv = .pointer (some ⟨g, p, none⟩)
  | 22 => xv = .pointer (some ⟨g, q, none⟩)
  | _ => True
theorem getD_set2 {ys : List Int} {p q : Nat} (x y : Int) (hp : p < ys.length) (hq : q < ys.length) (j : Nat) : ((ys.set p x).set q y).getD j 0 = if j = q then y else if j = p then x else ys.getD j 0 := by
  simp only [List.getD_eq_getElem?_getD]
  by_cases h1 : j = q
  · subst h1
    rw [if_pos rfl, List.getElem?_set_self (by rw [List.length_set]; exact hq)]
    rfl
  · rw [if_neg h1, List.getElem?_set_ne (fun h => h1 h.symm)]
    by_cases h2 : j = p
    · subst h2
      rw [if_pos rfl, List.getElem?_set_self hp]
      rfl
    · rw [if_neg h2, List.getElem?_set_ne (fun h => h2 h.symm)]
/-- A row in its cells that stands as a function tells. -/
def DatF (B g c n : Nat) (w w' : World) (f : Nat → Int) : Prop := ∃ ys, DatM B g c w w' ys ∧ ys.length = n ∧ ∀ j, ys.getD j 0 = f j
theorem DatF.drawn {B g c n : Nat} {w w1 w2 : World} {f : Nat → Int} (h : DatF B g c n w w1 f) (hd : Drawn0 w1 w2) : DatF B g c n w w2 f := by
  obtain ⟨ys, h1, h2, h3⟩ := h
  exact ⟨ys, h1.drawn hd, h2, h3⟩
theorem DatF.congr {B g c n : Nat} {w w1 : World} {f f' : Nat → Int} (h : DatF B g c n w w1 f) (he : ∀ j, f j = f' j) : DatF B g c n w w1 f' := by
  obtain ⟨ys, h1, h2, h3⟩ := h
  exact ⟨ys, h1, h2, fun j => (h3 j).trans (he j)⟩
theorem DatF.comp {B g c n : Nat} {w w1 w2 : World} {f f' : Nat → Int} (h : DatF B g c n w w1 f) (k : ∀ ys, Dat w1 g c ys → ys.length = n → (∀ j, ys.getD j 0 = f j) → DatF B g c n w1 w2 f') : DatF B g c n w w2 f' := by
  obtain ⟨ys, h1, h2, h3⟩ := h
  obtain ⟨zs, k1, k2, k3⟩ := k ys h1.dat h2 h3
  exact ⟨zs, h1.trans k1, k2, k3⟩
set_option maxHeartbeats 8000000 in
set_option maxRecDepth 100000 in
theorem swaprange_calls (g n c B a b k : Nat) (xs : List Int) (fv : Value) (w : World) (hxs : Dat w g c xs) (hn : xs.length = n) (hB : B ≤ g) (hab : a + k ≤ b) (hbn : b + k ≤ n) (hm : n ≤ 1000000) :
    Calls Tryd.prog 77 #[.slice (some ⟨g, 0, none⟩) n c, .int .i64 (a : Int), .int .i64 (b : Int), .int .i64 (k : Int), fv] w fun e w' => e = .returned (.tuple #[]) ∧ DatF B g c n w w' (swF (fun j => xs.getD j 0) a b k) := by
  have HX := Aside0.mk (DatM.refl (B := B) hxs)
  have HB := Aside0.mk hB
  have HN := Aside0.mk hn
  clear hxs hB hn
  go_enter Tryd.func77, Tryd.ntmps77
  go_wp2_with (fail)
  go_loopw [10] (fun s wr => ∃ i : Nat, i ≤ k ∧ s = .int .i64 (i : Int) ∧ Aside0 (DatF B g c n w wr (swF (fun j => xs.getD j 0) a b i))) (fun s _ => k - (intOf s).toNat)
  case atStart => exact ⟨0, Nat.zero_le _, rfl, ⟨xs, HX.out, HN.out, fun j => by unfold swF; rw [if_neg (by omega), if_neg (by omega)]⟩⟩
  case round =>
    obtain ⟨i, hik, rfl, HR⟩ := hrel
    by_cases hlt : i < k
    · obtain ⟨wx, rfl⟩ : ∃ wx : World, wx = wr := ⟨_, rfl⟩
      obtain ⟨ys, h1, h2, h3⟩ := HR.out
      obtain ⟨p, hp⟩ : ∃ p, p = a + i := ⟨_, rfl⟩
      obtain ⟨q, hq⟩ : ∃ q, q = b + i := ⟨_, rfl⟩
      have hcp := (h1.dat.at_ p (by omega)).1
      have hcq := (h1.dat.at_ q (by omega)).1
      have hfp := (h1.dat.at_ p (by omega)).2
      have hfq := (h1.dat.at_ q (by omega)).2
      have hst := fun j => swF_step (fun j => xs.getD j 0) a b i (by omega) j
      obtain ⟨yp, hyp⟩ : ∃ y, y = ys.getD p 0 := ⟨_, rfl⟩
      obtain ⟨yq, hyq⟩ : ∃ y, y = ys.getD q 0 := ⟨_, rfl⟩
      rw [← hyp] at hcp
      rw [← hyq] at hcq
      have hne : (⟨g, p, none⟩ : Addr) ≠ ⟨g, q, none⟩ := by intro h; injection h with _ h; omega
      have HW : Aside0 (DatF B g c n w ((wx.setCell ⟨g, p, none⟩ (.int .i64 yq)).setCell ⟨g, q, none⟩ (.int .i64 yp)) (swF (fun j => xs.getD j 0) a b (i + 1))) := ⟨by
        refine ⟨(ys.set p yq).set q yp, (h1.set HB.out p yq (by omega)).set HB.out q yp (by rw [List.length_set]; omega), by rw [List.length_set, List.length_set]; exact h2, fun j => ?_⟩
        rw [getD_set2 yq yp (by omega) (by omega) j, hst j, hyp, hyq, h3, h3, h3, hp, hq]⟩
      have hfq3 : (wx.setCell ⟨g, p, none⟩ (.int .i64 yq)).frozen? ⟨g, q, none⟩ = false := by simpa using hfq
      have hcq3 : (wx.setCell ⟨g, p, none⟩ (.int .i64 yq)).cell? ⟨g, q, none⟩ = some (.int .i64 yq) := (World.cell?_setCell_other wx _ _ _ hne).trans hcq
      have hwp : IntKind.i64.wrap ((a : Int) + (i : Int)) = (p : Int) := by rw [hp, IntKind.wrap_i64]; omega
      have hwq : IntKind.i64.wrap ((b : Int) + (i : Int)) = (q : Int) := by rw [hq, IntKind.wrap_i64]; omega
      have hwi : IntKind.i64.wrap ((i : Int) + 1) = (i : Int) + 1 := by rw [IntKind.wrap_i64]; omega
      have hpn : p < n := by omega
      have hqn : q < n := by omega
      clear h1 h2 h3 hst hyp hyq hne hp hq hfq HR
      go_upto_region 3 with (fail)
      refine wp_region_gen [false, false, false, false, false, false, false, false, false, false, false, false, false, false, false, false, true, true, true, true, true, true, true, true, true, true, true, true, true, true, true, true, true, true, true, true, true, true] (by kernel_rfl) (by kernel_rfl) (Two wx (wx.setCell ⟨g, p, none⟩ (.int .i64 yq)) ((wx.setCell ⟨g, p, none⟩ (.int .i64 yq)).setCell ⟨g, q, none⟩ (.int .i64 yp)) 21 23) (fun W W' => True) (fun iv xv _ => SwrF g n c a b i p q yp yq iv xv) (fun _ _ _ _ _ h => h) (Two.start ⟨⟨1, rfl⟩⟩) ?_ ?_
      · refine ⟨?_, ?_, ?_, ?_, ?_, ?_, ?_, ?_, ?_, ?_, ?_, ?_, ?_, ?_, ?_, ?_, ?_, ?_, ?_, ?_, ?_, ?_, ?_, ?_, trivial⟩
        · intro ℓ v W hb hl hd hu
          refine step_list fun K hK => ?_
          simp only [fill_lit, fillL, Act.put, List.setIfInBounds_toArray, List.set_cons_zero, List.set_cons_succ, Nat.reduceAdd] at hK ⊢
          clear hd hu
          go_wp2
          exact ⟨hb.keep (by decide) (by decide), trivial, rfl⟩
        · intro ℓ v W hb hl hd hu
          refine step_list fun K hK => ?_
          simp only [fill_lit, fillL, Act.put, List.setIfInBounds_toArray, List.set_cons_zero, List.set_cons_succ, Nat.reduceAdd] at hK ⊢
          clear hd hu
          go_wp2
          exact ⟨hb.keep (by decide) (by decide), trivial, rfl⟩
        · intro ℓ v W hb hl hd hu
          refine step_list fun K hK => ?_
          simp only [fill_lit, fillL, Act.put, List.setIfInBounds_toArray, List.set_cons_zero, List.set_cons_succ, Nat.reduceAdd] at hK ⊢
          clear hd hu
          go_wp2
          exact ⟨hb.keep (by decide) (by decide), trivial, rfl⟩
        · intro ℓ v W hb hl hd hu
          have h1 : v 17 = .int .i64 (a : Int) := (hd 1 (by kernel_rfl)).2
          have h2 : v 18 = .int .i64 (i : Int) := (hd 2 (by kernel_rfl)).2
          refine step_list fun K hK => ?_
          simp only [fill_lit, fillL, Act.put, List.setIfInBounds_toArray, List.set_cons_zero, List.set_cons_succ, Nat.reduceAdd] at hK ⊢
          rw [h1, h2] at hK ⊢
          clear hd hu h1 h2
          go_wp2
          exact ⟨hb.keep (by decide) (by decide), trivial, rfl⟩
        · intro ℓ v W hb hl hd hu
          refine step_list fun K hK => ?_
          simp only [fill_lit, fillL, Act.put, List.setIfInBounds_toArray, List.set_cons_zero, List.set_cons_succ, Nat.reduceAdd] at hK ⊢
          clear hd hu
          go_wp2
          exact ⟨hb.keep (by decide) (by decide), trivial, rfl⟩
        · intro ℓ v W hb hl hd hu
          refine step_list fun K hK => ?_
          simp only [fill_lit, fillL, Act.put, List.setIfInBounds_toArray, List.set_cons_zero, List.set_cons_succ, Nat.reduceAdd] at hK ⊢
          clear hd hu
          go_wp2
          exact ⟨hb.keep (by decide) (by decide), trivial, rfl⟩
        · intro ℓ v W hb hl hd hu
          refine step_list fun K hK => ?_
          simp only [fill_lit, fillL, Act.put, List.setIfInBounds_toArray, List.set_cons_zero, List.set_cons_succ, Nat.reduceAdd] at hK ⊢
          clear hd hu
          go_wp2
          exact ⟨hb.keep (by decide) (by decide), trivial, rfl⟩
        · intro ℓ v W hb hl hd hu
          have h5 : v 21 = .int .i64 (b : Int) := (hd 5 (by kernel_rfl)).2
          have h6 : v 22 = .int .i64 (i : Int) := (hd 6 (by kernel_rfl)).2
          refine step_list fun K hK => ?_
          simp only [fill_lit, fillL, Act.put, List.setIfInBounds_toArray, List.set_cons_zero, List.set_cons_succ, Nat.reduceAdd] at hK ⊢
          rw [h5, h6] at hK ⊢
          clear hd hu h5 h6
          go_wp2
          exact ⟨hb.keep (by decide) (by decide), trivial, rfl⟩
        · intro ℓ v W hb hl hd hu
          refine step_list fun K hK => ?_
          simp only [fill_lit, fillL, Act.put, List.setIfInBounds_toArray, List.set_cons_zero, List.set_cons_succ, Nat.reduceAdd] at hK ⊢
          clear hd hu
          go_wp2
          exact ⟨hb.keep (by decide) (by decide), trivial, rfl⟩
        · intro ℓ v W hb hl hd hu
          refine step_list fun K hK => ?_
          simp only [fill_lit, fillL, Act.put, List.setIfInBounds_toArray, List.set_cons_zero, List.set_cons_succ, Nat.reduceAdd] at hK ⊢
          clear hd hu
          go_wp2
          exact ⟨hb.keep (by decide) (by decide), trivial, rfl⟩
        · intro ℓ v W hb hl hd hu
          refine step_list fun K hK => ?_
          simp only [fill_lit, fillL, Act.put, List.setIfInBounds_toArray, List.set_cons_zero, List.set_cons_succ, Nat.reduceAdd] at hK ⊢
          clear hd hu
          go_wp2
          exact ⟨hb.keep (by decide) (by decide), trivial, rfl⟩
        · intro ℓ v W hb hl hd hu
          have h9 : v 25 = .int .i64 (b : Int) := (hd 9 (by kernel_rfl)).2
          have h10 : v 26 = .int .i64 (i : Int) := (hd 10 (by kernel_rfl)).2
          refine step_list fun K hK => ?_
          simp only [fill_lit, fillL, Act.put, List.setIfInBounds_toArray, List.set_cons_zero, List.set_cons_succ, Nat.reduceAdd] at hK ⊢
          rw [h9, h10] at hK ⊢
          clear hd hu h9 h10
          go_wp2
          exact ⟨hb.keep (by decide) (by decide), trivial, rfl⟩
        · intro ℓ v W hb hl hd hu
          have h8 : v 24 = .slice (some ⟨g, 0, none⟩) n c := (hd 8 (by kernel_rfl)).2
          have h11 : v 27 = .int .i64 (q : Int) := (hd 11 (by kernel_rfl)).2
          refine step_list fun K hK => ?_
          simp only [fill_lit, fillL, Act.put, List.setIfInBounds_toArray, List.set_cons_zero, List.set_cons_succ, Nat.reduceAdd] at hK ⊢
          rw [h8, h11] at hK ⊢
          clear hd hu h8 h11
          go_wp2
          exact ⟨hb.keep (by decide) (by decide), trivial, rfl⟩
        · intro ℓ v W hb hl hd hu
          obtain ⟨⟨nd, rfl⟩⟩ := hb.none_ (hu 21 (by kernel_rfl)) (hu 23 (by kernel_rfl))
          have hld : (wx.drewN nd).cell? ⟨g, q, none⟩ = some (.int .i64 yq) := hcq
          have h12 : v 28 = .pointer (some ⟨g, q, none⟩) := (hd 12 (by kernel_rfl)).2
          refine step_list fun K hK => ?_
          simp only [fill_lit, fillL, Act.put, List.setIfInBounds_toArray, List.set_cons_zero, List.set_cons_succ, Nat.reduceAdd] at hK ⊢
          rw [h12] at hK ⊢
          clear hd hu h12
          go_wp2
          exact ⟨hb.keep (by decide) (by decide), trivial, rfl⟩
        · intro ℓ v W hb hl hd hu
          refine step_list fun K hK => ?_
          simp only [fill_lit, fillL, Act.put, List.setIfInBounds_toArray, List.set_cons_zero, List.set_cons_succ, Nat.reduceAdd] at hK ⊢
          clear hd hu
          go_wp2
          exact ⟨hb.keep (by decide) (by decide), trivial, rfl⟩
        · intro ℓ v W hb hl hd hu
          refine step_list fun K hK => ?_
          simp only [fill_lit, fillL, Act.put, List.setIfInBounds_toArray, List.set_cons_zero, List.set_cons_succ, Nat.reduceAdd] at hK ⊢
          clear hd hu
          go_wp2
          exact ⟨hb.keep (by decide) (by decide), trivial, rfl⟩
        · intro ℓ v W hb hl hd hu
          refine step_list fun K hK => ?_
          simp only [fill_lit, fillL, Act.put, List.setIfInBounds_toArray, List.set_cons_zero, List.set_cons_succ, Nat.reduceAdd] at hK ⊢
          clear hd hu
          go_wp2
          exact ⟨hb.keep (by decide) (by decide), trivial, rfl⟩
        · intro ℓ v W hb hl hd hu
          have h15 : v 31 = .int .i64 (a : Int) := (hd 15 (by kernel_rfl)).2
          have h16 : v 32 = .int .i64 (i : Int) := (hd 16 (by kernel_rfl)).2
          refine step_list fun K hK => ?_
          simp only [fill_lit, fillL, Act.put, List.setIfInBounds_toArray, List.set_cons_zero, List.set_cons_succ, Nat.reduceAdd] at hK ⊢
          rw [h15, h16] at hK ⊢
          clear hd hu h15 h16
          go_wp2
          exact ⟨hb.keep (by decide) (by decide), trivial, rfl⟩
        · intro ℓ v W hb hl hd hu
          have h14 : v 30 = .slice (some ⟨g, 0, none⟩) n c := (hd 14 (by kernel_rfl)).2
          have h17 : v 33 = .int .i64 (p : Int) := (hd 17 (by kernel_rfl)).2
          refine step_list fun K hK => ?_
          simp only [fill_lit, fillL, Act.put, List.setIfInBounds_toArray, List.set_cons_zero, List.set_cons_succ, Nat.reduceAdd] at hK ⊢
          rw [h14, h17] at hK ⊢
          clear hd hu h14 h17
          go_wp2
          exact ⟨hb.keep (by decide) (by decide), trivial, rfl⟩
        · intro ℓ v W hb hl hd hu
          obtain ⟨⟨nd, rfl⟩⟩ := hb.none_ (hu 21 (by kernel_rfl)) (hu 23 (by kernel_rfl))
          have hld : (wx.drewN nd).cell? ⟨g, p, none⟩ = some (.int .i64 yp) := hcp
          have h18 : v 34 = .pointer (some ⟨g, p, none⟩) := (hd 18 (by kernel_rfl)).2
          refine step_list fun K hK => ?_
          simp only [fill_lit, fillL, Act.put, List.setIfInBounds_toArray, List.set_cons_zero, List.set_cons_succ, Nat.reduceAdd] at hK ⊢
          rw [h18] at hK ⊢
          clear hd hu h18
          go_wp2
          exact ⟨hb.keep (by decide) (by decide), trivial, rfl⟩
        · intro ℓ v W hb hl hd hu
          have h0 : v 16 = .slice (some ⟨g, 0, none⟩) n c := (hd 0 (by kernel_rfl)).2
          have h3 : v 19 = .int .i64 (p : Int) := (hd 3 (by kernel_rfl)).2
          refine step_list fun K hK => ?_
          simp only [fill_lit, fillL, Act.put, List.setIfInBounds_toArray, List.set_cons_zero, List.set_cons_succ, Nat.reduceAdd] at hK ⊢
          rw [h0, h3] at hK ⊢
          clear hd hu h0 h3
          go_wp2
          exact ⟨hb.keep (by decide) (by decide), trivial, rfl⟩
        · intro ℓ v W hb hl hd hu
          obtain ⟨⟨nd, rfl⟩⟩ := hb.none_ hl (hu 23 (by kernel_rfl))
          have hut := hu 23 (by kernel_rfl)
          have hfz : (wx.drewN nd).frozen? ⟨g, p, none⟩ = false := hfp
          have hcz : (wx.drewN nd).cell? ⟨g, p, none⟩ = some (.int .i64 yp) := hcp
          have h20 : v 36 = .pointer (some ⟨g, p, none⟩) := (hd 20 (by kernel_rfl)).2
          have h13 : v 29 = .int .i64 yq := (hd 13 (by kernel_rfl)).2
          refine step_list fun K hK => ?_
          simp only [fill_lit, fillL, Act.put, List.setIfInBounds_toArray, List.set_cons_zero, List.set_cons_succ, Nat.reduceAdd] at hK ⊢
          rw [h20, h13] at hK ⊢
          clear hd hu h20 h13
          go_wp2
          exact hK undef _ ⟨Two.mk2 ⟨⟨nd, rfl⟩⟩ hut (by decide), trivial, trivial⟩
        · intro ℓ v W hb hl hd hu
          have h4 : v 20 = .slice (some ⟨g, 0, none⟩) n c := (hd 4 (by kernel_rfl)).2
          have h7 : v 23 = .int .i64 (q : Int) := (hd 7 (by kernel_rfl)).2
          refine step_list fun K hK => ?_
          simp only [fill_lit, fillL, Act.put, List.setIfInBounds_toArray, List.set_cons_zero, List.set_cons_succ, Nat.reduceAdd] at hK ⊢
          rw [h4, h7] at hK ⊢
          clear hd hu h4 h7
          go_wp2
          exact ⟨hb.keep (by decide) (by decide), trivial, rfl⟩
        · intro ℓ v W hb hl hd hu
          obtain ⟨⟨nd, rfl⟩⟩ := hb.one_ (hd 21 (by kernel_rfl)).1 hl
          have hfz : ((wx.setCell ⟨g, p, none⟩ (.int .i64 yq)).drewN nd).frozen? ⟨g, q, none⟩ = false := hfq3
          have hcz : ((wx.setCell ⟨g, p, none⟩ (.int .i64 yq)).drewN nd).cell? ⟨g, q, none⟩ = some (.int .i64 yq) := hcq3
          have h22 : v 37 = .pointer (some ⟨g, q, none⟩) := (hd 22 (by kernel_rfl)).2
          have h19 : v 35 = .int .i64 yp := (hd 19 (by kernel_rfl)).2
          refine step_list fun K hK => ?_
          simp only [fill_lit, fillL, Act.put, List.setIfInBounds_toArray, List.set_cons_zero, List.set_cons_succ, Nat.reduceAdd] at hK ⊢
          rw [h22, h19] at hK ⊢
          clear hd hu h22 h19
          go_wp2
          exact hK undef _ ⟨Two.mk3 ⟨⟨nd, rfl⟩⟩, trivial, trivial⟩
      · intro ℓ v W hb hall hF
        obtain ⟨⟨nd, rfl⟩⟩ := hb.done_ (hall 23 (of_decide_eq_true (by kernel_rfl)))
        clear hF hall hb
        simp only [fill_lit, fillL, Nat.reduceAdd]
        have HW2 := Aside0.mk (HW.out.drawn (w2 := ((wx.setCell ⟨g, p, none⟩ (.int .i64 yq)).setCell ⟨g, q, none⟩ (.int .i64 yp)).drewN nd) ⟨⟨nd, rfl⟩⟩)
        generalize (((wx.setCell ⟨g, p, none⟩ (.int .i64 yq)).setCell ⟨g, q, none⟩ (.int .i64 yp)).drewN nd) = wz at *
        clear hcq3 hfq3 hcp hcq hfp hwp hwq
        go_wp2
        go_roundw
        case rel => exact ⟨i + 1, by omega, by go_num, HW2⟩
        case measure => simp [intOf]; omega
    · obtain rfl : i = k := by omega
      go_wp2
      go_end0
      exact ⟨rfl, HR.out⟩
set_option maxHeartbeats 8000000 in
set_option maxRecDepth 100000 in
theorem rotate_calls (g n c B a m b : Nat) (xs : List Int) (fv : Value) (w : World) (hxs : Dat w g c xs) (hn : xs.length = n) (hB : B ≤ g) (ham : a < m) (hmb : m < b) (hbn : b ≤ n) (hm : n ≤ 1000000) :
    Calls Tryd.prog 76 #[.slice (some ⟨g, 0, none⟩) n c, .int .i64 (a : Int), .int .i64 (m : Int), .int .i64 (b : Int), fv] w fun e w' => e = .returned (.tuple #[]) ∧ DatF B g c n w w' (rotF (fun j => xs.getD j 0) a m b) := by
  have HX := Aside0.mk (DatM.refl (B := B) hxs)
  have HB := Aside0.mk hB
  have HN := Aside0.mk hn
  have HS : Aside0 ((∀ t, rotF (fun j => xs.getD j 0) (m - (m - a)) m (m + (b - m)) t = rotF (fun j => xs.getD j 0) a m b t)) := ⟨fun t => by rw [show m - (m - a) = a by omega, show m + (b - m) = b by omega]⟩
  clear hxs hB hn
  obtain ⟨i0, hi0⟩ : ∃ i, i = m - a := ⟨_, rfl⟩
  obtain ⟨j0, hj0⟩ : ∃ j, j = b - m := ⟨_, rfl⟩
  rw [← hi0, ← hj0] at HS
  have hw1 : IntKind.i64.wrap ((m : Int) - (a : Int)) = (i0 : Int) := by rw [hi0, IntKind.wrap_i64]; omega
  have hw2 : IntKind.i64.wrap ((b : Int) - (m : Int)) = (j0 : Int) := by rw [hj0, IntKind.wrap_i64]; omega
  have HI : Aside0 (0 < i0 ∧ 0 < j0 ∧ i0 ≤ m ∧ m + j0 ≤ n ∧ n ≤ 1000000) := ⟨by omega⟩
  clear hi0 hj0 ham hmb hbn hm
  go_enter Tryd.func76, Tryd.ntmps76
  go_wp2_with (fail)
  clear hw1 hw2
  go_loopw [10, 11] (fun s t wr => ∃ i j : Nat, s = .int .i64 (i : Int) ∧ t = .int .i64 (j : Int) ∧ Aside0 ((0 < i ∧ 0 < j ∧ i ≤ m ∧ m + j ≤ n) ∧ ∃ f, DatF B g c n w wr f ∧ ∀ t, rotF f (m - i) m (m + j) t = rotF (fun j => xs.getD j 0) a m b t)) (fun s t _ => (intOf s).toNat + (intOf t).toNat)
  case atStart => exact ⟨i0, j0, rfl, rfl, ⟨⟨HI.out.1, HI.out.2.1, HI.out.2.2.1, HI.out.2.2.2.1⟩, _, ⟨xs, HX.out, HN.out, fun _ => rfl⟩, HS.out⟩⟩
  case round =>
    obtain ⟨i, j, rfl, rfl, HR⟩ := hrel
    obtain ⟨⟨hi, hj, him, hjn⟩, f, hf, hrot⟩ := HR.out
    have hnn := HI.out.2.2.2.2
    have HF := Aside0.mk hf
    have HRt := Aside0.mk hrot
    obtain ⟨ys, hy1, hy2, hy3⟩ := hf
    clear HR hrot
    obtain ⟨p, hp⟩ : ∃ p, p = m - i := ⟨_, rfl⟩
    have hwp : IntKind.i64.wrap ((m : Int) - (i : Int)) = (p : Int) := by rw [hp, IntKind.wrap_i64]; omega
    have HP := Aside0.mk hp
    by_cases hgt : j < i
    · have dne : ((i : Int) != (j : Int)) = true := by simp; omega
      have dgt : decide ((j : Int) < (i : Int)) = true := by simp; omega
      have dgn : decide (j < i) = true := by simp; omega
      have dnn : (i != j) = true := by simp; omega
      have HC := Aside0.mk (swaprange_calls g n c B p m j ys fv wr hy1.dat hy2 HB.out (by omega) (by omega) hnn)
      obtain ⟨i2, hi2⟩ : ∃ i2, i2 = i - j := ⟨_, rfl⟩
      have hw2 : IntKind.i64.wrap ((i : Int) - (j : Int)) = (i2 : Int) := by rw [hi2, IntKind.wrap_i64]; omega
      have HG := Aside0.mk (And.intro hgt (And.intro hi (And.intro hj (And.intro him (And.intro hjn hi2)))))
      have HY := Aside0.mk (And.intro hy1 hy3)
      clear hgt hi hj him hjn hi2 hy1 hy2 hy3 hp hnn
      go_wp2_with (fail)
      refine HC.out.mono ?_
      rintro e w2 ⟨rfl, hd⟩
      have HD := Aside0.mk hd
      clear hd
      go_wp2
      go_roundw
      case rel =>
        obtain ⟨g1, g2, g3, g4, g5, g6⟩ := HG.out
        refine ⟨i2, j, rfl, rfl, ⟨⟨by omega, g3, by omega, g5⟩, swF f (m - i) m j, ?_, fun t => ?_⟩⟩
        · obtain ⟨zs, k1, k2, k3⟩ := HD.out
          refine ⟨zs, HY.out.1.trans k1, k2, fun t => ?_⟩
          rw [k3 t, HP.out]
          unfold swF
          simp only [HY.out.2]
        · rw [g6, rot_gt f i j m g1 g4 t, HRt.out t]
      case measure =>
        have := HG.out
        simp [intOf]
        omega
    · by_cases hlt : i < j
      · have dne : ((i : Int) != (j : Int)) = true := by simp; omega
        have dgt : decide ((j : Int) < (i : Int)) = false := by simp; omega
        have dgn : decide (j < i) = false := by simp; omega
        have dnn : (i != j) = true := by simp; omega
        obtain ⟨q, hq⟩ : ∃ q, q = m + j - i := ⟨_, rfl⟩
        obtain ⟨mj, hmj⟩ : ∃ q, q = m + j := ⟨_, rfl⟩
        have hw3 : IntKind.i64.wrap ((m : Int) + (j : Int)) = (mj : Int) := by rw [hmj, IntKind.wrap_i64]; omega
        have hw4 : IntKind.i64.wrap ((mj : Int) - (i : Int)) = (q : Int) := by rw [hq, hmj, IntKind.wrap_i64]; omega
        have HC := Aside0.mk (swaprange_calls g n c B p q i ys fv wr hy1.dat hy2 HB.out (by omega) (by omega) hnn)
        obtain ⟨j2, hj2⟩ : ∃ j2, j2 = j - i := ⟨_, rfl⟩
        have hw2 : IntKind.i64.wrap ((j : Int) - (i : Int)) = (j2 : Int) := by rw [hj2, IntKind.wrap_i64]; omega
        have HG := Aside0.mk (And.intro hlt (And.intro hi (And.intro hj (And.intro him (And.intro hjn (And.intro hj2 hq))))))
        have HY := Aside0.mk (And.intro hy1 hy3)
        clear hgt hlt hi hj him hjn hj2 hy1 hy2 hy3 hp hnn hq hmj
        go_wp2_with (fail)
        refine HC.out.mono ?_
        rintro e w2 ⟨rfl, hd⟩
        have HD := Aside0.mk hd
        clear hd
        go_wp2
        go_roundw
        case rel =>
          obtain ⟨g1, g2, g3, g4, g5, g6, g7⟩ := HG.out
          refine ⟨i, j2, rfl, rfl, ⟨⟨g2, by omega, g4, by omega⟩, swF f (m - i) (m + j - i) i, ?_, fun t => ?_⟩⟩
          · obtain ⟨zs, k1, k2, k3⟩ := HD.out
            refine ⟨zs, HY.out.1.trans k1, k2, fun t => ?_⟩
            rw [k3 t, HP.out, g7]
            unfold swF
            simp only [HY.out.2]
          · rw [g6, rot_lt f i j m g1 g4 t, HRt.out t]
        case measure =>
          have := HG.out
          simp [intOf]
          omega
      · obtain rfl : i = j := by omega
        have HC := Aside0.mk (swaprange_calls g n c B p m i ys fv wr hy1.dat hy2 HB.out (by omega) (by omega) hnn)
        have HY := Aside0.mk (And.intro hy1 (And.intro hy3 him))
        clear hgt hlt hi hj him hjn hy1 hy2 hy3 hp hnn
        go_wp2_with (fail)
        refine HC.out.mono ?_
        rintro e w2 ⟨rfl, hd⟩
        have HD := Aside0.mk hd
        clear hd
        go_wp2
        go_end0
        refine ⟨rfl, ?_⟩
        obtain ⟨zs, k1, k2, k3⟩ := HD.out
        refine ⟨zs, HY.out.1.trans k1, k2, fun t => ?_⟩
        rw [k3 t, HP.out, ← HRt.out t, ← rot_eq f i m HY.out.2.2 t]
        unfold swF
        simp only [HY.out.2.1]
end Go.Proofs.YtdmeocoehahopaaDoor.Sort
namespace Go.Proofs.YtdmeocoehahopaaDoor.Sort
open Go.RowKit
set_option linter.unusedVariables false
set_option linter.unusedSimpArgs false
theorem rot_nop {f : Nat → Int} {s m e : Nat} (h : ¬ (s < m ∧ m < e)) (h1 : s ≤ m) (h2 : m ≤ e) (j : Nat) : rotF f s m e j = f j := by
  unfold rotF
  repeat' split
  all_goals first | (exfalso; omega) | (congr 1 <;> omega)
theorem Merged.same {pr : Int → Int → Prop} {f : Nat → Int} {a b : Nat} (h : SortedOn pr f a b) : Merged pr f f a b := ⟨h, fun i h1 h2 => ⟨i, h1, h2, rfl⟩, fun _ _ => rfl⟩
structure Halves (pr : Int → Int → Prop) (cf : Int → Int → Int) (h : Nat → Int) (a s mid : Nat) : Prop where
  l : SortedOn pr h a s
  r : SortedOn pr h s mid
  t : Tells2 pr cf h a s mid
theorem halves1 {pr : Int → Int → Prop} {cf : Int → Int → Int} {f : Nat → Int} {a m b mid s e : Nat} (hL : SortedOn pr f a m) (hR : SortedOn pr f m b) (hT : Tells2 pr cf f a m b) (h1 : a ≤ s) (h2 : s ≤ m) (h3 : m ≤ e) (h4 : e ≤ b) (h5 : s ≤ mid) (he : e = mid + m - s) : Halves pr cf (rotF f s m e) a s mid := by
  have eL : ∀ i, i < s → rotF f s m e i = f i := fun i _ => by unfold rotF; rw [if_neg (by omega), if_neg (by omega)]
  have eR : ∀ i, s ≤ i → i < mid → rotF f s m e i = f (m + (i - s)) := fun i _ _ => by unfold rotF; rw [if_pos (by omega)]
  refine ⟨fun i j hi hij hj => ?_, fun i j hi hij hj => ?_, fun p q p1 p2 q1 q2 => ?_⟩
  · rw [eL i (by omega), eL j hj]
    exact hL i j hi hij (by omega)
  · rw [eR i hi (by omega), eR j (by omega) hj]
    exact hR _ _ (by omega) (by omega) (by omega)
  · rw [eL p p2, eR q q1 q2]
    exact hT p _ p1 (by omega) (by omega) (by omega)
theorem halves2 {pr : Int → Int → Prop} {cf : Int → Int → Int} {f g : Nat → Int} {a m b mid s e : Nat} (hL : SortedOn pr f a m) (hR : SortedOn pr f m b) (hT : Tells2 pr cf f a m b) (h1 : a ≤ s) (h2 : s ≤ m) (h3 : m ≤ e) (h4 : e ≤ b) (h5 : s ≤ mid) (h6 : mid ≤ e) (he : e = mid + m - s) (hg : ∀ j, mid ≤ j → g j = rotF f s m e j) : Halves pr cf g mid e b := by
  have eL : ∀ i, mid ≤ i → i < e → g i = f (s + (i - mid)) := fun i hi _ => by rw [hg i hi]; unfold rotF; rw [if_neg (by omega), if_pos (by omega)]; congr 1 <;> omega
  have eR : ∀ i, e ≤ i → g i = f i := fun i _ => by rw [hg i (by omega)]; unfold rotF; rw [if_neg (by omega), if_neg (by omega)]
  refine ⟨fun i j hi hij hj => ?_, fun i j hi hij hj => ?_, fun p q p1 p2 q1 q2 => ?_⟩
  · rw [eL i hi (by omega), eL j (by omega) hj]
    exact hL _ _ (by omega) (by omega) (by omega)
  · rw [eR i hi, eR j (by omega)]
    exact hR i j (by omega) hij hj
  · rw [eL p p1 p2, eR q q1]
    exact hT _ q (by omega) (by omega) (by omega) q2
theorem Halves.same {pr : Int → Int → Prop} {cf : Int → Int → Int} {h : Nat → Int} {a s mid : Nat} (k : Halves pr cf h a s mid) (hc : ¬ (a < s ∧ s < mid)) (h1 : a ≤ s) (h2 : s ≤ mid) : Merged pr h h a mid := by
  refine Merged.same fun i j hi hij hj => ?_
  by_cases e : a = s
  · subst e; exact k.r i j hi hij hj
  · obtain rfl : s = mid := by omega
    exact k.l i j hi hij hj
/-- All the numbers of a row. -/
def AllF (D : Int → Prop) (n : Nat) (f : Nat → Int) : Prop := ∀ j, j < n → D (f j)
theorem AllF.list {D : Int → Prop} {n : Nat} {f : Nat → Int} {ys : List Int} (h : AllF D n f) (hl : ys.length = n) (he : ∀ j, ys.getD j 0 = f j) : ∀ x ∈ ys, D x := fun x hx => by
  obtain ⟨j, hj, rfl⟩ := List.mem_iff_getElem.1 hx
  have h1 := he j
  rw [List.getD_eq_getElem?_getD, List.getElem?_eq_getElem hj, Option.getD_some] at h1
  rw [h1]
  exact h j (by omega)
theorem AllF.from_ {D : Int → Prop} {n a b : Nat} {f g : Nat → Int} (h : AllF D n f) (h1 : FromOn f g a b) (h2 : SameOff f g a b) (hb : b ≤ n) : AllF D n g := fun j hj => by
  by_cases hi : a ≤ j ∧ j < b
  · obtain ⟨t, t1, t2, t3⟩ := h1 j hi.1 hi.2
    rw [t3]
    exact h t (by omega)
  · rw [h2 j (by omega)]
    exact h j hj
theorem list_allF {D : Int → Prop} {xs : List Int} (h : ∀ x ∈ xs, D x) : AllF D xs.length (fun j => xs.getD j 0) := fun j hj => by
  show D (xs.getD j 0)
  rw [List.getD_eq_getElem?_getD, List.getElem?_eq_getElem hj]
  exact h _ (List.getElem_mem hj)
def MergeEnd (pr : Int → Int → Prop) (B g c n a b : Nat) (f : Nat → Int) (w : World) (w' : World) : Prop := ∃ h, DatF B g c n w w' h ∧ Merged pr f h a b
end Go.Proofs.YtdmeocoehahopaaDoor.Sort
namespace Go.Proofs.YtdmeocoehahopaaDoor.Sort
open Go.RowKit Go.Proofs.YtdmeocoehahopaaDoorW.PrintWords Go.Proofs.YtdmeocoehahopaaDoorW.PrintLast Go.Proofs.YtdmeocoehahopaaDoorW.PrintMore Go.Proofs.YtdmeocoehahopaaDoor.K Go.Proofs.YtdmeocoehahopaaDoor.RI
set_option linter.unusedVariables false
set_option linter.unusedSimpArgs false
def Sm5F (fid : Nat) (fa lb : Array Value) (g n c a h : Nat) (x1 x2 r : Int) (iv : Nat) (xv : Value) : Prop := match iv with
  | 0 => xv = .func (.func fid) fa lb
  | 1 => xv = .slice (some ⟨g, 0, none⟩) n c
  | 2 => xv = .int .i64 (h : Int)
  | 3 => xv = .pointer (some ⟨g, h, none⟩)
  | 4 => xv = .int .i64 x1
  | 5 => xv = .slice (some ⟨g, 0, none⟩) n c
  | 6 => xv = .int .i64 (a : Int)
  | 7 => xv = .pointer (some ⟨g, a, none⟩)
  | 8 => xv = .int .i64 x2
  | 9 => xv = .int .i64 r
  | 10 => xv = .bool (decide (r < 0))
  | _ => True
def Sm17F (fid : Nat) (fa lb : Array Value) (g n c m h : Nat) (x1 x2 r : Int) (iv : Nat) (xv : Value) : Prop := match iv with
  | 0 => xv = .func (.func fid) fa lb
  | 1 => xv = .slice (some ⟨g, 0, none⟩) n c
  | 2 => xv = .int .i64 (m : Int)
  | 3 => xv = .pointer (some ⟨g, m, none⟩)
  | 4 => xv = .int .i64 x1
  | 5 => xv = .slice (some ⟨g, 0, none⟩) n c
  | 6 => xv = .int .i64 (h : Int)
  | 7 => xv = .pointer (some ⟨g, h, none⟩)
  | 8 => xv = .int .i64 x2
  | 9 => xv = .int .i64 r
  | 10 => xv = .bool (decide (r < 0))
  | 11 => xv = .bool (!decide (r < 0))
  | _ => True
def Sm35F (fid : Nat) (fa lb : Array Value) (g n c p h ph : Nat) (x1 x2 r : Int) (iv : Nat) (xv : Value) : Prop := match iv with
  | 0 => xv = .func (.func fid) fa lb
  | 1 => xv = .slice (some ⟨g, 0, none⟩) n c
  | 2 => xv = .int .i64 (p : Int)
  | 3 => xv = .int .i64 (h : Int)
  | 4 => xv = .int .i64 (ph : Int)
  | 5 => xv = .pointer (some ⟨g, ph, none⟩)
  | 6 => xv = .int .i64 x1
  | 7 => xv = .slice (some ⟨g, 0, none⟩) n c
  | 8 => xv = .int .i64 (h : Int)
  | 9 => xv = .pointer (some ⟨g, h, none⟩)
  | 10 => xv = .int .i64 x2
  | 11 => xv = .int .i64 r
  | 12 => xv = .bool (decide (r < 0))
  | 13 => xv = .bool (!decide (r < 0))
  | _ => True
def Sm11F (g n c k q : Nat) (yk yq : Int) (iv : Nat) (xv : Value) : Prop := match iv with
  | 0 => xv = .slice (some ⟨g, 0, none⟩) n c
  | 1 => xv = .int .i64 (k : Int)
  | 2 => xv = .slice (some ⟨g, 0, none⟩) n c
  | 3 => xv = .int .i64 (k : Int)
  | 4 => xv = .int .i64 (q : Int)
  | 5 => xv = .slice (some ⟨g, 0, none⟩) n c
  | 6 => xv = .int .i64 (k : Int)
  | 7 => xv = .int .i64 (q : Int)
  | 8 => xv = .pointer (some ⟨g, q, none⟩)
  | 9 => xv = .int .i64 yq
  | 10 => xv = .slice (some ⟨g, 0, none⟩) n c
  | 11 => xv = .int .i64 (k : Int)
  | 12 => xv = .pointer (some ⟨g, k, none⟩)
  | 13 => xv = .int .i64 yk
  | 14 => xv = .pointer (some ⟨g, k, none⟩)
  | 16 => xv = .pointer (some ⟨g, q, none⟩)
  | _ => True
def Sm23F (g n c k q : Nat) (yk yq : Int) (iv : Nat) (xv : Value) : Prop := match iv with
  | 0 => xv = .slice (some ⟨g, 0, none⟩) n c
  | 1 => xv = .int .i64 (k : Int)
  | 2 => xv = .slice (some ⟨g, 0, none⟩) n c
  | 3 => xv = .int .i64 (k : Int)
  | 4 => xv = .int .i64 (q : Int)
  | 5 => xv = .slice (some ⟨g, 0, none⟩) n c
  | 6 => xv = .int .i64 (k : Int)
  | 7 => xv = .int .i64 (q : Int)
  | 8 => xv = .pointer (some ⟨g, q, none⟩)
  | 9 => xv = .int .i64 yq
  | 10 => xv = .slice (some ⟨g, 0, none⟩) n c
  | 11 => xv = .int .i64 (k : Int)
  | 12 => xv = .pointer (some ⟨g, k, none⟩)
  | 13 => xv = .int .i64 yk
  | 14 => xv = .pointer (some ⟨g, k, none⟩)
  | 16 => xv = .pointer (some ⟨g, q, none⟩)
  | _ => True
set_option maxHeartbeats 16000000 in
set_option maxRecDepth 100000 in
theorem sym_left_calls {pr : Int → Int → Prop} (hS : Strict pr) (fid : Nat) (fa lb : Array Value) (cf : Int → Int → Int) (D : Int → Prop) (g n c B a m b : Nat) (xs : List Int) (w : World) (hCmp : Cmp fid fa lb cf D B g w) (hxs : Dat w g c xs) (hn : xs.length = n) (hD : ∀ x ∈ xs, D x) (hB : B ≤ g) (ham : a < m) (hmb : m < b) (hbn : b ≤ n) (hm9 : n ≤ 1000000)
    (hL : SortedOn pr (fun j => xs.getD j 0) a m) (hR : SortedOn pr (fun j => xs.getD j 0) m b) (hT : Tells2 pr cf (fun j => xs.getD j 0) a m b) (hone : m = a + 1) :
    Calls Tryd.prog 75 #[.slice (some ⟨g, 0, none⟩) n c, .int .i64 (a : Int), .int .i64 (m : Int), .int .i64 (b : Int), .func (.func fid) fa lb] w fun e w' => e = .returned (.tuple #[]) ∧ MergeEnd pr B g c n a b (fun j => xs.getD j 0) w w' := by
  have hent := hCmp.enters
  have HCmp := Aside0.mk hCmp
  have HX := Aside0.mk (DatM.refl (B := B) hxs)
  have HD := Aside0.mk hD
  have HB := Aside0.mk hB
  have HN := Aside0.mk hn
  have HL := Aside0.mk hL
  have HR := Aside0.mk hR
  have HT := Aside0.mk hT
  subst hone
  have HS := Aside0.mk hS
  have HLim : Aside0 (a + 1 < b ∧ b ≤ n ∧ n ≤ 1000000 ∧ xs.length = n) := ⟨by omega⟩
  have hwm : IntKind.i64.wrap (((a + 1 : Nat) : Int) - (a : Int)) = 1 := by rw [IntKind.wrap_i64]; omega
  have HStart : Aside0 (OneL pr (fun j => xs.getD j 0) a b (a + 1) b) := ⟨OneL.start (by omega)⟩
  obtain ⟨m, hm⟩ : ∃ m, m = a + 1 := ⟨_, rfl⟩
  rw [← hm] at hwm
  rw [← hm]
  have HMe := Aside0.mk hm
  rw [← hm] at HStart
  clear hCmp hxs hn hD hB ham hmb hL hR hT hS hm hbn hm9
  go_enter Tryd.func75, Tryd.ntmps75
  go_wp2_with (fail)

  go_loopw [10, 11] (fun s t wr => ∃ i j : Nat, s = .int .i64 (i : Int) ∧ t = .int .i64 (j : Int) ∧ Aside0 (OneL pr (fun j => xs.getD j 0) a b i j ∧ Drawn0 w wr)) (fun s t _ => (intOf t).toNat - (intOf s).toNat)
  case atStart => exact ⟨_, _, rfl, rfl, ⟨HStart.out, ⟨⟨0, rfl⟩⟩⟩⟩
  case round =>
    obtain ⟨i, j, rfl, rfl, HI⟩ := hrel
    obtain ⟨wi, rfl⟩ : ∃ wi : World, wi = wr := ⟨_, rfl⟩
    have hb := HI.out.1
    have hb1 := hb.h1
    have hb2 := hb.h2
    have hb3 := hb.h3
    have hlim := HLim.out
    have HM : Aside0 (DatM B g c w wi xs) := ⟨HX.out.drawn HI.out.2⟩
    by_cases hlt : i < j
    · have dlt : decide (i < j) = true := by simpa using hlt
      have dlt2 : decide ((i : Int) < (j : Int)) = true := by simp; omega
      obtain ⟨sr, hsr⟩ : ∃ t, t = i + j := ⟨_, rfl⟩
      obtain ⟨h, hh⟩ : ∃ t, t = sr / 2 := ⟨_, rfl⟩
      have hh1 : i ≤ h ∧ h < j := by omega
      have hw1 : IntKind.i64.wrap ((i : Int) + (j : Int)) = (sr : Int) := by rw [hsr, IntKind.wrap_i64]; omega
      have hw2 : IntKind.u64.wrap (sr : Int) = (sr : Int) := by rw [IntKind.wrap_u64]; omega
      have hw3 : (sr : Int) / 2 = (h : Int) := by rw [hh]; omega
      have hw4 : IntKind.i64.wrap (h : Int) = (h : Int) := by rw [IntKind.wrap_i64]; omega
      have hw5 : IntKind.u64.wrap (h : Int) = (h : Int) := by rw [IntKind.wrap_u64]; omega
      have hw6 : IntKind.i64.wrap ((h : Int) + 1) = (h : Int) + 1 := by rw [IntKind.wrap_i64]; omega
      clear hsr hh
      have hc1 := (HM.out.dat.at_ h (by have := HN.out; omega)).1
      have hc2 := (HM.out.dat.at_ a (by have := HN.out; omega)).1
      have HDx : Aside0 (D (xs.getD h 0) ∧ D (xs.getD a 0)) := ⟨getD_all HD.out (by have := HN.out; omega), getD_all HD.out (by have := HN.out; omega)⟩
      have hnn : h < n ∧ a < n := by have := HN.out; omega
      have hn1 := hnn.1
      have hn2 := hnn.2
      have hdc : ∀ x1 x2 : Int, x1 = xs.getD h 0 → x2 = xs.getD a 0 → (cf x1 x2 < 0 → OneL pr (fun j => xs.getD j 0) a b (h + 1) j) ∧ (¬ cf x1 x2 < 0 → OneL pr (fun j => xs.getD j 0) a b i h) := fun x1 x2 h1 h2 => by
        subst h1 h2
        exact ⟨fun ht => OneL.up HS.out HR.out HT.out hb hh1.1 hh1.2 ht, fun ht => OneL.down HS.out HR.out HT.out hb hh1.1 hh1.2 ht⟩
      have HDc := Aside0.mk hdc
      obtain ⟨x1, hx1⟩ : ∃ x, x = xs.getD h 0 := ⟨_, rfl⟩
      obtain ⟨x2, hx2⟩ : ∃ x, x = xs.getD a 0 := ⟨_, rfl⟩
      rw [← hx1] at hc1 HDx
      rw [← hx2] at hc2 HDx
      have HG := Aside0.mk (And.intro hh1 (And.intro hb1 (And.intro hb2 hb3)))
      by_cases ht : cf x1 x2 < 0
      · have hdec : decide (cf x1 x2 < 0) = true := by simpa using ht
        have HNew := Aside0.mk ((HDc.out x1 x2 hx1 hx2).1 ht)
        clear hx1 hx2 hb hb1 hb2 hb3 hlim hlt hh1 hdc hnn ht
        go_upto_region 5 with (fail)
        refine wp_region_fin [false, false, false, false, false, false, false, false, false, false, false, false, false, false, false, false, false, false, false, false, false, false, false, false, false, false, false, false, false, false, false, false, false, false, false, false, false, false, false, false, true, true, true, true, true, true, true, true, true, true, true] (by kernel_rfl) (by kernel_rfl) (fun W => Drawn0 wi W) (fun W W' => True) (fun iv xv _ => Sm5F fid fa lb g n c a h x1 x2 (cf x1 x2) iv xv) (fun _ _ _ _ _ _ h => h) ⟨⟨1, rfl⟩⟩ ?_ ?_
        · refine ⟨?_, ?_, ?_, ?_, ?_, ?_, ?_, ?_, ?_, ?_, ?_, trivial⟩
          · intro v W hb hd
            obtain ⟨⟨nd, rfl⟩⟩ := hb
            refine step_list fun K hK => ?_
            simp only [fill_lit, fillL, Act.put, List.setIfInBounds_toArray, List.set_cons_zero, List.set_cons_succ, Nat.reduceAdd] at hK ⊢
            clear hd
            go_wp2
            (first | exact ⟨⟨⟨nd, rfl⟩⟩, trivial, rfl⟩ | exact ⟨⟨⟨nd, rfl⟩⟩, rfl⟩ | exact ⟨⟨⟨nd, rfl⟩⟩, by show Value.bool _ = Value.bool _; simp [hdec]⟩)
          · intro v W hb hd
            obtain ⟨⟨nd, rfl⟩⟩ := hb
            refine step_list fun K hK => ?_
            simp only [fill_lit, fillL, Act.put, List.setIfInBounds_toArray, List.set_cons_zero, List.set_cons_succ, Nat.reduceAdd] at hK ⊢
            clear hd
            go_wp2
            (first | exact ⟨⟨⟨nd, rfl⟩⟩, trivial, rfl⟩ | exact ⟨⟨⟨nd, rfl⟩⟩, rfl⟩ | exact ⟨⟨⟨nd, rfl⟩⟩, by show Value.bool _ = Value.bool _; simp [hdec]⟩)
          · intro v W hb hd
            obtain ⟨⟨nd, rfl⟩⟩ := hb
            refine step_list fun K hK => ?_
            simp only [fill_lit, fillL, Act.put, List.setIfInBounds_toArray, List.set_cons_zero, List.set_cons_succ, Nat.reduceAdd] at hK ⊢
            clear hd
            go_wp2
            (first | exact ⟨⟨⟨nd, rfl⟩⟩, trivial, rfl⟩ | exact ⟨⟨⟨nd, rfl⟩⟩, rfl⟩ | exact ⟨⟨⟨nd, rfl⟩⟩, by show Value.bool _ = Value.bool _; simp [hdec]⟩)
          · intro v W hb hd
            obtain ⟨⟨nd, rfl⟩⟩ := hb
            have h1 : v 41 = .slice (some ⟨g, 0, none⟩) n c := hd 1 (by kernel_rfl)
            have h2 : v 42 = .int .i64 (h : Int) := hd 2 (by kernel_rfl)
            refine step_list fun K hK => ?_
            simp only [fill_lit, fillL, Act.put, List.setIfInBounds_toArray, List.set_cons_zero, List.set_cons_succ, Nat.reduceAdd] at hK ⊢
            rw [h1, h2] at hK ⊢
            clear hd h1 h2
            go_wp2
            (first | exact ⟨⟨⟨nd, rfl⟩⟩, trivial, rfl⟩ | exact ⟨⟨⟨nd, rfl⟩⟩, rfl⟩ | exact ⟨⟨⟨nd, rfl⟩⟩, by show Value.bool _ = Value.bool _; simp [hdec]⟩)
          · intro v W hb hd
            obtain ⟨⟨nd, rfl⟩⟩ := hb
            have hx1 : (wi.drewN nd).cell? ⟨g, h, none⟩ = some (.int .i64 x1) := hc1
            have h3 : v 43 = .pointer (some ⟨g, h, none⟩) := hd 3 (by kernel_rfl)
            refine step_list fun K hK => ?_
            simp only [fill_lit, fillL, Act.put, List.setIfInBounds_toArray, List.set_cons_zero, List.set_cons_succ, Nat.reduceAdd] at hK ⊢
            rw [h3] at hK ⊢
            clear hd h3
            go_wp2
            (first | exact ⟨⟨⟨nd, rfl⟩⟩, trivial, rfl⟩ | exact ⟨⟨⟨nd, rfl⟩⟩, rfl⟩ | exact ⟨⟨⟨nd, rfl⟩⟩, by show Value.bool _ = Value.bool _; simp [hdec]⟩)
          · intro v W hb hd
            obtain ⟨⟨nd, rfl⟩⟩ := hb
            refine step_list fun K hK => ?_
            simp only [fill_lit, fillL, Act.put, List.setIfInBounds_toArray, List.set_cons_zero, List.set_cons_succ, Nat.reduceAdd] at hK ⊢
            clear hd
            go_wp2
            (first | exact ⟨⟨⟨nd, rfl⟩⟩, trivial, rfl⟩ | exact ⟨⟨⟨nd, rfl⟩⟩, rfl⟩ | exact ⟨⟨⟨nd, rfl⟩⟩, by show Value.bool _ = Value.bool _; simp [hdec]⟩)
          · intro v W hb hd
            obtain ⟨⟨nd, rfl⟩⟩ := hb
            refine step_list fun K hK => ?_
            simp only [fill_lit, fillL, Act.put, List.setIfInBounds_toArray, List.set_cons_zero, List.set_cons_succ, Nat.reduceAdd] at hK ⊢
            clear hd
            go_wp2
            (first | exact ⟨⟨⟨nd, rfl⟩⟩, trivial, rfl⟩ | exact ⟨⟨⟨nd, rfl⟩⟩, rfl⟩ | exact ⟨⟨⟨nd, rfl⟩⟩, by show Value.bool _ = Value.bool _; simp [hdec]⟩)
          · intro v W hb hd
            obtain ⟨⟨nd, rfl⟩⟩ := hb
            have h5 : v 45 = .slice (some ⟨g, 0, none⟩) n c := hd 5 (by kernel_rfl)
            have h6 : v 46 = .int .i64 (a : Int) := hd 6 (by kernel_rfl)
            refine step_list fun K hK => ?_
            simp only [fill_lit, fillL, Act.put, List.setIfInBounds_toArray, List.set_cons_zero, List.set_cons_succ, Nat.reduceAdd] at hK ⊢
            rw [h5, h6] at hK ⊢
            clear hd h5 h6
            go_wp2
            (first | exact ⟨⟨⟨nd, rfl⟩⟩, trivial, rfl⟩ | exact ⟨⟨⟨nd, rfl⟩⟩, rfl⟩ | exact ⟨⟨⟨nd, rfl⟩⟩, by show Value.bool _ = Value.bool _; simp [hdec]⟩)
          · intro v W hb hd
            obtain ⟨⟨nd, rfl⟩⟩ := hb
            have hx2 : (wi.drewN nd).cell? ⟨g, a, none⟩ = some (.int .i64 x2) := hc2
            have h7 : v 47 = .pointer (some ⟨g, a, none⟩) := hd 7 (by kernel_rfl)
            refine step_list fun K hK => ?_
            simp only [fill_lit, fillL, Act.put, List.setIfInBounds_toArray, List.set_cons_zero, List.set_cons_succ, Nat.reduceAdd] at hK ⊢
            rw [h7] at hK ⊢
            clear hd h7
            go_wp2
            (first | exact ⟨⟨⟨nd, rfl⟩⟩, trivial, rfl⟩ | exact ⟨⟨⟨nd, rfl⟩⟩, rfl⟩ | exact ⟨⟨⟨nd, rfl⟩⟩, by show Value.bool _ = Value.bool _; simp [hdec]⟩)
          · intro v W hb hd
            obtain ⟨⟨nd, rfl⟩⟩ := hb
            have h4 : v 40 = .func (.func fid) fa lb := hd 0 (by kernel_rfl)
            have h8 : v 44 = .int .i64 x1 := hd 4 (by kernel_rfl)
            have h13 : v 48 = .int .i64 x2 := hd 8 (by kernel_rfl)
            refine step_list fun K hK => ?_
            simp only [fill_lit, fillL, Act.put, List.setIfInBounds_toArray, List.set_cons_zero, List.set_cons_succ, Nat.reduceAdd] at hK ⊢
            rw [h4, h8, h13] at hK ⊢
            clear hd h4 h8 h13
            go_wp2_with (fail)
            refine (HCmp.out.calls x1 x2 _ HDx.out.1 HDx.out.2 (HM.out.drawn ⟨⟨nd, rfl⟩⟩).keep (HM.out.drawn ⟨⟨nd, rfl⟩⟩).bel).mono ?_
            rintro e W' ⟨rfl, hb'⟩
            obtain ⟨⟨ne, rfl⟩⟩ := hb'
            go_wp2_with (fail)
            (first | exact ⟨⟨⟨nd + ne, rfl⟩⟩, trivial, rfl⟩ | exact ⟨⟨⟨nd + ne, rfl⟩⟩, rfl⟩)
          · intro v W hb hd
            obtain ⟨⟨nd, rfl⟩⟩ := hb
            have h9 : v 49 = .int .i64 (cf x1 x2) := hd 9 (by kernel_rfl)
            refine step_list fun K hK => ?_
            simp only [fill_lit, fillL, Act.put, List.setIfInBounds_toArray, List.set_cons_zero, List.set_cons_succ, Nat.reduceAdd] at hK ⊢
            rw [h9] at hK ⊢
            clear hd h9
            go_wp2
            (first | exact ⟨⟨⟨nd, rfl⟩⟩, trivial, rfl⟩ | exact ⟨⟨⟨nd, rfl⟩⟩, rfl⟩ | exact ⟨⟨⟨nd, rfl⟩⟩, by show Value.bool _ = Value.bool _; simp [hdec]⟩)
        · intro v W hb hF
          have h16 : v 50 = .bool (decide (cf x1 x2 < 0)) := hF 10 (of_decide_eq_true (by kernel_rfl))
          simp only [fill_lit, fillL, Nat.reduceAdd]
          rw [h16, hdec]
          clear hF h16
          go_wp2
          go_roundw
          case rel => exact ⟨h + 1, j, by go_num, rfl, ⟨HNew.out, K.Drawn0.trans_ HI.out.2 hb⟩⟩
          case measure => have := HG.out; simp [intOf]; omega
      · have hdec : decide (cf x1 x2 < 0) = false := by simpa using ht
        have HNew := Aside0.mk ((HDc.out x1 x2 hx1 hx2).2 ht)
        clear hx1 hx2 hb hb1 hb2 hb3 hlim hlt hh1 hdc hnn ht
        go_upto_region 5 with (fail)
        refine wp_region_fin [false, false, false, false, false, false, false, false, false, false, false, false, false, false, false, false, false, false, false, false, false, false, false, false, false, false, false, false, false, false, false, false, false, false, false, false, false, false, false, false, true, true, true, true, true, true, true, true, true, true, true] (by kernel_rfl) (by kernel_rfl) (fun W => Drawn0 wi W) (fun W W' => True) (fun iv xv _ => Sm5F fid fa lb g n c a h x1 x2 (cf x1 x2) iv xv) (fun _ _ _ _ _ _ h => h) ⟨⟨1, rfl⟩⟩ ?_ ?_
        · refine ⟨?_, ?_, ?_, ?_, ?_, ?_, ?_, ?_, ?_, ?_, ?_, trivial⟩
          · intro v W hb hd
            obtain ⟨⟨nd, rfl⟩⟩ := hb
            refine step_list fun K hK => ?_
            simp only [fill_lit, fillL, Act.put, List.setIfInBounds_toArray, List.set_cons_zero, List.set_cons_succ, Nat.reduceAdd] at hK ⊢
            clear hd
            go_wp2
            (first | exact ⟨⟨⟨nd, rfl⟩⟩, trivial, rfl⟩ | exact ⟨⟨⟨nd, rfl⟩⟩, rfl⟩ | exact ⟨⟨⟨nd, rfl⟩⟩, by show Value.bool _ = Value.bool _; simp [hdec]⟩)
          · intro v W hb hd
            obtain ⟨⟨nd, rfl⟩⟩ := hb
            refine step_list fun K hK => ?_
            simp only [fill_lit, fillL, Act.put, List.setIfInBounds_toArray, List.set_cons_zero, List.set_cons_succ, Nat.reduceAdd] at hK ⊢
            clear hd
            go_wp2
            (first | exact ⟨⟨⟨nd, rfl⟩⟩, trivial, rfl⟩ | exact ⟨⟨⟨nd, rfl⟩⟩, rfl⟩ | exact ⟨⟨⟨nd, rfl⟩⟩, by show Value.bool _ = Value.bool _; simp [hdec]⟩)
          · intro v W hb hd
            obtain ⟨⟨nd, rfl⟩⟩ := hb
            refine step_list fun K hK => ?_
            simp only [fill_lit, fillL, Act.put, List.setIfInBounds_toArray, List.set_cons_zero, List.set_cons_succ, Nat.reduceAdd] at hK ⊢
            clear hd
            go_wp2
            (first | exact ⟨⟨⟨nd, rfl⟩⟩, trivial, rfl⟩ | exact ⟨⟨⟨nd, rfl⟩⟩, rfl⟩ | exact ⟨⟨⟨nd, rfl⟩⟩, by show Value.bool _ = Value.bool _; simp [hdec]⟩)
          · intro v W hb hd
            obtain ⟨⟨nd, rfl⟩⟩ := hb
            have h1 : v 41 = .slice (some ⟨g, 0, none⟩) n c := hd 1 (by kernel_rfl)
            have h2 : v 42 = .int .i64 (h : Int) := hd 2 (by kernel_rfl)
            refine step_list fun K hK => ?_
            simp only [fill_lit, fillL, Act.put, List.setIfInBounds_toArray, List.set_cons_zero, List.set_cons_succ, Nat.reduceAdd] at hK ⊢
            rw [h1, h2] at hK ⊢
            clear hd h1 h2
            go_wp2
            (first | exact ⟨⟨⟨nd, rfl⟩⟩, trivial, rfl⟩ | exact ⟨⟨⟨nd, rfl⟩⟩, rfl⟩ | exact ⟨⟨⟨nd, rfl⟩⟩, by show Value.bool _ = Value.bool _; simp [hdec]⟩)
          · intro v W hb hd
            obtain ⟨⟨nd, rfl⟩⟩ := hb
            have hx1 : (wi.drewN nd).cell? ⟨g, h, none⟩ = some (.int .i64 x1) := hc1
            have h3 : v 43 = .pointer (some ⟨g, h, none⟩) := hd 3 (by kernel_rfl)
            refine step_list fun K hK => ?_
            simp only [fill_lit, fillL, Act.put, List.setIfInBounds_toArray, List.set_cons_zero, List.set_cons_succ, Nat.reduceAdd] at hK ⊢
            rw [h3] at hK ⊢
            clear hd h3
            go_wp2
            (first | exact ⟨⟨⟨nd, rfl⟩⟩, trivial, rfl⟩ | exact ⟨⟨⟨nd, rfl⟩⟩, rfl⟩ | exact ⟨⟨⟨nd, rfl⟩⟩, by show Value.bool _ = Value.bool _; simp [hdec]⟩)
          · intro v W hb hd
            obtain ⟨⟨nd, rfl⟩⟩ := hb
            refine step_list fun K hK => ?_
            simp only [fill_lit, fillL, Act.put, List.setIfInBounds_toArray, List.set_cons_zero, List.set_cons_succ, Nat.reduceAdd] at hK ⊢
            clear hd
            go_wp2
            (first | exact ⟨⟨⟨nd, rfl⟩⟩, trivial, rfl⟩ | exact ⟨⟨⟨nd, rfl⟩⟩, rfl⟩ | exact ⟨⟨⟨nd, rfl⟩⟩, by show Value.bool _ = Value.bool _; simp [hdec]⟩)
          · intro v W hb hd
            obtain ⟨⟨nd, rfl⟩⟩ := hb
            refine step_list fun K hK => ?_
            simp only [fill_lit, fillL, Act.put, List.setIfInBounds_toArray, List.set_cons_zero, List.set_cons_succ, Nat.reduceAdd] at hK ⊢
            clear hd
            go_wp2
            (first | exact ⟨⟨⟨nd, rfl⟩⟩, trivial, rfl⟩ | exact ⟨⟨⟨nd, rfl⟩⟩, rfl⟩ | exact ⟨⟨⟨nd, rfl⟩⟩, by show Value.bool _ = Value.bool _; simp [hdec]⟩)
          · intro v W hb hd
            obtain ⟨⟨nd, rfl⟩⟩ := hb
            have h5 : v 45 = .slice (some ⟨g, 0, none⟩) n c := hd 5 (by kernel_rfl)
            have h6 : v 46 = .int .i64 (a : Int) := hd 6 (by kernel_rfl)
            refine step_list fun K hK => ?_
            simp only [fill_lit, fillL, Act.put, List.setIfInBounds_toArray, List.set_cons_zero, List.set_cons_succ, Nat.reduceAdd] at hK ⊢
            rw [h5, h6] at hK ⊢
            clear hd h5 h6
            go_wp2
            (first | exact ⟨⟨⟨nd, rfl⟩⟩, trivial, rfl⟩ | exact ⟨⟨⟨nd, rfl⟩⟩, rfl⟩ | exact ⟨⟨⟨nd, rfl⟩⟩, by show Value.bool _ = Value.bool _; simp [hdec]⟩)
          · intro v W hb hd
            obtain ⟨⟨nd, rfl⟩⟩ := hb
            have hx2 : (wi.drewN nd).cell? ⟨g, a, none⟩ = some (.int .i64 x2) := hc2
            have h7 : v 47 = .pointer (some ⟨g, a, none⟩) := hd 7 (by kernel_rfl)
            refine step_list fun K hK => ?_
            simp only [fill_lit, fillL, Act.put, List.setIfInBounds_toArray, List.set_cons_zero, List.set_cons_succ, Nat.reduceAdd] at hK ⊢
            rw [h7] at hK ⊢
            clear hd h7
            go_wp2
            (first | exact ⟨⟨⟨nd, rfl⟩⟩, trivial, rfl⟩ | exact ⟨⟨⟨nd, rfl⟩⟩, rfl⟩ | exact ⟨⟨⟨nd, rfl⟩⟩, by show Value.bool _ = Value.bool _; simp [hdec]⟩)
          · intro v W hb hd
            obtain ⟨⟨nd, rfl⟩⟩ := hb
            have h4 : v 40 = .func (.func fid) fa lb := hd 0 (by kernel_rfl)
            have h8 : v 44 = .int .i64 x1 := hd 4 (by kernel_rfl)
            have h13 : v 48 = .int .i64 x2 := hd 8 (by kernel_rfl)
            refine step_list fun K hK => ?_
            simp only [fill_lit, fillL, Act.put, List.setIfInBounds_toArray, List.set_cons_zero, List.set_cons_succ, Nat.reduceAdd] at hK ⊢
            rw [h4, h8, h13] at hK ⊢
            clear hd h4 h8 h13
            go_wp2_with (fail)
            refine (HCmp.out.calls x1 x2 _ HDx.out.1 HDx.out.2 (HM.out.drawn ⟨⟨nd, rfl⟩⟩).keep (HM.out.drawn ⟨⟨nd, rfl⟩⟩).bel).mono ?_
            rintro e W' ⟨rfl, hb'⟩
            obtain ⟨⟨ne, rfl⟩⟩ := hb'
            go_wp2_with (fail)
            (first | exact ⟨⟨⟨nd + ne, rfl⟩⟩, trivial, rfl⟩ | exact ⟨⟨⟨nd + ne, rfl⟩⟩, rfl⟩)
          · intro v W hb hd
            obtain ⟨⟨nd, rfl⟩⟩ := hb
            have h9 : v 49 = .int .i64 (cf x1 x2) := hd 9 (by kernel_rfl)
            refine step_list fun K hK => ?_
            simp only [fill_lit, fillL, Act.put, List.setIfInBounds_toArray, List.set_cons_zero, List.set_cons_succ, Nat.reduceAdd] at hK ⊢
            rw [h9] at hK ⊢
            clear hd h9
            go_wp2
            (first | exact ⟨⟨⟨nd, rfl⟩⟩, trivial, rfl⟩ | exact ⟨⟨⟨nd, rfl⟩⟩, rfl⟩ | exact ⟨⟨⟨nd, rfl⟩⟩, by show Value.bool _ = Value.bool _; simp [hdec]⟩)
        · intro v W hb hF
          have h16 : v 50 = .bool (decide (cf x1 x2 < 0)) := hF 10 (of_decide_eq_true (by kernel_rfl))
          simp only [fill_lit, fillL, Nat.reduceAdd]
          rw [h16, hdec]
          clear hF h16
          go_wp2
          go_roundw
          case rel => exact ⟨i, h, rfl, rfl, ⟨HNew.out, K.Drawn0.trans_ HI.out.2 hb⟩⟩
          case measure => have := HG.out; simp [intOf]; omega
    · obtain rfl : i = j := by omega
      have hrt := HI.out.1
      clear hb hlt
      obtain ⟨i1, hi1⟩ : ∃ t, t = i - 1 := ⟨_, rfl⟩
      have HDone : Aside0 (Merged pr (fun j => xs.getD j 0) (rotF (fun j => xs.getD j 0) a (a + 1) i) a b) := ⟨hrt.merged HS.out HR.out⟩
      have hwi : IntKind.i64.wrap ((i : Int) - 1) = (i1 : Int) := by rw [hi1, IntKind.wrap_i64]; omega
      have HI1 := Aside0.mk (And.intro hi1 (And.intro hb1 hb3))
      have hq1 : i1 + 1 = i := by omega
      clear hrt hi1 hb2
      go_wp2_with (fail)
      go_loopw [13] (fun s wr => ∃ k : Nat, a ≤ k ∧ k + 1 ≤ i ∧ s = .int .i64 (k : Int) ∧ Aside0 (DatF B g c n w wr (rotF (fun j => xs.getD j 0) a (a + 1) (k + 1)))) (fun s _ => i - (intOf s).toNat)
      case atStart => exact ⟨a, Nat.le_refl _, by omega, rfl, ⟨xs, HM.out, HN.out, fun j => (rot_id (fun j => xs.getD j 0) a j).symm⟩⟩
      case round =>
        obtain ⟨k, hka, hki, rfl, HRk⟩ := hrel
        have hlim := HLim.out
        by_cases hlt : k + 1 < i
        · obtain ⟨wx, rfl⟩ : ∃ wx : World, wx = wr := ⟨_, rfl⟩
          obtain ⟨ys, h1, h2, h3⟩ := HRk.out
          obtain ⟨q, hq⟩ : ∃ q, q = k + 1 := ⟨_, rfl⟩
          have hck := (h1.dat.at_ k (by omega)).1
          have hcq := (h1.dat.at_ q (by omega)).1
          have hfk := (h1.dat.at_ k (by omega)).2
          have hfq := (h1.dat.at_ q (by omega)).2
          have hmv := fun j => move_up (fun j => xs.getD j 0) a k hka j
          obtain ⟨yk, hyk⟩ : ∃ y, y = ys.getD k 0 := ⟨_, rfl⟩
          obtain ⟨yq, hyq⟩ : ∃ y, y = ys.getD q 0 := ⟨_, rfl⟩
          rw [← hyk] at hck
          rw [← hyq] at hcq
          have hne : (⟨g, k, none⟩ : Addr) ≠ ⟨g, q, none⟩ := by intro h; injection h with _ h; omega
          have HW : Aside0 (DatF B g c n w ((wx.setCell ⟨g, k, none⟩ (.int .i64 yq)).setCell ⟨g, q, none⟩ (.int .i64 yk)) (rotF (fun j => xs.getD j 0) a (a + 1) (k + 2))) := ⟨by
            refine ⟨(ys.set k yq).set q yk, (h1.set HB.out k yq (by omega)).set HB.out q yk (by rw [List.length_set]; omega), by rw [List.length_set, List.length_set]; exact h2, fun j => ?_⟩
            rw [getD_set2 yq yk (by omega) (by omega) j, hmv j, hyk, hyq, h3, h3, h3, hq]
            by_cases e1 : j = k + 1
            · rw [if_pos e1, if_neg (by omega), if_pos e1]
            · rw [if_neg e1]
              by_cases e2 : j = k
              · rw [if_pos e2, if_pos e2]
              · rw [if_neg e2, if_neg e2, if_neg e1]⟩
          have hf3 : (wx.setCell ⟨g, k, none⟩ (.int .i64 yq)).frozen? ⟨g, q, none⟩ = false := by simpa using hfq
          have hc3 : (wx.setCell ⟨g, k, none⟩ (.int .i64 yq)).cell? ⟨g, q, none⟩ = some (.int .i64 yq) := (World.cell?_setCell_other wx _ _ _ hne).trans hcq
          have hwq : IntKind.i64.wrap ((k : Int) + 1) = (q : Int) := by rw [hq, IntKind.wrap_i64]; omega
          have hwk : IntKind.i64.wrap (k : Int) = (k : Int) := by rw [IntKind.wrap_i64]; omega
          have dk : decide (k < i1) = true := by simp; omega
          have dk2 : decide ((k : Int) < (i1 : Int)) = true := by simp; omega
          have hkn : k < n := by omega
          have hqn : q < n := by omega
          have HQ := Aside0.mk hq
          have HG := Aside0.mk (And.intro hlt (And.intro hka hki))
          clear h1 h2 h3 hmv hyk hyq hne hq hfq HRk hlim hlt hka hki
          go_upto_region 11 with (fail)
          refine wp_region_gen [false, false, false, false, false, false, false, false, false, false, false, false, false, false, false, false, false, false, false, false, false, false, false, false, false, false, false, false, false, false, false, false, false, false, false, false, false, false, false, false, false, false, false, false, false, false, false, false, false, false, false, false, false, false, false, false, false, false, false, false, false, true, true, true, true, true, true, true, true, true, true, true, true, true, true, true, true] (by kernel_rfl) (by kernel_rfl) (Two wx (wx.setCell ⟨g, k, none⟩ (.int .i64 yq)) ((wx.setCell ⟨g, k, none⟩ (.int .i64 yq)).setCell ⟨g, q, none⟩ (.int .i64 yk)) 15 17) (fun W W' => True) (fun iv xv _ => Sm11F g n c k q yk yq iv xv) (fun _ _ _ _ _ h => h) (Two.start ⟨⟨1, rfl⟩⟩) ?_ ?_
          · refine ⟨?_, ?_, ?_, ?_, ?_, ?_, ?_, ?_, ?_, ?_, ?_, ?_, ?_, ?_, ?_, ?_, ?_, ?_, trivial⟩
            · intro ℓ v W hb hl hd hu
              refine step_list fun K hK => ?_
              simp only [fill_lit, fillL, Act.put, List.setIfInBounds_toArray, List.set_cons_zero, List.set_cons_succ, Nat.reduceAdd] at hK ⊢
              clear hd hu
              go_wp2
              exact ⟨hb.keep (by decide) (by decide), trivial, rfl⟩
            · intro ℓ v W hb hl hd hu
              refine step_list fun K hK => ?_
              simp only [fill_lit, fillL, Act.put, List.setIfInBounds_toArray, List.set_cons_zero, List.set_cons_succ, Nat.reduceAdd] at hK ⊢
              clear hd hu
              go_wp2
              exact ⟨hb.keep (by decide) (by decide), trivial, rfl⟩
            · intro ℓ v W hb hl hd hu
              refine step_list fun K hK => ?_
              simp only [fill_lit, fillL, Act.put, List.setIfInBounds_toArray, List.set_cons_zero, List.set_cons_succ, Nat.reduceAdd] at hK ⊢
              clear hd hu
              go_wp2
              exact ⟨hb.keep (by decide) (by decide), trivial, rfl⟩
            · intro ℓ v W hb hl hd hu
              refine step_list fun K hK => ?_
              simp only [fill_lit, fillL, Act.put, List.setIfInBounds_toArray, List.set_cons_zero, List.set_cons_succ, Nat.reduceAdd] at hK ⊢
              clear hd hu
              go_wp2
              exact ⟨hb.keep (by decide) (by decide), trivial, rfl⟩
            · intro ℓ v W hb hl hd hu
              have h3 : v 64 = .int .i64 (k : Int) := (hd 3 (by kernel_rfl)).2
              refine step_list fun K hK => ?_
              simp only [fill_lit, fillL, Act.put, List.setIfInBounds_toArray, List.set_cons_zero, List.set_cons_succ, Nat.reduceAdd] at hK ⊢
              rw [h3] at hK ⊢
              clear hd hu h3
              go_wp2
              exact ⟨hb.keep (by decide) (by decide), trivial, rfl⟩
            · intro ℓ v W hb hl hd hu
              refine step_list fun K hK => ?_
              simp only [fill_lit, fillL, Act.put, List.setIfInBounds_toArray, List.set_cons_zero, List.set_cons_succ, Nat.reduceAdd] at hK ⊢
              clear hd hu
              go_wp2
              exact ⟨hb.keep (by decide) (by decide), trivial, rfl⟩
            · intro ℓ v W hb hl hd hu
              refine step_list fun K hK => ?_
              simp only [fill_lit, fillL, Act.put, List.setIfInBounds_toArray, List.set_cons_zero, List.set_cons_succ, Nat.reduceAdd] at hK ⊢
              clear hd hu
              go_wp2
              exact ⟨hb.keep (by decide) (by decide), trivial, rfl⟩
            · intro ℓ v W hb hl hd hu
              have h6 : v 67 = .int .i64 (k : Int) := (hd 6 (by kernel_rfl)).2
              refine step_list fun K hK => ?_
              simp only [fill_lit, fillL, Act.put, List.setIfInBounds_toArray, List.set_cons_zero, List.set_cons_succ, Nat.reduceAdd] at hK ⊢
              rw [h6] at hK ⊢
              clear hd hu h6
              go_wp2
              exact ⟨hb.keep (by decide) (by decide), trivial, rfl⟩
            · intro ℓ v W hb hl hd hu
              have h5 : v 66 = .slice (some ⟨g, 0, none⟩) n c := (hd 5 (by kernel_rfl)).2
              have h7 : v 68 = .int .i64 (q : Int) := (hd 7 (by kernel_rfl)).2
              refine step_list fun K hK => ?_
              simp only [fill_lit, fillL, Act.put, List.setIfInBounds_toArray, List.set_cons_zero, List.set_cons_succ, Nat.reduceAdd] at hK ⊢
              rw [h5, h7] at hK ⊢
              clear hd hu h5 h7
              go_wp2
              exact ⟨hb.keep (by decide) (by decide), trivial, rfl⟩
            · intro ℓ v W hb hl hd hu
              obtain ⟨⟨nd, rfl⟩⟩ := hb.none_ (hu 15 (by kernel_rfl)) (hu 17 (by kernel_rfl))
              have hld : (wx.drewN nd).cell? ⟨g, q, none⟩ = some (.int .i64 yq) := hcq
              have h8 : v 69 = .pointer (some ⟨g, q, none⟩) := (hd 8 (by kernel_rfl)).2
              refine step_list fun K hK => ?_
              simp only [fill_lit, fillL, Act.put, List.setIfInBounds_toArray, List.set_cons_zero, List.set_cons_succ, Nat.reduceAdd] at hK ⊢
              rw [h8] at hK ⊢
              clear hd hu h8
              go_wp2
              exact ⟨hb.keep (by decide) (by decide), trivial, rfl⟩
            · intro ℓ v W hb hl hd hu
              refine step_list fun K hK => ?_
              simp only [fill_lit, fillL, Act.put, List.setIfInBounds_toArray, List.set_cons_zero, List.set_cons_succ, Nat.reduceAdd] at hK ⊢
              clear hd hu
              go_wp2
              exact ⟨hb.keep (by decide) (by decide), trivial, rfl⟩
            · intro ℓ v W hb hl hd hu
              refine step_list fun K hK => ?_
              simp only [fill_lit, fillL, Act.put, List.setIfInBounds_toArray, List.set_cons_zero, List.set_cons_succ, Nat.reduceAdd] at hK ⊢
              clear hd hu
              go_wp2
              exact ⟨hb.keep (by decide) (by decide), trivial, rfl⟩
            · intro ℓ v W hb hl hd hu
              have h10 : v 71 = .slice (some ⟨g, 0, none⟩) n c := (hd 10 (by kernel_rfl)).2
              have h11 : v 72 = .int .i64 (k : Int) := (hd 11 (by kernel_rfl)).2
              refine step_list fun K hK => ?_
              simp only [fill_lit, fillL, Act.put, List.setIfInBounds_toArray, List.set_cons_zero, List.set_cons_succ, Nat.reduceAdd] at hK ⊢
              rw [h10, h11] at hK ⊢
              clear hd hu h10 h11
              go_wp2
              exact ⟨hb.keep (by decide) (by decide), trivial, rfl⟩
            · intro ℓ v W hb hl hd hu
              obtain ⟨⟨nd, rfl⟩⟩ := hb.none_ (hu 15 (by kernel_rfl)) (hu 17 (by kernel_rfl))
              have hld : (wx.drewN nd).cell? ⟨g, k, none⟩ = some (.int .i64 yk) := hck
              have h12 : v 73 = .pointer (some ⟨g, k, none⟩) := (hd 12 (by kernel_rfl)).2
              refine step_list fun K hK => ?_
              simp only [fill_lit, fillL, Act.put, List.setIfInBounds_toArray, List.set_cons_zero, List.set_cons_succ, Nat.reduceAdd] at hK ⊢
              rw [h12] at hK ⊢
              clear hd hu h12
              go_wp2
              exact ⟨hb.keep (by decide) (by decide), trivial, rfl⟩
            · intro ℓ v W hb hl hd hu
              have h0 : v 61 = .slice (some ⟨g, 0, none⟩) n c := (hd 0 (by kernel_rfl)).2
              have h1 : v 62 = .int .i64 (k : Int) := (hd 1 (by kernel_rfl)).2
              refine step_list fun K hK => ?_
              simp only [fill_lit, fillL, Act.put, List.setIfInBounds_toArray, List.set_cons_zero, List.set_cons_succ, Nat.reduceAdd] at hK ⊢
              rw [h0, h1] at hK ⊢
              clear hd hu h0 h1
              go_wp2
              exact ⟨hb.keep (by decide) (by decide), trivial, rfl⟩
            · intro ℓ v W hb hl hd hu
              obtain ⟨⟨nd, rfl⟩⟩ := hb.none_ hl (hu 17 (by kernel_rfl))
              have hut := hu 17 (by kernel_rfl)
              have hfz : (wx.drewN nd).frozen? ⟨g, k, none⟩ = false := hfk
              have hcz : (wx.drewN nd).cell? ⟨g, k, none⟩ = some (.int .i64 yk) := hck
              have h14 : v 75 = .pointer (some ⟨g, k, none⟩) := (hd 14 (by kernel_rfl)).2
              have h9 : v 70 = .int .i64 yq := (hd 9 (by kernel_rfl)).2
              refine step_list fun K hK => ?_
              simp only [fill_lit, fillL, Act.put, List.setIfInBounds_toArray, List.set_cons_zero, List.set_cons_succ, Nat.reduceAdd] at hK ⊢
              rw [h14, h9] at hK ⊢
              clear hd hu h14 h9
              go_wp2
              exact hK undef _ ⟨Two.mk2 ⟨⟨nd, rfl⟩⟩ hut (by decide), trivial, trivial⟩
            · intro ℓ v W hb hl hd hu
              have h2 : v 63 = .slice (some ⟨g, 0, none⟩) n c := (hd 2 (by kernel_rfl)).2
              have h4 : v 65 = .int .i64 (q : Int) := (hd 4 (by kernel_rfl)).2
              refine step_list fun K hK => ?_
              simp only [fill_lit, fillL, Act.put, List.setIfInBounds_toArray, List.set_cons_zero, List.set_cons_succ, Nat.reduceAdd] at hK ⊢
              rw [h2, h4] at hK ⊢
              clear hd hu h2 h4
              go_wp2
              exact ⟨hb.keep (by decide) (by decide), trivial, rfl⟩
            · intro ℓ v W hb hl hd hu
              obtain ⟨⟨nd, rfl⟩⟩ := hb.one_ (hd 15 (by kernel_rfl)).1 hl
              have hfz : ((wx.setCell ⟨g, k, none⟩ (.int .i64 yq)).drewN nd).frozen? ⟨g, q, none⟩ = false := hf3
              have hcz : ((wx.setCell ⟨g, k, none⟩ (.int .i64 yq)).drewN nd).cell? ⟨g, q, none⟩ = some (.int .i64 yq) := hc3
              have h16 : v 76 = .pointer (some ⟨g, q, none⟩) := (hd 16 (by kernel_rfl)).2
              have h13 : v 74 = .int .i64 yk := (hd 13 (by kernel_rfl)).2
              refine step_list fun K hK => ?_
              simp only [fill_lit, fillL, Act.put, List.setIfInBounds_toArray, List.set_cons_zero, List.set_cons_succ, Nat.reduceAdd] at hK ⊢
              rw [h16, h13] at hK ⊢
              clear hd hu h16 h13
              go_wp2
              exact hK undef _ ⟨Two.mk3 ⟨⟨nd, rfl⟩⟩, trivial, trivial⟩
          · intro ℓ v W hb hall hF
            obtain ⟨⟨nd, rfl⟩⟩ := hb.done_ (hall 17 (of_decide_eq_true (by kernel_rfl)))
            clear hF hall hb
            simp only [fill_lit, fillL, Nat.reduceAdd]
            have HW2 := Aside0.mk (HW.out.drawn (w2 := ((wx.setCell ⟨g, k, none⟩ (.int .i64 yq)).setCell ⟨g, q, none⟩ (.int .i64 yk)).drewN nd) ⟨⟨nd, rfl⟩⟩)
            generalize ((wx.setCell ⟨g, k, none⟩ (.int .i64 yq)).setCell ⟨g, q, none⟩ (.int .i64 yk)).drewN nd = wz at *
            clear hc3 hf3 hck hcq hfk
            go_wp2
            go_roundw
            case rel =>
              have := HG.out
              have := HQ.out
              exact ⟨q, by omega, by omega, rfl, ⟨HW2.out.congr fun j => by rw [HQ.out]⟩⟩
            case measure =>
              have := HG.out
              have := HQ.out
              simp [intOf]
              omega
        · have dk : decide (k < i1) = false := by simp; omega
          have dk2 : decide ((k : Int) < (i1 : Int)) = false := by simp; omega
          have HF2 := Aside0.mk HRk.out
          have hke : k + 1 = i := by omega
          have HKe := Aside0.mk hke
          clear hlt hka hki hlim hke
          go_wp2
          refine bodyPost_ret (results_none rfl _ _ _) rfl ?_
          exact ⟨rfl, _, HF2.out, by rw [HKe.out]; exact HDone.out⟩
set_option maxHeartbeats 16000000 in
set_option maxRecDepth 100000 in
theorem sym_right_calls {pr : Int → Int → Prop} (hS : Strict pr) (fid : Nat) (fa lb : Array Value) (cf : Int → Int → Int) (D : Int → Prop) (g n c B a m b : Nat) (xs : List Int) (w : World) (hCmp : Cmp fid fa lb cf D B g w) (hxs : Dat w g c xs) (hn : xs.length = n) (hD : ∀ x ∈ xs, D x) (hB : B ≤ g) (ham : a < m) (hmb : m < b) (hbn : b ≤ n) (hm9 : n ≤ 1000000)
    (hL : SortedOn pr (fun j => xs.getD j 0) a m) (hR : SortedOn pr (fun j => xs.getD j 0) m b) (hT : Tells2 pr cf (fun j => xs.getD j 0) a m b) (hone : b = m + 1) (h1 : m ≠ a + 1) :
    Calls Tryd.prog 75 #[.slice (some ⟨g, 0, none⟩) n c, .int .i64 (a : Int), .int .i64 (m : Int), .int .i64 (b : Int), .func (.func fid) fa lb] w fun e w' => e = .returned (.tuple #[]) ∧ MergeEnd pr B g c n a b (fun j => xs.getD j 0) w w' := by
  have hent := hCmp.enters
  have HCmp := Aside0.mk hCmp
  have HX := Aside0.mk (DatM.refl (B := B) hxs)
  have HD := Aside0.mk hD
  have HB := Aside0.mk hB
  have HN := Aside0.mk hn
  have HL := Aside0.mk hL
  have HR := Aside0.mk hR
  have HT := Aside0.mk hT
  subst hone
  have HS := Aside0.mk hS
  have HLim : Aside0 (a < m ∧ m < n ∧ n ≤ 1000000 ∧ xs.length = n) := ⟨by omega⟩
  obtain ⟨d, hd⟩ : ∃ d, d = m - a := ⟨_, rfl⟩
  have hwm : IntKind.i64.wrap ((m : Int) - (a : Int)) = (d : Int) := by rw [hd, IntKind.wrap_i64]; omega
  have hd1 : ((d : Int) == 1) = false := by rw [beq_eq_false_iff_ne]; omega
  have hd2 : (d == 1) = false := by rw [beq_eq_false_iff_ne]; omega
  obtain ⟨b, hb9⟩ : ∃ m', m' = m + 1 := ⟨_, rfl⟩
  have hwb : IntKind.i64.wrap ((b : Int) - (m : Int)) = 1 := by rw [hb9, IntKind.wrap_i64]; omega
  have HStart : Aside0 (OneRt pr (fun j => xs.getD j 0) a m a m) := ⟨OneRt.start (by omega)⟩
  rw [← hb9]
  have HBe := Aside0.mk hb9
  clear hCmp hxs hn hD hB ham hmb hL hR hT hS hbn hm9 hd h1 hb9
  go_enter Tryd.func75, Tryd.ntmps75
  go_wp2_with (fail)

  go_loopw [14, 15] (fun s t wr => ∃ i j : Nat, s = .int .i64 (i : Int) ∧ t = .int .i64 (j : Int) ∧ Aside0 (OneRt pr (fun j => xs.getD j 0) a m i j ∧ Drawn0 w wr)) (fun s t _ => (intOf t).toNat - (intOf s).toNat)
  case atStart => exact ⟨_, _, rfl, rfl, ⟨HStart.out, ⟨⟨0, rfl⟩⟩⟩⟩
  case round =>
    obtain ⟨i, j, rfl, rfl, HI⟩ := hrel
    obtain ⟨wi, rfl⟩ : ∃ wi : World, wi = wr := ⟨_, rfl⟩
    have hb := HI.out.1
    have hb1 := hb.h1
    have hb2 := hb.h2
    have hb3 := hb.h3
    have hlim := HLim.out
    have HM : Aside0 (DatM B g c w wi xs) := ⟨HX.out.drawn HI.out.2⟩
    by_cases hlt : i < j
    · have dlt : decide (i < j) = true := by simpa using hlt
      have dlt2 : decide ((i : Int) < (j : Int)) = true := by simp; omega
      obtain ⟨sr, hsr⟩ : ∃ t, t = i + j := ⟨_, rfl⟩
      obtain ⟨h, hh⟩ : ∃ t, t = sr / 2 := ⟨_, rfl⟩
      have hh1 : i ≤ h ∧ h < j := by omega
      have hw1 : IntKind.i64.wrap ((i : Int) + (j : Int)) = (sr : Int) := by rw [hsr, IntKind.wrap_i64]; omega
      have hw2 : IntKind.u64.wrap (sr : Int) = (sr : Int) := by rw [IntKind.wrap_u64]; omega
      have hw3 : (sr : Int) / 2 = (h : Int) := by rw [hh]; omega
      have hw4 : IntKind.i64.wrap (h : Int) = (h : Int) := by rw [IntKind.wrap_i64]; omega
      have hw5 : IntKind.u64.wrap (h : Int) = (h : Int) := by rw [IntKind.wrap_u64]; omega
      have hw6 : IntKind.i64.wrap ((h : Int) + 1) = (h : Int) + 1 := by rw [IntKind.wrap_i64]; omega
      clear hsr hh
      have hc1 := (HM.out.dat.at_ m (by have := HN.out; omega)).1
      have hc2 := (HM.out.dat.at_ h (by have := HN.out; omega)).1
      have HDx : Aside0 (D (xs.getD m 0) ∧ D (xs.getD h 0)) := ⟨getD_all HD.out (by have := HN.out; omega), getD_all HD.out (by have := HN.out; omega)⟩
      have hnn : m < n ∧ h < n := by have := HN.out; omega
      have hn1 := hnn.1
      have hn2 := hnn.2
      have hdc : ∀ x1 x2 : Int, x1 = xs.getD m 0 → x2 = xs.getD h 0 → (cf x1 x2 < 0 → OneRt pr (fun j => xs.getD j 0) a m i h) ∧ (¬ cf x1 x2 < 0 → OneRt pr (fun j => xs.getD j 0) a m (h + 1) j) := fun x1 x2 h1 h2 => by
        subst h1 h2
        exact ⟨fun ht => OneRt.down HS.out HL.out HT.out hb hh1.1 hh1.2 ht, fun ht => OneRt.up HS.out HL.out HT.out hb hh1.1 hh1.2 ht⟩
      have HDc := Aside0.mk hdc
      obtain ⟨x1, hx1⟩ : ∃ x, x = xs.getD m 0 := ⟨_, rfl⟩
      obtain ⟨x2, hx2⟩ : ∃ x, x = xs.getD h 0 := ⟨_, rfl⟩
      rw [← hx1] at hc1 HDx
      rw [← hx2] at hc2 HDx
      have HG := Aside0.mk (And.intro hh1 (And.intro hb1 (And.intro hb2 hb3)))
      by_cases ht : cf x1 x2 < 0
      · have hdec : decide (cf x1 x2 < 0) = true := by simpa using ht
        have HNew := Aside0.mk ((HDc.out x1 x2 hx1 hx2).1 ht)
        clear hx1 hx2 hb hb1 hb2 hb3 hlim hlt hh1 hdc hnn ht
        go_upto_region 17 with (fail)
        refine wp_region_fin [false, false, false, false, false, false, false, false, false, false, false, false, false, false, false, false, false, false, false, false, false, false, false, false, false, false, false, false, false, false, false, false, false, false, false, false, false, false, false, false, false, false, false, false, false, false, false, false, false, false, false, false, false, false, false, false, false, false, false, false, false, false, false, false, false, false, false, false, false, false, false, false, false, false, false, false, false, false, false, false, false, false, false, false, false, false, false, false, false, false, false, false, true, true, true, true, true, true, true, true, true, true, true, true] (by kernel_rfl) (by kernel_rfl) (fun W => Drawn0 wi W) (fun W W' => True) (fun iv xv _ => Sm17F fid fa lb g n c m h x1 x2 (cf x1 x2) iv xv) (fun _ _ _ _ _ _ h => h) ⟨⟨1, rfl⟩⟩ ?_ ?_
        · refine ⟨?_, ?_, ?_, ?_, ?_, ?_, ?_, ?_, ?_, ?_, ?_, ?_, trivial⟩
          · intro v W hb hd
            obtain ⟨⟨nd, rfl⟩⟩ := hb
            refine step_list fun K hK => ?_
            simp only [fill_lit, fillL, Act.put, List.setIfInBounds_toArray, List.set_cons_zero, List.set_cons_succ, Nat.reduceAdd] at hK ⊢
            clear hd
            go_wp2
            (first | exact ⟨⟨⟨nd, rfl⟩⟩, trivial, rfl⟩ | exact ⟨⟨⟨nd, rfl⟩⟩, rfl⟩ | exact ⟨⟨⟨nd, rfl⟩⟩, by show Value.bool _ = Value.bool _; simp [hdec]⟩)
          · intro v W hb hd
            obtain ⟨⟨nd, rfl⟩⟩ := hb
            refine step_list fun K hK => ?_
            simp only [fill_lit, fillL, Act.put, List.setIfInBounds_toArray, List.set_cons_zero, List.set_cons_succ, Nat.reduceAdd] at hK ⊢
            clear hd
            go_wp2
            (first | exact ⟨⟨⟨nd, rfl⟩⟩, trivial, rfl⟩ | exact ⟨⟨⟨nd, rfl⟩⟩, rfl⟩ | exact ⟨⟨⟨nd, rfl⟩⟩, by show Value.bool _ = Value.bool _; simp [hdec]⟩)
          · intro v W hb hd
            obtain ⟨⟨nd, rfl⟩⟩ := hb
            refine step_list fun K hK => ?_
            simp only [fill_lit, fillL, Act.put, List.setIfInBounds_toArray, List.set_cons_zero, List.set_cons_succ, Nat.reduceAdd] at hK ⊢
            clear hd
            go_wp2
            (first | exact ⟨⟨⟨nd, rfl⟩⟩, trivial, rfl⟩ | exact ⟨⟨⟨nd, rfl⟩⟩, rfl⟩ | exact ⟨⟨⟨nd, rfl⟩⟩, by show Value.bool _ = Value.bool _; simp [hdec]⟩)
          · intro v W hb hd
            obtain ⟨⟨nd, rfl⟩⟩ := hb
            have h1 : v 93 = .slice (some ⟨g, 0, none⟩) n c := hd 1 (by kernel_rfl)
            have h2 : v 94 = .int .i64 (m : Int) := hd 2 (by kernel_rfl)
            refine step_list fun K hK => ?_
            simp only [fill_lit, fillL, Act.put, List.setIfInBounds_toArray, List.set_cons_zero, List.set_cons_succ, Nat.reduceAdd] at hK ⊢
            rw [h1, h2] at hK ⊢
            clear hd h1 h2
            go_wp2
            (first | exact ⟨⟨⟨nd, rfl⟩⟩, trivial, rfl⟩ | exact ⟨⟨⟨nd, rfl⟩⟩, rfl⟩ | exact ⟨⟨⟨nd, rfl⟩⟩, by show Value.bool _ = Value.bool _; simp [hdec]⟩)
          · intro v W hb hd
            obtain ⟨⟨nd, rfl⟩⟩ := hb
            have hx1 : (wi.drewN nd).cell? ⟨g, m, none⟩ = some (.int .i64 x1) := hc1
            have h3 : v 95 = .pointer (some ⟨g, m, none⟩) := hd 3 (by kernel_rfl)
            refine step_list fun K hK => ?_
            simp only [fill_lit, fillL, Act.put, List.setIfInBounds_toArray, List.set_cons_zero, List.set_cons_succ, Nat.reduceAdd] at hK ⊢
            rw [h3] at hK ⊢
            clear hd h3
            go_wp2
            (first | exact ⟨⟨⟨nd, rfl⟩⟩, trivial, rfl⟩ | exact ⟨⟨⟨nd, rfl⟩⟩, rfl⟩ | exact ⟨⟨⟨nd, rfl⟩⟩, by show Value.bool _ = Value.bool _; simp [hdec]⟩)
          · intro v W hb hd
            obtain ⟨⟨nd, rfl⟩⟩ := hb
            refine step_list fun K hK => ?_
            simp only [fill_lit, fillL, Act.put, List.setIfInBounds_toArray, List.set_cons_zero, List.set_cons_succ, Nat.reduceAdd] at hK ⊢
            clear hd
            go_wp2
            (first | exact ⟨⟨⟨nd, rfl⟩⟩, trivial, rfl⟩ | exact ⟨⟨⟨nd, rfl⟩⟩, rfl⟩ | exact ⟨⟨⟨nd, rfl⟩⟩, by show Value.bool _ = Value.bool _; simp [hdec]⟩)
          · intro v W hb hd
            obtain ⟨⟨nd, rfl⟩⟩ := hb
            refine step_list fun K hK => ?_
            simp only [fill_lit, fillL, Act.put, List.setIfInBounds_toArray, List.set_cons_zero, List.set_cons_succ, Nat.reduceAdd] at hK ⊢
            clear hd
            go_wp2
            (first | exact ⟨⟨⟨nd, rfl⟩⟩, trivial, rfl⟩ | exact ⟨⟨⟨nd, rfl⟩⟩, rfl⟩ | exact ⟨⟨⟨nd, rfl⟩⟩, by show Value.bool _ = Value.bool _; simp [hdec]⟩)
          · intro v W hb hd
            obtain ⟨⟨nd, rfl⟩⟩ := hb
            have h5 : v 97 = .slice (some ⟨g, 0, none⟩) n c := hd 5 (by kernel_rfl)
            have h6 : v 98 = .int .i64 (h : Int) := hd 6 (by kernel_rfl)
            refine step_list fun K hK => ?_
            simp only [fill_lit, fillL, Act.put, List.setIfInBounds_toArray, List.set_cons_zero, List.set_cons_succ, Nat.reduceAdd] at hK ⊢
            rw [h5, h6] at hK ⊢
            clear hd h5 h6
            go_wp2
            (first | exact ⟨⟨⟨nd, rfl⟩⟩, trivial, rfl⟩ | exact ⟨⟨⟨nd, rfl⟩⟩, rfl⟩ | exact ⟨⟨⟨nd, rfl⟩⟩, by show Value.bool _ = Value.bool _; simp [hdec]⟩)
          · intro v W hb hd
            obtain ⟨⟨nd, rfl⟩⟩ := hb
            have hx2 : (wi.drewN nd).cell? ⟨g, h, none⟩ = some (.int .i64 x2) := hc2
            have h7 : v 99 = .pointer (some ⟨g, h, none⟩) := hd 7 (by kernel_rfl)
            refine step_list fun K hK => ?_
            simp only [fill_lit, fillL, Act.put, List.setIfInBounds_toArray, List.set_cons_zero, List.set_cons_succ, Nat.reduceAdd] at hK ⊢
            rw [h7] at hK ⊢
            clear hd h7
            go_wp2
            (first | exact ⟨⟨⟨nd, rfl⟩⟩, trivial, rfl⟩ | exact ⟨⟨⟨nd, rfl⟩⟩, rfl⟩ | exact ⟨⟨⟨nd, rfl⟩⟩, by show Value.bool _ = Value.bool _; simp [hdec]⟩)
          · intro v W hb hd
            obtain ⟨⟨nd, rfl⟩⟩ := hb
            have h4 : v 92 = .func (.func fid) fa lb := hd 0 (by kernel_rfl)
            have h8 : v 96 = .int .i64 x1 := hd 4 (by kernel_rfl)
            have h13 : v 100 = .int .i64 x2 := hd 8 (by kernel_rfl)
            refine step_list fun K hK => ?_
            simp only [fill_lit, fillL, Act.put, List.setIfInBounds_toArray, List.set_cons_zero, List.set_cons_succ, Nat.reduceAdd] at hK ⊢
            rw [h4, h8, h13] at hK ⊢
            clear hd h4 h8 h13
            go_wp2_with (fail)
            refine (HCmp.out.calls x1 x2 _ HDx.out.1 HDx.out.2 (HM.out.drawn ⟨⟨nd, rfl⟩⟩).keep (HM.out.drawn ⟨⟨nd, rfl⟩⟩).bel).mono ?_
            rintro e W' ⟨rfl, hb'⟩
            obtain ⟨⟨ne, rfl⟩⟩ := hb'
            go_wp2_with (fail)
            (first | exact ⟨⟨⟨nd + ne, rfl⟩⟩, trivial, rfl⟩ | exact ⟨⟨⟨nd + ne, rfl⟩⟩, rfl⟩)
          · intro v W hb hd
            obtain ⟨⟨nd, rfl⟩⟩ := hb
            have h9 : v 101 = .int .i64 (cf x1 x2) := hd 9 (by kernel_rfl)
            refine step_list fun K hK => ?_
            simp only [fill_lit, fillL, Act.put, List.setIfInBounds_toArray, List.set_cons_zero, List.set_cons_succ, Nat.reduceAdd] at hK ⊢
            rw [h9] at hK ⊢
            clear hd h9
            go_wp2
            (first | exact ⟨⟨⟨nd, rfl⟩⟩, trivial, rfl⟩ | exact ⟨⟨⟨nd, rfl⟩⟩, rfl⟩ | exact ⟨⟨⟨nd, rfl⟩⟩, by show Value.bool _ = Value.bool _; simp [hdec]⟩)
          · intro v W hb hd
            obtain ⟨⟨nd, rfl⟩⟩ := hb
            have h10 : v 102 = .bool (decide (cf x1 x2 < 0)) := hd 10 (by kernel_rfl)
            refine step_list fun K hK => ?_
            simp only [fill_lit, fillL, Act.put, List.setIfInBounds_toArray, List.set_cons_zero, List.set_cons_succ, Nat.reduceAdd] at hK ⊢
            rw [h10] at hK ⊢
            clear hd h10
            go_wp2
            (first | exact ⟨⟨⟨nd, rfl⟩⟩, trivial, rfl⟩ | exact ⟨⟨⟨nd, rfl⟩⟩, rfl⟩ | exact ⟨⟨⟨nd, rfl⟩⟩, by show Value.bool _ = Value.bool _; simp [hdec]⟩)
        · intro v W hb hF
          have h16 : v 103 = .bool (!decide (cf x1 x2 < 0)) := hF 11 (of_decide_eq_true (by kernel_rfl))
          simp only [fill_lit, fillL, Nat.reduceAdd]
          rw [h16, hdec]
          clear hF h16
          go_wp2
          go_roundw
          case rel => exact ⟨i, h, rfl, rfl, ⟨HNew.out, K.Drawn0.trans_ HI.out.2 hb⟩⟩
          case measure => have := HG.out; simp [intOf]; omega
      · have hdec : decide (cf x1 x2 < 0) = false := by simpa using ht
        have HNew := Aside0.mk ((HDc.out x1 x2 hx1 hx2).2 ht)
        clear hx1 hx2 hb hb1 hb2 hb3 hlim hlt hh1 hdc hnn ht
        go_upto_region 17 with (fail)
        refine wp_region_fin [false, false, false, false, false, false, false, false, false, false, false, false, false, false, false, false, false, false, false, false, false, false, false, false, false, false, false, false, false, false, false, false, false, false, false, false, false, false, false, false, false, false, false, false, false, false, false, false, false, false, false, false, false, false, false, false, false, false, false, false, false, false, false, false, false, false, false, false, false, false, false, false, false, false, false, false, false, false, false, false, false, false, false, false, false, false, false, false, false, false, false, false, true, true, true, true, true, true, true, true, true, true, true, true] (by kernel_rfl) (by kernel_rfl) (fun W => Drawn0 wi W) (fun W W' => True) (fun iv xv _ => Sm17F fid fa lb g n c m h x1 x2 (cf x1 x2) iv xv) (fun _ _ _ _ _ _ h => h) ⟨⟨1, rfl⟩⟩ ?_ ?_
        · refine ⟨?_, ?_, ?_, ?_, ?_, ?_, ?_, ?_, ?_, ?_, ?_, ?_, trivial⟩
          · intro v W hb hd
            obtain ⟨⟨nd, rfl⟩⟩ := hb
            refine step_list fun K hK => ?_
            simp only [fill_lit, fillL, Act.put, List.setIfInBounds_toArray, List.set_cons_zero, List.set_cons_succ, Nat.reduceAdd] at hK ⊢
            clear hd
            go_wp2
            (first | exact ⟨⟨⟨nd, rfl⟩⟩, trivial, rfl⟩ | exact ⟨⟨⟨nd, rfl⟩⟩, rfl⟩ | exact ⟨⟨⟨nd, rfl⟩⟩, by show Value.bool _ = Value.bool _; simp [hdec]⟩)
          · intro v W hb hd
            obtain ⟨⟨nd, rfl⟩⟩ := hb
            refine step_list fun K hK => ?_
            simp only [fill_lit, fillL, Act.put, List.setIfInBounds_toArray, List.set_cons_zero, List.set_cons_succ, Nat.reduceAdd] at hK ⊢
            clear hd
            go_wp2
            (first | exact ⟨⟨⟨nd, rfl⟩⟩, trivial, rfl⟩ | exact ⟨⟨⟨nd, rfl⟩⟩, rfl⟩ | exact ⟨⟨⟨nd, rfl⟩⟩, by show Value.bool _ = Value.bool _; simp [hdec]⟩)
          · intro v W hb hd
            obtain ⟨⟨nd, rfl⟩⟩ := hb
            refine step_list fun K hK => ?_
            simp only [fill_lit, fillL, Act.put, List.setIfInBounds_toArray, List.set_cons_zero, List.set_cons_succ, Nat.reduceAdd] at hK ⊢
            clear hd
            go_wp2
            (first | exact ⟨⟨⟨nd, rfl⟩⟩, trivial, rfl⟩ | exact ⟨⟨⟨nd, rfl⟩⟩, rfl⟩ | exact ⟨⟨⟨nd, rfl⟩⟩, by show Value.bool _ = Value.bool _; simp [hdec]⟩)
          · intro v W hb hd
            obtain ⟨⟨nd, rfl⟩⟩ := hb
            have h1 : v 93 = .slice (some ⟨g, 0, none⟩) n c := hd 1 (by kernel_rfl)
            have h2 : v 94 = .int .i64 (m : Int) := hd 2 (by kernel_rfl)
            refine step_list fun K hK => ?_
            simp only [fill_lit, fillL, Act.put, List.setIfInBounds_toArray, List.set_cons_zero, List.set_cons_succ, Nat.reduceAdd] at hK ⊢
            rw [h1, h2] at hK ⊢
            clear hd h1 h2
            go_wp2
            (first | exact ⟨⟨⟨nd, rfl⟩⟩, trivial, rfl⟩ | exact ⟨⟨⟨nd, rfl⟩⟩, rfl⟩ | exact ⟨⟨⟨nd, rfl⟩⟩, by show Value.bool _ = Value.bool _; simp [hdec]⟩)
          · intro v W hb hd
            obtain ⟨⟨nd, rfl⟩⟩ := hb
            have hx1 : (wi.drewN nd).cell? ⟨g, m, none⟩ = some (.int .i64 x1) := hc1
            have h3 : v 95 = .pointer (some ⟨g, m, none⟩) := hd 3 (by kernel_rfl)
            refine step_list fun K hK => ?_
            simp only [fill_lit, fillL, Act.put, List.setIfInBounds_toArray, List.set_cons_zero, List.set_cons_succ, Nat.reduceAdd] at hK ⊢
            rw [h3] at hK ⊢
            clear hd h3
            go_wp2
            (first | exact ⟨⟨⟨nd, rfl⟩⟩, trivial, rfl⟩ | exact ⟨⟨⟨nd, rfl⟩⟩, rfl⟩ | exact ⟨⟨⟨nd, rfl⟩⟩, by show Value.bool _ = Value.bool _; simp [hdec]⟩)
          · intro v W hb hd
            obtain ⟨⟨nd, rfl⟩⟩ := hb
            refine step_list fun K hK => ?_
            simp only [fill_lit, fillL, Act.put, List.setIfInBounds_toArray, List.set_cons_zero, List.set_cons_succ, Nat.reduceAdd] at hK ⊢
            clear hd
            go_wp2
            (first | exact ⟨⟨⟨nd, rfl⟩⟩, trivial, rfl⟩ | exact ⟨⟨⟨nd, rfl⟩⟩, rfl⟩ | exact ⟨⟨⟨nd, rfl⟩⟩, by show Value.bool _ = Value.bool _; simp [hdec]⟩)
          · intro v W hb hd
            obtain ⟨⟨nd, rfl⟩⟩ := hb
            refine step_list fun K hK => ?_
            simp only [fill_lit, fillL, Act.put, List.setIfInBounds_toArray, List.set_cons_zero, List.set_cons_succ, Nat.reduceAdd] at hK ⊢
            clear hd
            go_wp2
            (first | exact ⟨⟨⟨nd, rfl⟩⟩, trivial, rfl⟩ | exact ⟨⟨⟨nd, rfl⟩⟩, rfl⟩ | exact ⟨⟨⟨nd, rfl⟩⟩, by show Value.bool _ = Value.bool _; simp [hdec]⟩)
          · intro v W hb hd
            obtain ⟨⟨nd, rfl⟩⟩ := hb
            have h5 : v 97 = .slice (some ⟨g, 0, none⟩) n c := hd 5 (by kernel_rfl)
            have h6 : v 98 = .int .i64 (h : Int) := hd 6 (by kernel_rfl)
            refine step_list fun K hK => ?_
            simp only [fill_lit, fillL, Act.put, List.setIfInBounds_toArray, List.set_cons_zero, List.set_cons_succ, Nat.reduceAdd] at hK ⊢
            rw [h5, h6] at hK ⊢
            clear hd h5 h6
            go_wp2
            (first | exact ⟨⟨⟨nd, rfl⟩⟩, trivial, rfl⟩ | exact ⟨⟨⟨nd, rfl⟩⟩, rfl⟩ | exact ⟨⟨⟨nd, rfl⟩⟩, by show Value.bool _ = Value.bool _; simp [hdec]⟩)
          · intro v W hb hd
            obtain ⟨⟨nd, rfl⟩⟩ := hb
            have hx2 : (wi.drewN nd).cell? ⟨g, h, none⟩ = some (.int .i64 x2) := hc2
            have h7 : v 99 = .pointer (some ⟨g, h, none⟩) := hd 7 (by kernel_rfl)
            refine step_list fun K hK => ?_
            simp only [fill_lit, fillL, Act.put, List.setIfInBounds_toArray, List.set_cons_zero, List.set_cons_succ, Nat.reduceAdd] at hK ⊢
            rw [h7] at hK ⊢
            clear hd h7
            go_wp2
            (first | exact ⟨⟨⟨nd, rfl⟩⟩, trivial, rfl⟩ | exact ⟨⟨⟨nd, rfl⟩⟩, rfl⟩ | exact ⟨⟨⟨nd, rfl⟩⟩, by show Value.bool _ = Value.bool _; simp [hdec]⟩)
          · intro v W hb hd
            obtain ⟨⟨nd, rfl⟩⟩ := hb
            have h4 : v 92 = .func (.func fid) fa lb := hd 0 (by kernel_rfl)
            have h8 : v 96 = .int .i64 x1 := hd 4 (by kernel_rfl)
            have h13 : v 100 = .int .i64 x2 := hd 8 (by kernel_rfl)
            refine step_list fun K hK => ?_
            simp only [fill_lit, fillL, Act.put, List.setIfInBounds_toArray, List.set_cons_zero, List.set_cons_succ, Nat.reduceAdd] at hK ⊢
            rw [h4, h8, h13] at hK ⊢
            clear hd h4 h8 h13
            go_wp2_with (fail)
            refine (HCmp.out.calls x1 x2 _ HDx.out.1 HDx.out.2 (HM.out.drawn ⟨⟨nd, rfl⟩⟩).keep (HM.out.drawn ⟨⟨nd, rfl⟩⟩).bel).mono ?_
            rintro e W' ⟨rfl, hb'⟩
            obtain ⟨⟨ne, rfl⟩⟩ := hb'
            go_wp2_with (fail)
            (first | exact ⟨⟨⟨nd + ne, rfl⟩⟩, trivial, rfl⟩ | exact ⟨⟨⟨nd + ne, rfl⟩⟩, rfl⟩)
          · intro v W hb hd
            obtain ⟨⟨nd, rfl⟩⟩ := hb
            have h9 : v 101 = .int .i64 (cf x1 x2) := hd 9 (by kernel_rfl)
            refine step_list fun K hK => ?_
            simp only [fill_lit, fillL, Act.put, List.setIfInBounds_toArray, List.set_cons_zero, List.set_cons_succ, Nat.reduceAdd] at hK ⊢
            rw [h9] at hK ⊢
            clear hd h9
            go_wp2
            (first | exact ⟨⟨⟨nd, rfl⟩⟩, trivial, rfl⟩ | exact ⟨⟨⟨nd, rfl⟩⟩, rfl⟩ | exact ⟨⟨⟨nd, rfl⟩⟩, by show Value.bool _ = Value.bool _; simp [hdec]⟩)
          · intro v W hb hd
            obtain ⟨⟨nd, rfl⟩⟩ := hb
            have h10 : v 102 = .bool (decide (cf x1 x2 < 0)) := hd 10 (by kernel_rfl)
            refine step_list fun K hK => ?_
            simp only [fill_lit, fillL, Act.put, List.setIfInBounds_toArray, List.set_cons_zero, List.set_cons_succ, Nat.reduceAdd] at hK ⊢
            rw [h10] at hK ⊢
            clear hd h10
            go_wp2
            (first | exact ⟨⟨⟨nd, rfl⟩⟩, trivial, rfl⟩ | exact ⟨⟨⟨nd, rfl⟩⟩, rfl⟩ | exact ⟨⟨⟨nd, rfl⟩⟩, by show Value.bool _ = Value.bool _; simp [hdec]⟩)
        · intro v W hb hF
          have h16 : v 103 = .bool (!decide (cf x1 x2 < 0)) := hF 11 (of_decide_eq_true (by kernel_rfl))
          simp only [fill_lit, fillL, Nat.reduceAdd]
          rw [h16, hdec]
          clear hF h16
          go_wp2
          go_roundw
          case rel => exact ⟨h + 1, j, by go_num, rfl, ⟨HNew.out, K.Drawn0.trans_ HI.out.2 hb⟩⟩
          case measure => have := HG.out; simp [intOf]; omega
    · obtain rfl : i = j := by omega
      have hrt := HI.out.1
      clear hb hlt
      have HDone : Aside0 (Merged pr (fun j => xs.getD j 0) (rotF (fun j => xs.getD j 0) i m (m + 1)) a b) := ⟨by rw [HBe.out]; exact hrt.merged HS.out HL.out⟩
      clear hrt hb1 hb2
      go_wp2_with (fail)
      go_loopw [17] (fun s wr => ∃ k : Nat, i ≤ k ∧ k ≤ m ∧ s = .int .i64 (k : Int) ∧ Aside0 (DatF B g c n w wr (rotF (fun j => xs.getD j 0) k m (m + 1)))) (fun s _ => (intOf s).toNat)
      case atStart => exact ⟨m, by omega, Nat.le_refl _, rfl, ⟨xs, HM.out, HN.out, fun j => (rot_id' (fun j => xs.getD j 0) m j).symm⟩⟩
      case round =>
        obtain ⟨k, hka, hki, rfl, HRk⟩ := hrel
        have hlim := HLim.out
        by_cases hlt : i < k
        · obtain ⟨wx, rfl⟩ : ∃ wx : World, wx = wr := ⟨_, rfl⟩
          obtain ⟨ys, h1, h2, h3⟩ := HRk.out
          obtain ⟨q, hq⟩ : ∃ q, q = k - 1 := ⟨_, rfl⟩
          have hck := (h1.dat.at_ k (by omega)).1
          have hcq := (h1.dat.at_ q (by omega)).1
          have hfk := (h1.dat.at_ k (by omega)).2
          have hfq := (h1.dat.at_ q (by omega)).2
          have hmv := fun j => move_down (fun j => xs.getD j 0) q m (by omega) j
          rw [show q + 1 = k by omega] at hmv
          obtain ⟨yk, hyk⟩ : ∃ y, y = ys.getD k 0 := ⟨_, rfl⟩
          obtain ⟨yq, hyq⟩ : ∃ y, y = ys.getD q 0 := ⟨_, rfl⟩
          rw [← hyk] at hck
          rw [← hyq] at hcq
          have hne : (⟨g, k, none⟩ : Addr) ≠ ⟨g, q, none⟩ := by intro h; injection h with _ h; omega
          have HW : Aside0 (DatF B g c n w ((wx.setCell ⟨g, k, none⟩ (.int .i64 yq)).setCell ⟨g, q, none⟩ (.int .i64 yk)) (rotF (fun j => xs.getD j 0) q m (m + 1))) := ⟨by
            refine ⟨(ys.set k yq).set q yk, (h1.set HB.out k yq (by omega)).set HB.out q yk (by rw [List.length_set]; omega), by rw [List.length_set, List.length_set]; exact h2, fun j => ?_⟩
            rw [getD_set2 yq yk (by omega) (by omega) j, hmv j, hyk, hyq, h3, h3, h3]
            all_goals skip⟩
          have hf3 : (wx.setCell ⟨g, k, none⟩ (.int .i64 yq)).frozen? ⟨g, q, none⟩ = false := by simpa using hfq
          have hc3 : (wx.setCell ⟨g, k, none⟩ (.int .i64 yq)).cell? ⟨g, q, none⟩ = some (.int .i64 yq) := (World.cell?_setCell_other wx _ _ _ hne).trans hcq
          have hwq : IntKind.i64.wrap ((k : Int) - 1) = (q : Int) := by rw [hq, IntKind.wrap_i64]; omega
          have hwk : IntKind.i64.wrap (k : Int) = (k : Int) := by rw [IntKind.wrap_i64]; omega
          have dk : decide (i < k) = true := by simp; omega
          have dk2 : decide ((i : Int) < (k : Int)) = true := by simp; omega
          have hkn : k < n := by omega
          have hqn : q < n := by omega
          have HQ := Aside0.mk hq
          have HG := Aside0.mk (And.intro hlt (And.intro hka hki))
          clear h1 h2 h3 hmv hyk hyq hne hq hfq HRk hlim hlt hka hki
          go_upto_region 23 with (fail)
          refine wp_region_gen [false, false, false, false, false, false, false, false, false, false, false, false, false, false, false, false, false, false, false, false, false, false, false, false, false, false, false, false, false, false, false, false, false, false, false, false, false, false, false, false, false, false, false, false, false, false, false, false, false, false, false, false, false, false, false, false, false, false, false, false, false, false, false, false, false, false, false, false, false, false, false, false, false, false, false, false, false, false, false, false, false, false, false, false, false, false, false, false, false, false, false, false, false, false, false, false, false, false, false, false, false, false, false, false, false, false, false, false, false, false, false, false, false, true, true, true, true, true, true, true, true, true, true, true, true, true, true, true, true] (by kernel_rfl) (by kernel_rfl) (Two wx (wx.setCell ⟨g, k, none⟩ (.int .i64 yq)) ((wx.setCell ⟨g, k, none⟩ (.int .i64 yq)).setCell ⟨g, q, none⟩ (.int .i64 yk)) 15 17) (fun W W' => True) (fun iv xv _ => Sm23F g n c k q yk yq iv xv) (fun _ _ _ _ _ h => h) (Two.start ⟨⟨1, rfl⟩⟩) ?_ ?_
          · refine ⟨?_, ?_, ?_, ?_, ?_, ?_, ?_, ?_, ?_, ?_, ?_, ?_, ?_, ?_, ?_, ?_, ?_, ?_, trivial⟩
            · intro ℓ v W hb hl hd hu
              refine step_list fun K hK => ?_
              simp only [fill_lit, fillL, Act.put, List.setIfInBounds_toArray, List.set_cons_zero, List.set_cons_succ, Nat.reduceAdd] at hK ⊢
              clear hd hu
              go_wp2
              exact ⟨hb.keep (by decide) (by decide), trivial, rfl⟩
            · intro ℓ v W hb hl hd hu
              refine step_list fun K hK => ?_
              simp only [fill_lit, fillL, Act.put, List.setIfInBounds_toArray, List.set_cons_zero, List.set_cons_succ, Nat.reduceAdd] at hK ⊢
              clear hd hu
              go_wp2
              exact ⟨hb.keep (by decide) (by decide), trivial, rfl⟩
            · intro ℓ v W hb hl hd hu
              refine step_list fun K hK => ?_
              simp only [fill_lit, fillL, Act.put, List.setIfInBounds_toArray, List.set_cons_zero, List.set_cons_succ, Nat.reduceAdd] at hK ⊢
              clear hd hu
              go_wp2
              exact ⟨hb.keep (by decide) (by decide), trivial, rfl⟩
            · intro ℓ v W hb hl hd hu
              refine step_list fun K hK => ?_
              simp only [fill_lit, fillL, Act.put, List.setIfInBounds_toArray, List.set_cons_zero, List.set_cons_succ, Nat.reduceAdd] at hK ⊢
              clear hd hu
              go_wp2
              exact ⟨hb.keep (by decide) (by decide), trivial, rfl⟩
            · intro ℓ v W hb hl hd hu
              have h3 : v 116 = .int .i64 (k : Int) := (hd 3 (by kernel_rfl)).2
              refine step_list fun K hK => ?_
              simp only [fill_lit, fillL, Act.put, List.setIfInBounds_toArray, List.set_cons_zero, List.set_cons_succ, Nat.reduceAdd] at hK ⊢
              rw [h3] at hK ⊢
              clear hd hu h3
              go_wp2
              exact ⟨hb.keep (by decide) (by decide), trivial, rfl⟩
            · intro ℓ v W hb hl hd hu
              refine step_list fun K hK => ?_
              simp only [fill_lit, fillL, Act.put, List.setIfInBounds_toArray, List.set_cons_zero, List.set_cons_succ, Nat.reduceAdd] at hK ⊢
              clear hd hu
              go_wp2
              exact ⟨hb.keep (by decide) (by decide), trivial, rfl⟩
            · intro ℓ v W hb hl hd hu
              refine step_list fun K hK => ?_
              simp only [fill_lit, fillL, Act.put, List.setIfInBounds_toArray, List.set_cons_zero, List.set_cons_succ, Nat.reduceAdd] at hK ⊢
              clear hd hu
              go_wp2
              exact ⟨hb.keep (by decide) (by decide), trivial, rfl⟩
            · intro ℓ v W hb hl hd hu
              have h6 : v 119 = .int .i64 (k : Int) := (hd 6 (by kernel_rfl)).2
              refine step_list fun K hK => ?_
              simp only [fill_lit, fillL, Act.put, List.setIfInBounds_toArray, List.set_cons_zero, List.set_cons_succ, Nat.reduceAdd] at hK ⊢
              rw [h6] at hK ⊢
              clear hd hu h6
              go_wp2
              exact ⟨hb.keep (by decide) (by decide), trivial, rfl⟩
            · intro ℓ v W hb hl hd hu
              have h5 : v 118 = .slice (some ⟨g, 0, none⟩) n c := (hd 5 (by kernel_rfl)).2
              have h7 : v 120 = .int .i64 (q : Int) := (hd 7 (by kernel_rfl)).2
              refine step_list fun K hK => ?_
              simp only [fill_lit, fillL, Act.put, List.setIfInBounds_toArray, List.set_cons_zero, List.set_cons_succ, Nat.reduceAdd] at hK ⊢
              rw [h5, h7] at hK ⊢
              clear hd hu h5 h7
              go_wp2
              exact ⟨hb.keep (by decide) (by decide), trivial, rfl⟩
            · intro ℓ v W hb hl hd hu
              obtain ⟨⟨nd, rfl⟩⟩ := hb.none_ (hu 15 (by kernel_rfl)) (hu 17 (by kernel_rfl))
              have hld : (wx.drewN nd).cell? ⟨g, q, none⟩ = some (.int .i64 yq) := hcq
              have h8 : v 121 = .pointer (some ⟨g, q, none⟩) := (hd 8 (by kernel_rfl)).2
              refine step_list fun K hK => ?_
              simp only [fill_lit, fillL, Act.put, List.setIfInBounds_toArray, List.set_cons_zero, List.set_cons_succ, Nat.reduceAdd] at hK ⊢
              rw [h8] at hK ⊢
              clear hd hu h8
              go_wp2
              exact ⟨hb.keep (by decide) (by decide), trivial, rfl⟩
            · intro ℓ v W hb hl hd hu
              refine step_list fun K hK => ?_
              simp only [fill_lit, fillL, Act.put, List.setIfInBounds_toArray, List.set_cons_zero, List.set_cons_succ, Nat.reduceAdd] at hK ⊢
              clear hd hu
              go_wp2
              exact ⟨hb.keep (by decide) (by decide), trivial, rfl⟩
            · intro ℓ v W hb hl hd hu
              refine step_list fun K hK => ?_
              simp only [fill_lit, fillL, Act.put, List.setIfInBounds_toArray, List.set_cons_zero, List.set_cons_succ, Nat.reduceAdd] at hK ⊢
              clear hd hu
              go_wp2
              exact ⟨hb.keep (by decide) (by decide), trivial, rfl⟩
            · intro ℓ v W hb hl hd hu
              have h10 : v 123 = .slice (some ⟨g, 0, none⟩) n c := (hd 10 (by kernel_rfl)).2
              have h11 : v 124 = .int .i64 (k : Int) := (hd 11 (by kernel_rfl)).2
              refine step_list fun K hK => ?_
              simp only [fill_lit, fillL, Act.put, List.setIfInBounds_toArray, List.set_cons_zero, List.set_cons_succ, Nat.reduceAdd] at hK ⊢
              rw [h10, h11] at hK ⊢
              clear hd hu h10 h11
              go_wp2
              exact ⟨hb.keep (by decide) (by decide), trivial, rfl⟩
            · intro ℓ v W hb hl hd hu
              obtain ⟨⟨nd, rfl⟩⟩ := hb.none_ (hu 15 (by kernel_rfl)) (hu 17 (by kernel_rfl))
              have hld : (wx.drewN nd).cell? ⟨g, k, none⟩ = some (.int .i64 yk) := hck
              have h12 : v 125 = .pointer (some ⟨g, k, none⟩) := (hd 12 (by kernel_rfl)).2
              refine step_list fun K hK => ?_
              simp only [fill_lit, fillL, Act.put, List.setIfInBounds_toArray, List.set_cons_zero, List.set_cons_succ, Nat.reduceAdd] at hK ⊢
              rw [h12] at hK ⊢
              clear hd hu h12
              go_wp2
              exact ⟨hb.keep (by decide) (by decide), trivial, rfl⟩
            · intro ℓ v W hb hl hd hu
              have h0 : v 113 = .slice (some ⟨g, 0, none⟩) n c := (hd 0 (by kernel_rfl)).2
              have h1 : v 114 = .int .i64 (k : Int) := (hd 1 (by kernel_rfl)).2
              refine step_list fun K hK => ?_
              simp only [fill_lit, fillL, Act.put, List.setIfInBounds_toArray, List.set_cons_zero, List.set_cons_succ, Nat.reduceAdd] at hK ⊢
              rw [h0, h1] at hK ⊢
              clear hd hu h0 h1
              go_wp2
              exact ⟨hb.keep (by decide) (by decide), trivial, rfl⟩
            · intro ℓ v W hb hl hd hu
              obtain ⟨⟨nd, rfl⟩⟩ := hb.none_ hl (hu 17 (by kernel_rfl))
              have hut := hu 17 (by kernel_rfl)
              have hfz : (wx.drewN nd).frozen? ⟨g, k, none⟩ = false := hfk
              have hcz : (wx.drewN nd).cell? ⟨g, k, none⟩ = some (.int .i64 yk) := hck
              have h14 : v 127 = .pointer (some ⟨g, k, none⟩) := (hd 14 (by kernel_rfl)).2
              have h9 : v 122 = .int .i64 yq := (hd 9 (by kernel_rfl)).2
              refine step_list fun K hK => ?_
              simp only [fill_lit, fillL, Act.put, List.setIfInBounds_toArray, List.set_cons_zero, List.set_cons_succ, Nat.reduceAdd] at hK ⊢
              rw [h14, h9] at hK ⊢
              clear hd hu h14 h9
              go_wp2
              exact hK undef _ ⟨Two.mk2 ⟨⟨nd, rfl⟩⟩ hut (by decide), trivial, trivial⟩
            · intro ℓ v W hb hl hd hu
              have h2 : v 115 = .slice (some ⟨g, 0, none⟩) n c := (hd 2 (by kernel_rfl)).2
              have h4 : v 117 = .int .i64 (q : Int) := (hd 4 (by kernel_rfl)).2
              refine step_list fun K hK => ?_
              simp only [fill_lit, fillL, Act.put, List.setIfInBounds_toArray, List.set_cons_zero, List.set_cons_succ, Nat.reduceAdd] at hK ⊢
              rw [h2, h4] at hK ⊢
              clear hd hu h2 h4
              go_wp2
              exact ⟨hb.keep (by decide) (by decide), trivial, rfl⟩
            · intro ℓ v W hb hl hd hu
              obtain ⟨⟨nd, rfl⟩⟩ := hb.one_ (hd 15 (by kernel_rfl)).1 hl
              have hfz : ((wx.setCell ⟨g, k, none⟩ (.int .i64 yq)).drewN nd).frozen? ⟨g, q, none⟩ = false := hf3
              have hcz : ((wx.setCell ⟨g, k, none⟩ (.int .i64 yq)).drewN nd).cell? ⟨g, q, none⟩ = some (.int .i64 yq) := hc3
              have h16 : v 128 = .pointer (some ⟨g, q, none⟩) := (hd 16 (by kernel_rfl)).2
              have h13 : v 126 = .int .i64 yk := (hd 13 (by kernel_rfl)).2
              refine step_list fun K hK => ?_
              simp only [fill_lit, fillL, Act.put, List.setIfInBounds_toArray, List.set_cons_zero, List.set_cons_succ, Nat.reduceAdd] at hK ⊢
              rw [h16, h13] at hK ⊢
              clear hd hu h16 h13
              go_wp2
              exact hK undef _ ⟨Two.mk3 ⟨⟨nd, rfl⟩⟩, trivial, trivial⟩
          · intro ℓ v W hb hall hF
            obtain ⟨⟨nd, rfl⟩⟩ := hb.done_ (hall 17 (of_decide_eq_true (by kernel_rfl)))
            clear hF hall hb
            simp only [fill_lit, fillL, Nat.reduceAdd]
            have HW2 := Aside0.mk (HW.out.drawn (w2 := ((wx.setCell ⟨g, k, none⟩ (.int .i64 yq)).setCell ⟨g, q, none⟩ (.int .i64 yk)).drewN nd) ⟨⟨nd, rfl⟩⟩)
            generalize ((wx.setCell ⟨g, k, none⟩ (.int .i64 yq)).setCell ⟨g, q, none⟩ (.int .i64 yk)).drewN nd = wz at *
            clear hc3 hf3 hck hcq hfk
            go_wp2
            go_roundw
            case rel =>
              have := HG.out
              have := HQ.out
              exact ⟨q, by omega, by omega, rfl, HW2⟩
            case measure =>
              have := HG.out
              have := HQ.out
              simp [intOf]
              omega
        · have dk : decide (i < k) = false := by simp; omega
          have dk2 : decide ((i : Int) < (k : Int)) = false := by simp; omega
          have HF2 := Aside0.mk HRk.out
          have hke : k = i := by omega
          have HKe := Aside0.mk hke
          clear hlt hka hki hlim hke
          go_wp2
          refine bodyPost_ret (results_none rfl _ _ _) rfl ?_
          exact ⟨rfl, _, HF2.out, by rw [HKe.out]; exact HDone.out⟩
end Go.Proofs.YtdmeocoehahopaaDoor.Sort
namespace Go.Proofs.YtdmeocoehahopaaDoor.Sort
open Go.RowKit Go.Proofs.YtdmeocoehahopaaDoorW.PrintWords Go.Proofs.YtdmeocoehahopaaDoorW.PrintLast Go.Proofs.YtdmeocoehahopaaDoorW.PrintMore Go.Proofs.YtdmeocoehahopaaDoor.K Go.Proofs.YtdmeocoehahopaaDoor.RI
set_option linter.unusedVariables false
set_option linter.unusedSimpArgs false
theorem w_i64 (x : Int) (h0 : -1000000000 ≤ x) (h1 : x ≤ 1000000000) : IntKind.i64.wrap x = x := by rw [IntKind.wrap_i64]; omega
theorem w_u64 (x : Int) (h0 : 0 ≤ x) (h1 : x ≤ 1000000000) : IntKind.u64.wrap x = x := by rw [IntKind.wrap_u64]; omega
def SymOk (pr : Int → Int → Prop) (fid : Nat) (fa lb : Array Value) (cf : Int → Int → Int) (D : Int → Prop) (g n c B : Nat) (L : Nat) : Prop := ∀ (a m b : Nat) (xs : List Int) (w : World), b - a < L → Cmp fid fa lb cf D B g w → Dat w g c xs → xs.length = n → (∀ x ∈ xs, D x) → B ≤ g → a < m → m < b → b ≤ n → n ≤ 1000000 →
    SortedOn pr (fun j => xs.getD j 0) a m → SortedOn pr (fun j => xs.getD j 0) m b → Tells2 pr cf (fun j => xs.getD j 0) a m b →
    Calls Tryd.prog 75 #[.slice (some ⟨g, 0, none⟩) n c, .int .i64 (a : Int), .int .i64 (m : Int), .int .i64 (b : Int), .func (.func fid) fa lb] w fun e w' => e = .returned (.tuple #[]) ∧ MergeEnd pr B g c n a b (fun j => xs.getD j 0) w w'
end Go.Proofs.YtdmeocoehahopaaDoor.Sort
