/- slices: ranges change places; a turn. -/
import Derived.Test.YtfameghednapkaaDoorSymQB
namespace Go.Proofs.YtfameghednapkaaDoor.Sort
open Go.RowKit Go.Proofs.YtfameghednapkaaDoorW.PrintWords Go.Proofs.YtfameghednapkaaDoorW.PrintLast Go.Proofs.YtfameghednapkaaDoorW.PrintMore Go.Proofs.YtfameghednapkaaDoor.K Go.Proofs.YtfameghednapkaaDoor.RI
set_option linter.unusedVariables false
set_option linter.unusedSimpArgs false
def SwrF (g n c a b i p q : Nat) (yp yq : Int) (iv : Nat) (xv : Value) : Prop := match iv with
  | 0 => xv = .slice (some ⟨g, 0, none⟩) n c
  | 1 => xv = .int .i64 (a : Int)
  | 2 => xv = .int .i64 (i : Int)
  | 3 => xv = .int .i64 (p : Int)
  | 4 => xv = .slice (some ⟨g, 0, none⟩) n c
  | 5 => xv = .int .i64 (b : Int)
  | 6 => xv = .int .i64 (i : Int)
  | 7 => xv = .int .i64 (q : Int)
  | 8 => xv = .slice (some ⟨g, 0, none⟩) n c
  | 9 => xv = .int .i64 (b : Int)
  | 10 => xv = .int .i64 (i : Int)
  | 11 => xv = .int .i64 (q : Int)
  | 12 => xv = .pointer (some ⟨g, q, none⟩)
  | 13 => xv = .int .i64 yq
  | 14 => xv = .slice (some ⟨g, 0, none⟩) n c
  | 15 => xv = .int .i64 (a : Int)
  | 16 => xv = .int .i64 (i : Int)
  | 17 => xv = .int .i64 (p : Int)
  | 18 => xv = .pointer (some ⟨g, p, none⟩)
  | 19 => xv = .int .i64 yp
  | 20 => xv = .pointer (some ⟨g, p, none⟩)
  | 22 => xv = .pointer (some ⟨g, q, none⟩)
  | _ => True
theorem getD_set2 {ys : List Int} {p q : Nat} (x y : Int) (hp : p < ys.length) (hq : q < ys.length) (j : Nat) : ((ys.set p x).set q y).getD j 0 = if j = q then y else if j = p then x else ys.getD j 0 := by
  simp only [List.getD_eq_getElem?_getD]
  by_cases h1 : j = q
  · subst h1
    rw [if_pos rfl, List.getElem?_set_self (by rw [List.length_set]; exact hq)]
    rfl
  · rw [if_neg h1, List.getElem?_set_ne (fun h => h1 h.symm)]
    by_cases h2 : j = p
    · subst h2
      rw [if_pos rfl, List.getElem?_set_self hp]
      rfl
    · rw [if_neg h2, List.getElem?_set_ne (fun h => h2 h.symm)]
/-- A row in its cells that stands as a function tells. -/
def DatF (B g c n : Nat) (w w' : World) (f : Nat → Int) : Prop := ∃ ys, DatM B g c w w' ys ∧ ys.length = n ∧ ∀ j, ys.getD j 0 = f j
theorem DatF.drawn {B g c n : Nat} {w w1 w2 : World} {f : Nat → Int} (h : DatF B g c n w w1 f) (hd : Drawn0 w1 w2) : DatF B g c n w w2 f := by
  obtain ⟨ys, h1, h2, h3⟩ := h
  exact ⟨ys, h1.drawn hd, h2, h3⟩
theorem DatF.congr {B g c n : Nat} {w w1 : World} {f f' : Nat → Int} (h : DatF B g c n w w1 f) (he : ∀ j, f j = f' j) : DatF B g c n w w1 f' := by
  obtain ⟨ys, h1, h2, h3⟩ := h
  exact ⟨ys, h1, h2, fun j => (h3 j).trans (he j)⟩
theorem DatF.comp {B g c n : Nat} {w w1 w2 : World} {f f' : Nat → Int} (h : DatF B g c n w w1 f) (k : ∀ ys, Dat w1 g c ys → ys.length = n → (∀ j, ys.getD j 0 = f j) → DatF B g c n w1 w2 f') : DatF B g c n w w2 f' := by
  obtain ⟨ys, h1, h2, h3⟩ := h
  obtain ⟨zs, k1, k2, k3⟩ := k ys h1.dat h2 h3
  exact ⟨zs, h1.trans k1, k2, k3⟩
set_option maxHeartbeats 8000000 in
set_option maxRecDepth 100000 in
theorem swaprange_calls (g n c B a b k : Nat) (xs : List Int) (fv : Value) (w : World) (hxs : Dat w g c xs) (hn : xs.length = n) (hB : B ≤ g) (hab : a + k ≤ b) (hbn : b + k ≤ n) (hm : n ≤ 1000000) :
    Calls Tryd.prog 78 #[.slice (some ⟨g, 0, none⟩) n c, .int .i64 (a : Int), .int .i64 (b : Int), .int .i64 (k : Int), fv] w fun e w' => e = .returned (.tuple #[]) ∧ DatF B g c n w w' (swF (fun j => xs.getD j 0) a b k) := by
  have HX := Aside0.mk (DatM.refl (B := B) hxs)
  have HB := Aside0.mk hB
  have HN := Aside0.mk hn
  clear hxs hB hn
  go_enter Tryd.func78, Tryd.ntmps78
  go_wp2_with (fail)
  go_loopw [10] (fun s wr => ∃ i : Nat, i ≤ k ∧ s = .int .i64 (i : Int) ∧ Aside0 (DatF B g c n w wr (swF (fun j => xs.getD j 0) a b i))) (fun s _ => k - (intOf s).toNat)
  case atStart => exact ⟨0, Nat.zero_le _, rfl, ⟨xs, HX.out, HN.out, fun j => by unfold swF; rw [if_neg (by omega), if_neg (by omega)]⟩⟩
  case round =>
    obtain ⟨i, hik, rfl, HR⟩ := hrel
    by_cases hlt : i < k
    · obtain ⟨wx, rfl⟩ : ∃ wx : World, wx = wr := ⟨_, rfl⟩
      obtain ⟨ys, h1, h2, h3⟩ := HR.out
      obtain ⟨p, hp⟩ : ∃ p, p = a + i := ⟨_, rfl⟩
      obtain ⟨q, hq⟩ : ∃ q, q = b + i := ⟨_, rfl⟩
      have hcp := (h1.dat.at_ p (by omega)).1
      have hcq := (h1.dat.at_ q (by omega)).1
      have hfp := (h1.dat.at_ p (by omega)).2
      have hfq := (h1.dat.at_ q (by omega)).2
      have hst := fun j => swF_step (fun j => xs.getD j 0) a b i (by omega) j
      obtain ⟨yp, hyp⟩ : ∃ y, y = ys.getD p 0 := ⟨_, rfl⟩
      obtain ⟨yq, hyq⟩ : ∃ y, y = ys.getD q 0 := ⟨_, rfl⟩
      rw [← hyp] at hcp
      rw [← hyq] at hcq
      have hne : (⟨g, p, none⟩ : Addr) ≠ ⟨g, q, none⟩ := by intro h; injection h with _ h; omega
      have HW : Aside0 (DatF B g c n w ((wx.setCell ⟨g, p, none⟩ (.int .i64 yq)).setCell ⟨g, q, none⟩ (.int .i64 yp)) (swF (fun j => xs.getD j 0) a b (i + 1))) := ⟨by
        refine ⟨(ys.set p yq).set q yp, (h1.set HB.out p yq (by omega)).set HB.out q yp (by rw [List.length_set]; omega), by rw [List.length_set, List.length_set]; exact h2, fun j => ?_⟩
        rw [getD_set2 yq yp (by omega) (by omega) j, hst j, hyp, hyq, h3, h3, h3, hp, hq]⟩
      have hfq3 : (wx.setCell ⟨g, p, none⟩ (.int .i64 yq)).frozen? ⟨g, q, none⟩ = false := by simpa using hfq
      have hcq3 : (wx.setCell ⟨g, p, none⟩ (.int .i64 yq)).cell? ⟨g, q, none⟩ = some (.int .i64 yq) := (World.cell?_setCell_other wx _ _ _ hne).trans hcq
      have hwp : IntKind.i64.wrap ((a : Int) + (i : Int)) = (p : Int) := by rw [hp, IntKind.wrap_i64]; omega
      have hwq : IntKind.i64.wrap ((b : Int) + (i : Int)) = (q : Int) := by rw [hq, IntKind.wrap_i64]; omega
      have hwi : IntKind.i64.wrap ((i : Int) + 1) = (i : Int) + 1 := by rw [IntKind.wrap_i64]; omega
      have hpn : p < n := by omega
      have hqn : q < n := by omega
      clear h1 h2 h3 hst hyp hyq hne hp hq hfq HR
      go_upto_region 3 with (fail)
      refine wp_region_gen [false, false, false, false, false, false, false, false, false, false, false, false, false, false, false, false, true, true, true, true, true, true, true, true, true, true, true, true, true, true, true, true, true, true, true, true, true, true] (by kernel_rfl) (by kernel_rfl) (Two wx (wx.setCell ⟨g, p, none⟩ (.int .i64 yq)) ((wx.setCell ⟨g, p, none⟩ (.int .i64 yq)).setCell ⟨g, q, none⟩ (.int .i64 yp)) 21 23) (fun W W' => True) (fun iv xv _ => SwrF g n c a b i p q yp yq iv xv) (fun _ _ _ _ _ h => h) (Two.start ⟨⟨1, rfl⟩⟩) ?_ ?_
      · refine ⟨?_, ?_, ?_, ?_, ?_, ?_, ?_, ?_, ?_, ?_, ?_, ?_, ?_, ?_, ?_, ?_, ?_, ?_, ?_, ?_, ?_, ?_, ?_, ?_, trivial⟩
        · intro ℓ v W hb hl hd hu
          refine step_list fun K hK => ?_
          simp only [fill_lit, fillL, Act.put, List.setIfInBounds_toArray, List.set_cons_zero, List.set_cons_succ, Nat.reduceAdd] at hK ⊢
          clear hd hu
          go_wp2
          exact ⟨hb.keep (by decide) (by decide), trivial, rfl⟩
        · intro ℓ v W hb hl hd hu
          refine step_list fun K hK => ?_
          simp only [fill_lit, fillL, Act.put, List.setIfInBounds_toArray, List.set_cons_zero, List.set_cons_succ, Nat.reduceAdd] at hK ⊢
          clear hd hu
          go_wp2
          exact ⟨hb.keep (by decide) (by decide), trivial, rfl⟩
        · intro ℓ v W hb hl hd hu
          refine step_list fun K hK => ?_
          simp only [fill_lit, fillL, Act.put, List.setIfInBounds_toArray, List.set_cons_zero, List.set_cons_succ, Nat.reduceAdd] at hK ⊢
          clear hd hu
          go_wp2
          exact ⟨hb.keep (by decide) (by decide), trivial, rfl⟩
        · intro ℓ v W hb hl hd hu
          have h1 : v 17 = .int .i64 (a : Int) := (hd 1 (by kernel_rfl)).2
          have h2 : v 18 = .int .i64 (i : Int) := (hd 2 (by kernel_rfl)).2
          refine step_list fun K hK => ?_
          simp only [fill_lit, fillL, Act.put, List.setIfInBounds_toArray, List.set_cons_zero, List.set_cons_succ, Nat.reduceAdd] at hK ⊢
          rw [h1, h2] at hK ⊢
          clear hd hu h1 h2
          go_wp2
          exact ⟨hb.keep (by decide) (by decide), trivial, rfl⟩
        · intro ℓ v W hb hl hd hu
          refine step_list fun K hK => ?_
          simp only [fill_lit, fillL, Act.put, List.setIfInBounds_toArray, List.set_cons_zero, List.set_cons_succ, Nat.reduceAdd] at hK ⊢
          clear hd hu
          go_wp2
          exact ⟨hb.keep (by decide) (by decide), trivial, rfl⟩
        · intro ℓ v W hb hl hd hu
          refine step_list fun K hK => ?_
          simp only [fill_lit, fillL, Act.put, List.setIfInBounds_toArray, List.set_cons_zero, List.set_cons_succ, Nat.reduceAdd] at hK ⊢
          clear hd hu
          go_wp2
          exact ⟨hb.keep (by decide) (by decide), trivial, rfl⟩
        · intro ℓ v W hb hl hd hu
          refine step_list fun K hK => ?_
          simp only [fill_lit, fillL, Act.put, List.setIfInBounds_toArray, List.set_cons_zero, List.set_cons_succ, Nat.reduceAdd] at hK ⊢
          clear hd hu
          go_wp2
          exact ⟨hb.keep (by decide) (by decide), trivial, rfl⟩
        · intro ℓ v W hb hl hd hu
          have h5 : v 21 = .int .i64 (b : Int) := (hd 5 (by kernel_rfl)).2
          have h6 : v 22 = .int .i64 (i : Int) := (hd 6 (by kernel_rfl)).2
          refine step_list fun K hK => ?_
          simp only [fill_lit, fillL, Act.put, List.setIfInBounds_toArray, List.set_cons_zero, List.set_cons_succ, Nat.reduceAdd] at hK ⊢
          rw [h5, h6] at hK ⊢
          clear hd hu h5 h6
          go_wp2
          exact ⟨hb.keep (by decide) (by decide), trivial, rfl⟩
        · intro ℓ v W hb hl hd hu
          refine step_list fun K hK => ?_
          simp only [fill_lit, fillL, Act.put, List.setIfInBounds_toArray, List.set_cons_zero, List.set_cons_succ, Nat.reduceAdd] at hK ⊢
          clear hd hu
          go_wp2
          exact ⟨hb.keep (by decide) (by decide), trivial, rfl⟩
        · intro ℓ v W hb hl hd hu
          refine step_list fun K hK => ?_
          simp only [fill_lit, fillL, Act.put, List.setIfInBounds_toArray, List.set_cons_zero, List.set_cons_succ, Nat.reduceAdd] at hK ⊢
          clear hd hu
          go_wp2
          exact ⟨hb.keep (by decide) (by decide), trivial, rfl⟩
        · intro ℓ v W hb hl hd hu
          refine step_list fun K hK => ?_
          simp only [fill_lit, fillL, Act.put, List.setIfInBounds_toArray, List.set_cons_zero, List.set_cons_succ, Nat.reduceAdd] at hK ⊢
          clear hd hu
          go_wp2
          exact ⟨hb.keep (by decide) (by decide), trivial, rfl⟩
        · intro ℓ v W hb hl hd hu
          have h9 : v 25 = .int .i64 (b : Int) := (hd 9 (by kernel_rfl)).2
          have h10 : v 26 = .int .i64 (i : Int) := (hd 10 (by kernel_rfl)).2
          refine step_list fun K hK => ?_
          simp only [fill_lit, fillL, Act.put, List.setIfInBounds_toArray, List.set_cons_zero, List.set_cons_succ, Nat.reduceAdd] at hK ⊢
          rw [h9, h10] at hK ⊢
          clear hd hu h9 h10
          go_wp2
          exact ⟨hb.keep (by decide) (by decide), trivial, rfl⟩
        · intro ℓ v W hb hl hd hu
          have h8 : v 24 = .slice (some ⟨g, 0, none⟩) n c := (hd 8 (by kernel_rfl)).2
          have h11 : v 27 = .int .i64 (q : Int) := (hd 11 (by kernel_rfl)).2
          refine step_list fun K hK => ?_
          simp only [fill_lit, fillL, Act.put, List.setIfInBounds_toArray, List.set_cons_zero, List.set_cons_succ, Nat.reduceAdd] at hK ⊢
          rw [h8, h11] at hK ⊢
          clear hd hu h8 h11
          go_wp2
          exact ⟨hb.keep (by decide) (by decide), trivial, rfl⟩
        · intro ℓ v W hb hl hd hu
          obtain ⟨⟨nd, rfl⟩⟩ := hb.none_ (hu 21 (by kernel_rfl)) (hu 23 (by kernel_rfl))
          have hld : (wx.drewN nd).cell? ⟨g, q, none⟩ = some (.int .i64 yq) := hcq
          have h12 : v 28 = .pointer (some ⟨g, q, none⟩) := (hd 12 (by kernel_rfl)).2
          refine step_list fun K hK => ?_
          simp only [fill_lit, fillL, Act.put, List.setIfInBounds_toArray, List.set_cons_zero, List.set_cons_succ, Nat.reduceAdd] at hK ⊢
          rw [h12] at hK ⊢
          clear hd hu h12
          go_wp2
          exact ⟨hb.keep (by decide) (by decide), trivial, rfl⟩
        · intro ℓ v W hb hl hd hu
          refine step_list fun K hK => ?_
          simp only [fill_lit, fillL, Act.put, List.setIfInBounds_toArray, List.set_cons_zero, List.set_cons_succ, Nat.reduceAdd] at hK ⊢
          clear hd hu
          go_wp2
          exact ⟨hb.keep (by decide) (by decide), trivial, rfl⟩
        · intro ℓ v W hb hl hd hu
          refine step_list fun K hK => ?_
          simp only [fill_lit, fillL, Act.put, List.setIfInBounds_toArray, List.set_cons_zero, List.set_cons_succ, Nat.reduceAdd] at hK ⊢
          clear hd hu
          go_wp2
          exact ⟨hb.keep (by decide) (by decide), trivial, rfl⟩
        · intro ℓ v W hb hl hd hu
          refine step_list fun K hK => ?_
          simp only [fill_lit, fillL, Act.put, List.setIfInBounds_toArray, List.set_cons_zero, List.set_cons_succ, Nat.reduceAdd] at hK ⊢
          clear hd hu
          go_wp2
          exact ⟨hb.keep (by decide) (by decide), trivial, rfl⟩
        · intro ℓ v W hb hl hd hu
          have h15 : v 31 = .int .i64 (a : Int) := (hd 15 (by kernel_rfl)).2
          have h16 : v 32 = .int .i64 (i : Int) := (hd 16 (by kernel_rfl)).2
          refine step_list fun K hK => ?_
          simp only [fill_lit, fillL, Act.put, List.setIfInBounds_toArray, List.set_cons_zero, List.set_cons_succ, Nat.reduceAdd] at hK ⊢
          rw [h15, h16] at hK ⊢
          clear hd hu h15 h16
          go_wp2
          exact ⟨hb.keep (by decide) (by decide), trivial, rfl⟩
        · intro ℓ v W hb hl hd hu
          have h14 : v 30 = .slice (some ⟨g, 0, none⟩) n c := (hd 14 (by kernel_rfl)).2
          have h17 : v 33 = .int .i64 (p : Int) := (hd 17 (by kernel_rfl)).2
          refine step_list fun K hK => ?_
          simp only [fill_lit, fillL, Act.put, List.setIfInBounds_toArray, List.set_cons_zero, List.set_cons_succ, Nat.reduceAdd] at hK ⊢
          rw [h14, h17] at hK ⊢
          clear hd hu h14 h17
          go_wp2
          exact ⟨hb.keep (by decide) (by decide), trivial, rfl⟩
        · intro ℓ v W hb hl hd hu
          obtain ⟨⟨nd, rfl⟩⟩ := hb.none_ (hu 21 (by kernel_rfl)) (hu 23 (by kernel_rfl))
          have hld : (wx.drewN nd).cell? ⟨g, p, none⟩ = some (.int .i64 yp) := hcp
          have h18 : v 34 = .pointer (some ⟨g, p, none⟩) := (hd 18 (by kernel_rfl)).2
          refine step_list fun K hK => ?_
          simp only [fill_lit, fillL, Act.put, List.setIfInBounds_toArray, List.set_cons_zero, List.set_cons_succ, Nat.reduceAdd] at hK ⊢
          rw [h18] at hK ⊢
          clear hd hu h18
          go_wp2
          exact ⟨hb.keep (by decide) (by decide), trivial, rfl⟩
        · intro ℓ v W hb hl hd hu
          have h0 : v 16 = .slice (some ⟨g, 0, none⟩) n c := (hd 0 (by kernel_rfl)).2
          have h3 : v 19 = .int .i64 (p : Int) := (hd 3 (by kernel_rfl)).2
          refine step_list fun K hK => ?_
          simp only [fill_lit, fillL, Act.put, List.setIfInBounds_toArray, List.set_cons_zero, List.set_cons_succ, Nat.reduceAdd] at hK ⊢
          rw [h0, h3] at hK ⊢
          clear hd hu h0 h3
          go_wp2
          exact ⟨hb.keep (by decide) (by decide), trivial, rfl⟩
        · intro ℓ v W hb hl hd hu
          obtain ⟨⟨nd, rfl⟩⟩ := hb.none_ hl (hu 23 (by kernel_rfl))
          have hut := hu 23 (by kernel_rfl)
          have hfz : (wx.drewN nd).frozen? ⟨g, p, none⟩ = false := hfp
          have hcz : (wx.drewN nd).cell? ⟨g, p, none⟩ = some (.int .i64 yp) := hcp
          have h20 : v 36 = .pointer (some ⟨g, p, none⟩) := (hd 20 (by kernel_rfl)).2
          have h13 : v 29 = .int .i64 yq := (hd 13 (by kernel_rfl)).2
          refine step_list fun K hK => ?_
          simp only [fill_lit, fillL, Act.put, List.setIfInBounds_toArray, List.set_cons_zero, List.set_cons_succ, Nat.reduceAdd] at hK ⊢
          rw [h20, h13] at hK ⊢
          clear hd hu h20 h13
          go_wp2
          exact hK undef _ ⟨Two.mk2 ⟨⟨nd, rfl⟩⟩ hut (by decide), trivial, trivial⟩
        · intro ℓ v W hb hl hd hu
          have h4 : v 20 = .slice (some ⟨g, 0, none⟩) n c := (hd 4 (by kernel_rfl)).2
          have h7 : v 23 = .int .i64 (q : Int) := (hd 7 (by kernel_rfl)).2
          refine step_list fun K hK => ?_
          simp only [fill_lit, fillL, Act.put, List.setIfInBounds_toArray, List.set_cons_zero, List.set_cons_succ, Nat.reduceAdd] at hK ⊢
          rw [h4, h7] at hK ⊢
          clear hd hu h4 h7
          go_wp2
          exact ⟨hb.keep (by decide) (by decide), trivial, rfl⟩
        · intro ℓ v W hb hl hd hu
          obtain ⟨⟨nd, rfl⟩⟩ := hb.one_ (hd 21 (by kernel_rfl)).1 hl
          have hfz : ((wx.setCell ⟨g, p, none⟩ (.int .i64 yq)).drewN nd).frozen? ⟨g, q, none⟩ = false := hfq3
          have hcz : ((wx.setCell ⟨g, p, none⟩ (.int .i64 yq)).drewN nd).cell? ⟨g, q, none⟩ = some (.int .i64 yq) := hcq3
          have h22 : v 37 = .pointer (some ⟨g, q, none⟩) := (hd 22 (by kernel_rfl)).2
          have h19 : v 35 = .int .i64 yp := (hd 19 (by kernel_rfl)).2
          refine step_list fun K hK => ?_
          simp only [fill_lit, fillL, Act.put, List.setIfInBounds_toArray, List.set_cons_zero, List.set_cons_succ, Nat.reduceAdd] at hK ⊢
          rw [h22, h19] at hK ⊢
          clear hd hu h22 h19
          go_wp2
          exact hK undef _ ⟨Two.mk3 ⟨⟨nd, rfl⟩⟩, trivial, trivial⟩
      · intro ℓ v W hb hall hF
        obtain ⟨⟨nd, rfl⟩⟩ := hb.done_ (hall 23 (of_decide_eq_true (by kernel_rfl)))
        clear hF hall hb
        simp only [fill_lit, fillL, Nat.reduceAdd]
        have HW2 := Aside0.mk (HW.out.drawn (w2 := ((wx.setCell ⟨g, p, none⟩ (.int .i64 yq)).setCell ⟨g, q, none⟩ (.int .i64 yp)).drewN nd) ⟨⟨nd, rfl⟩⟩)
        generalize (((wx.setCell ⟨g, p, none⟩ (.int .i64 yq)).setCell ⟨g, q, none⟩ (.int .i64 yp)).drewN nd) = wz at *
        clear hcq3 hfq3 hcp hcq hfp hwp hwq
        go_wp2
        go_roundw
        case rel => exact ⟨i + 1, by omega, by go_num, HW2⟩
        case measure => simp [intOf]; omega
    · obtain rfl : i = k := by omega
      go_wp2
      go_end0
      exact ⟨rfl, HR.out⟩
set_option maxHeartbeats 8000000 in
set_option maxRecDepth 100000 in
theorem rotate_calls (g n c B a m b : Nat) (xs : List Int) (fv : Value) (w : World) (hxs : Dat w g c xs) (hn : xs.length = n) (hB : B ≤ g) (ham : a < m) (hmb : m < b) (hbn : b ≤ n) (hm : n ≤ 1000000) :
    Calls Tryd.prog 77 #[.slice (some ⟨g, 0, none⟩) n c, .int .i64 (a : Int), .int .i64 (m : Int), .int .i64 (b : Int), fv] w fun e w' => e = .returned (.tuple #[]) ∧ DatF B g c n w w' (rotF (fun j => xs.getD j 0) a m b) := by
  have HX := Aside0.mk (DatM.refl (B := B) hxs)
  have HB := Aside0.mk hB
  have HN := Aside0.mk hn
  have HS : Aside0 ((∀ t, rotF (fun j => xs.getD j 0) (m - (m - a)) m (m + (b - m)) t = rotF (fun j => xs.getD j 0) a m b t)) := ⟨fun t => by rw [show m - (m - a) = a by omega, show m + (b - m) = b by omega]⟩
  clear hxs hB hn
  obtain ⟨i0, hi0⟩ : ∃ i, i = m - a := ⟨_, rfl⟩
  obtain ⟨j0, hj0⟩ : ∃ j, j = b - m := ⟨_, rfl⟩
  rw [← hi0, ← hj0] at HS
  have hw1 : IntKind.i64.wrap ((m : Int) - (a : Int)) = (i0 : Int) := by rw [hi0, IntKind.wrap_i64]; omega
  have hw2 : IntKind.i64.wrap ((b : Int) - (m : Int)) = (j0 : Int) := by rw [hj0, IntKind.wrap_i64]; omega
  have HI : Aside0 (0 < i0 ∧ 0 < j0 ∧ i0 ≤ m ∧ m + j0 ≤ n ∧ n ≤ 1000000) := ⟨by omega⟩
  clear hi0 hj0 ham hmb hbn hm
  go_enter Tryd.func77, Tryd.ntmps77
  go_wp2_with (fail)
  clear hw1 hw2
  go_loopw [10, 11] (fun s t wr => ∃ i j : Nat, s = .int .i64 (i : Int) ∧ t = .int .i64 (j : Int) ∧ Aside0 ((0 < i ∧ 0 < j ∧ i ≤ m ∧ m + j ≤ n) ∧ ∃ f, DatF B g c n w wr f ∧ ∀ t, rotF f (m - i) m (m + j) t = rotF (fun j => xs.getD j 0) a m b t)) (fun s t _ => (intOf s).toNat + (intOf t).toNat)
  case atStart => exact ⟨i0, j0, rfl, rfl, ⟨⟨HI.out.1, HI.out.2.1, HI.out.2.2.1, HI.out.2.2.2.1⟩, _, ⟨xs, HX.out, HN.out, fun _ => rfl⟩, HS.out⟩⟩
  case round =>
    obtain ⟨i, j, rfl, rfl, HR⟩ := hrel
    obtain ⟨⟨hi, hj, him, hjn⟩, f, hf, hrot⟩ := HR.out
    have hnn := HI.out.2.2.2.2
    have HF := Aside0.mk hf
    have HRt := Aside0.mk hrot
    obtain ⟨ys, hy1, hy2, hy3⟩ := hf
    clear HR hrot
    obtain ⟨p, hp⟩ : ∃ p, p = m - i := ⟨_, rfl⟩
    have hwp : IntKind.i64.wrap ((m : Int) - (i : Int)) = (p : Int) := by rw [hp, IntKind.wrap_i64]; omega
    have HP := Aside0.mk hp
    by_cases hgt : j < i
    · have dne : ((i : Int) != (j : Int)) = true := by simp; omega
      have dgt : decide ((j : Int) < (i : Int)) = true := by simp; omega
      have dgn : decide (j < i) = true := by simp; omega
      have dnn : (i != j) = true := by simp; omega
      have HC := Aside0.mk (swaprange_calls g n c B p m j ys fv wr hy1.dat hy2 HB.out (by omega) (by omega) hnn)
      obtain ⟨i2, hi2⟩ : ∃ i2, i2 = i - j := ⟨_, rfl⟩
      have hw2 : IntKind.i64.wrap ((i : Int) - (j : Int)) = (i2 : Int) := by rw [hi2, IntKind.wrap_i64]; omega
      have HG := Aside0.mk (And.intro hgt (And.intro hi (And.intro hj (And.intro him (And.intro hjn hi2)))))
      have HY := Aside0.mk (And.intro hy1 hy3)
      clear hgt hi hj him hjn hi2 hy1 hy2 hy3 hp hnn
      go_wp2_with (fail)
      refine HC.out.mono ?_
      rintro e w2 ⟨rfl, hd⟩
      have HD := Aside0.mk hd
      clear hd
      go_wp2
      go_roundw
      case rel =>
        obtain ⟨g1, g2, g3, g4, g5, g6⟩ := HG.out
        refine ⟨i2, j, rfl, rfl, ⟨⟨by omega, g3, by omega, g5⟩, swF f (m - i) m j, ?_, fun t => ?_⟩⟩
        · obtain ⟨zs, k1, k2, k3⟩ := HD.out
          refine ⟨zs, HY.out.1.trans k1, k2, fun t => ?_⟩
          rw [k3 t, HP.out]
          unfold swF
          simp only [HY.out.2]
        · rw [g6, rot_gt f i j m g1 g4 t, HRt.out t]
      case measure =>
        have := HG.out
        simp [intOf]
        omega
    · by_cases hlt : i < j
      · have dne : ((i : Int) != (j : Int)) = true := by simp; omega
        have dgt : decide ((j : Int) < (i : Int)) = false := by simp; omega
        have dgn : decide (j < i) = false := by simp; omega
        have dnn : (i != j) = true := by simp; omega
        obtain ⟨q, hq⟩ : ∃ q, q = m + j - i := ⟨_, rfl⟩
        obtain ⟨mj, hmj⟩ : ∃ q, q = m + j := ⟨_, rfl⟩
        have hw3 : IntKind.i64.wrap ((m : Int) + (j : Int)) = (mj : Int) := by rw [hmj, IntKind.wrap_i64]; omega
        have hw4 : IntKind.i64.wrap ((mj : Int) - (i : Int)) = (q : Int) := by rw [hq, hmj, IntKind.wrap_i64]; omega
        have HC := Aside0.mk (swaprange_calls g n c B p q i ys fv wr hy1.dat hy2 HB.out (by omega) (by omega) hnn)
        obtain ⟨j2, hj2⟩ : ∃ j2, j2 = j - i := ⟨_, rfl⟩
        have hw2 : IntKind.i64.wrap ((j : Int) - (i : Int)) = (j2 : Int) := by rw [hj2, IntKind.wrap_i64]; omega
        have HG := Aside0.mk (And.intro hlt (And.intro hi (And.intro hj (And.intro him (And.intro hjn (And.intro hj2 hq))))))
        have HY := Aside0.mk (And.intro hy1 hy3)
        clear hgt hlt hi hj him hjn hj2 hy1 hy2 hy3 hp hnn hq hmj
        go_wp2_with (fail)
        refine HC.out.mono ?_
        rintro e w2 ⟨rfl, hd⟩
        have HD := Aside0.mk hd
        clear hd
        go_wp2
        go_roundw
        case rel =>
          obtain ⟨g1, g2, g3, g4, g5, g6, g7⟩ := HG.out
          refine ⟨i, j2, rfl, rfl, ⟨⟨g2, by omega, g4, by omega⟩, swF f (m - i) (m + j - i) i, ?_, fun t => ?_⟩⟩
          · obtain ⟨zs, k1, k2, k3⟩ := HD.out
            refine ⟨zs, HY.out.1.trans k1, k2, fun t => ?_⟩
            rw [k3 t, HP.out, g7]
            unfold swF
            simp only [HY.out.2]
          · rw [g6, rot_lt f i j m g1 g4 t, HRt.out t]
        case measure =>
          have := HG.out
          simp [intOf]
          omega
      · obtain rfl : i = j := by omega
        have HC := Aside0.mk (swaprange_calls g n c B p m i ys fv wr hy1.dat hy2 HB.out (by omega) (by omega) hnn)
        have HY := Aside0.mk (And.intro hy1 (And.intro hy3 him))
        clear hgt hlt hi hj him hjn hy1 hy2 hy3 hp hnn
        go_wp2_with (fail)
        refine HC.out.mono ?_
        rintro e w2 ⟨rfl, hd⟩
        have HD := Aside0.mk hd
        clear hd
        go_wp2
        go_end0
        refine ⟨rfl, ?_⟩
        obtain ⟨zs, k1, k2, k3⟩ := HD.out
        refine ⟨zs, HY.out.1.trans k1, k2, fun t => ?_⟩
        rw [k3 t, HP.out, ← HRt.out t, ← rot_eq f i m HY.out.2.2 t]
        unfold swF
        simp only [HY.out.2.1]
end Go.Proofs.YtfameghednapkaaDoor.Sort
