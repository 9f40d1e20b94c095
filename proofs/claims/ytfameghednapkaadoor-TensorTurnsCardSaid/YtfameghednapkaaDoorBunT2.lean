/- Texts put together: Sort1, Sort2, CloneI, Top, Ten3, Top2, Ord, LawInts, TenAwake. -/
import Derived.Test.YtfameghednapkaaDoorBunT1
import Derived.StillTailTactics
import Derived.Deep.DeepCutAuto
import Derived.Deep.CutRange
import Derived.Deep.MidRow
import Derived.Laws.EntriesVeiled
set_option linter.unusedVariables false
set_option linter.unusedSimpArgs false
namespace Go.Proofs.YtfameghednapkaaDoor.Sort
open Go.RowKit Go.Proofs.YtfameghednapkaaDoorW.PrintWords Go.Proofs.YtfameghednapkaaDoorW.PrintLast Go.Proofs.YtfameghednapkaaDoorW.PrintMore Go.Proofs.YtfameghednapkaaDoor.K Go.Proofs.YtfameghednapkaaDoor.RI
set_option linter.unusedVariables false
set_option linter.unusedSimpArgs false
/-- Block g, of c cells, begins with the numbers xs. -/
structure Dat (W : World) (g c : Nat) (xs : List Int) : Prop where
  at_ : ∀ j, j < xs.length → W.cell? ⟨g, j, none⟩ = some (.int .i64 (xs.getD j 0)) ∧ W.frozen? ⟨g, j, none⟩ = false
  blk : ∃ cur, W.heap[g]? = some (.cells cur 3 (0, 0)) ∧ cur.size = c
structure DatM (B g c : Nat) (w w' : World) (xs : List Int) : Prop where
  dat : Dat w' g c xs
  keep : KeepBut w w' g none
  bel : Below B w w'
theorem DatM.refl {B g c : Nat} {w : World} {xs : List Int} (h : Dat w g c xs) : DatM B g c w w xs := ⟨h, KeepBut.refl _ _ _, Below.refl _ _⟩
theorem DatM.drawn {B g c : Nat} {w w1 w2 : World} {xs : List Int} (h : DatM B g c w w1 xs) (hd : Drawn0 w1 w2) : DatM B g c w w2 xs := by
  obtain ⟨n, rfl⟩ := hd
  exact ⟨⟨h.dat.at_, h.dat.blk⟩, h.keep, h.bel.trans (pw_below_drewN (Below.refl _ _) n)⟩
theorem DatM.trans {B g c : Nat} {w w1 w2 : World} {xs ys : List Int} (h : DatM B g c w w1 xs) (k : DatM B g c w1 w2 ys) : DatM B g c w w2 ys := ⟨k.dat, h.keep.trans k.keep (.inl rfl), h.bel.trans k.bel⟩
theorem Dat.set {W : World} {g c : Nat} {xs : List Int} (h : Dat W g c xs) (j : Nat) (x : Int) (hj : j < xs.length) : Dat (W.setCell ⟨g, j, none⟩ (.int .i64 x)) g c (xs.set j x) := by
  refine ⟨fun i hi => ?_, ?_⟩
  · rw [List.length_set] at hi
    have hf : (W.setCell ⟨g, j, none⟩ (.int .i64 x)).frozen? ⟨g, i, none⟩ = W.frozen? ⟨g, i, none⟩ := by simp
    refine ⟨?_, by rw [hf]; exact (h.at_ i hi).2⟩
    by_cases e : i = j
    · subst e
      rw [List.getD_eq_getElem?_getD, List.getElem?_set_self (by omega)]
      exact World.cell?_setCell_same' _ _ _ (by rw [(h.at_ i hi).1]; rfl)
    · rw [List.getD_eq_getElem?_getD, List.getElem?_set_ne (fun h => e h.symm), ← List.getD_eq_getElem?_getD]
      rw [← (h.at_ i hi).1]
      have hne : (⟨g, j, none⟩ : Addr) ≠ ⟨g, i, none⟩ := fun h2 => e (by injection h2 with _ h3; exact h3.symm)
      exact World.cell?_setCell_other W _ _ _ hne
  · obtain ⟨cur, h1, h2⟩ := h.blk
    exact ⟨_, blk_set h1 j _, by rw [Array.size_setIfInBounds]; exact h2⟩
theorem DatM.set {B g c : Nat} {w w1 : World} {xs : List Int} (h : DatM B g c w w1 xs) (hB : B ≤ g) (j : Nat) (x : Int) (hj : j < xs.length) : DatM B g c w (w1.setCell ⟨g, j, none⟩ (.int .i64 x)) (xs.set j x) :=
  ⟨h.dat.set j x hj, h.keep.set_ _ _, h.bel.setCell hB _⟩
/-- Again a row of the call's own. -/
theorem Dat.own {W : World} {g c : Nat} {xs : List Int} (h : Dat W g c xs) (h1 : xs.length ≤ c) (h2 : c ≤ maxLen) : W.ownsRow g 3 1 (.slice (some ⟨g, 0, none⟩) xs.length c) xs.length (nums .i64 xs) := by
  obtain ⟨cur, hb, hs⟩ := h.blk
  refine ⟨by simp [nums], .inr ⟨g, c, cur, rfl, Nat.le_refl _, hb, h1, h2, by rw [hs, Nat.mul_one], ?_⟩⟩
  rw [Nat.mul_one]
  refine List.ext_getElem (by simp [nums, hs]; omega) fun j h3 h4 => ?_
  have hj : j < xs.length := by simpa [nums] using h4
  have h5 := (h.at_ j hj).1
  rw [blk_cell hb j] at h5
  simp only [List.getElem_take, nums, List.getElem_map]
  rw [Array.getElem?_eq_getElem (by omega)] at h5
  have h6 := Option.some.inj h5
  simp only [Array.getElem_toList]
  rw [h6, List.getD_eq_getElem?_getD, List.getElem?_eq_getElem hj]
  rfl
/-- What a comparison answers, whatever became of the row that is sorted. -/
structure Cmp (fid : Nat) (fa lb : Array Value) (cf : Int → Int → Int) (D : Int → Prop) (B g : Nat) (w : World) : Prop where
  enters : ∀ args w, (callFunc fid args).run Tryd.prog w = .ok (.enter fid args) w
  calls : ∀ x y W, D x → D y → KeepBut w W g none → Below B w W → Calls Tryd.prog fid (fa ++ (#[.int .i64 x, .int .i64 y] ++ lb)) W fun e W' => e = .returned (.int .i64 (cf x y)) ∧ Drawn0 W W'
theorem Cmp.later {fid : Nat} {fa lb : Array Value} {cf : Int → Int → Int} {D : Int → Prop} {B g c : Nat} {w w1 : World} {xs : List Int} (h : Cmp fid fa lb cf D B g w) (k : DatM B g c w w1 xs) : Cmp fid fa lb cf D B g w1 := ⟨h.enters, fun x y W hx hy hk hb => h.calls x y W hx hy (k.keep.trans hk (.inl rfl)) (k.bel.trans hb)⟩
/-- Neighbours k - 1 and k changed. -/
def swp (xs : List Int) (k : Nat) : List Int := (xs.set (k + 1) (xs.getD k 0)).set k (xs.getD (k + 1) 0)
def insIn (lt : Int → Int → Bool) (a : Nat) : Nat → List Int → List Int
  | 0, xs => xs
  | j + 1, xs => if a < j + 1 ∧ lt (xs.getD (j + 1) 0) (xs.getD j 0) = true then insIn lt a j (swp xs j) else xs
def insOut (lt : Int → Int → Bool) (a : Nat) : Nat → List Int → List Int
  | 0, xs => xs
  | m + 1, xs => insIn lt a (a + 1 + m) (insOut lt a m xs)
theorem swp_length (xs : List Int) (k : Nat) : (swp xs k).length = xs.length := by simp [swp]
theorem insIn_length (lt : Int → Int → Bool) (a : Nat) : ∀ (j : Nat) (xs : List Int), (insIn lt a j xs).length = xs.length
  | 0, xs => rfl
  | j + 1, xs => by
    unfold insIn
    split
    · rw [insIn_length lt a j, swp_length]
    · rfl
theorem insIn_self (lt : Int → Int → Bool) (a : Nat) (xs : List Int) : insIn lt a a xs = xs := by
  cases a with
  | zero => rfl
  | succ p => unfold insIn; rw [if_neg (by omega)]
theorem insOut_length (lt : Int → Int → Bool) (a : Nat) (xs : List Int) : ∀ m, (insOut lt a m xs).length = xs.length
  | 0 => rfl
  | m + 1 => by unfold insOut; rw [insIn_length, insOut_length lt a xs m]
theorem all_set {D : Int → Prop} {xs : List Int} (h : ∀ x ∈ xs, D x) (j : Nat) {x : Int} (hx : D x) : ∀ y ∈ xs.set j x, D y := fun y hy => by
  rcases List.mem_or_eq_of_mem_set hy with h1 | h1
  · exact h y h1
  · rw [h1]; exact hx
theorem getD_all {D : Int → Prop} {xs : List Int} (h : ∀ x ∈ xs, D x) {j : Nat} (hj : j < xs.length) : D (xs.getD j 0) := by
  rw [List.getD_eq_getElem?_getD, List.getElem?_eq_getElem hj]
  exact h _ (List.getElem_mem hj)
theorem swp_all {D : Int → Prop} {xs : List Int} (h : ∀ x ∈ xs, D x) {k : Nat} (hk : k + 1 < xs.length) : ∀ x ∈ swp xs k, D x := all_set (all_set h _ (getD_all h (by omega))) _ (getD_all h hk)
def ltOf (cf : Int → Int → Int) (x y : Int) : Bool := decide (cf x y < 0)
def InsSw (g n c p : Nat) (u y : Int) (iv : Nat) (xv : Value) : Prop := match iv with
  | 0 => xv = .slice (some ⟨g, 0, none⟩) n c
  | 1 => xv = .int .i64 ((p : Int) + 1)
  | 2 => xv = .slice (some ⟨g, 0, none⟩) n c
  | 3 => xv = .int .i64 ((p : Int) + 1)
  | 4 => xv = .int .i64 (p : Int)
  | 5 => xv = .slice (some ⟨g, 0, none⟩) n c
  | 6 => xv = .int .i64 ((p : Int) + 1)
  | 7 => xv = .int .i64 (p : Int)
  | 8 => xv = .pointer (some ⟨g, p, none⟩)
  | 9 => xv = .int .i64 y
  | 10 => xv = .slice (some ⟨g, 0, none⟩) n c
  | 11 => xv = .int .i64 ((p : Int) + 1)
  | 12 => xv = .pointer (some ⟨g, p + 1, none⟩)
  | 13 => xv = .int .i64 u
  | 14 => xv = .pointer (some ⟨g, p + 1, none⟩)
  | 16 => xv = .pointer (some ⟨g, p, none⟩)
  | _ => True
def InsOn (fid : Nat) (fa lb : Array Value) (g n c a p : Nat) (u y r : Int) (iv : Nat) (xv : Value) : Prop := match iv with
  | 0 => xv = .int .i64 ((p : Int) + 1)
  | 1 => xv = .int .i64 (a : Int)
  | 2 => xv = .bool true
  | 3 => xv = .bool true
  | 4 => xv = .func (.func fid) fa lb
  | 5 => xv = .slice (some ⟨g, 0, none⟩) n c
  | 6 => xv = .int .i64 ((p : Int) + 1)
  | 7 => xv = .pointer (some ⟨g, p + 1, none⟩)
  | 8 => xv = .int .i64 u
  | 9 => xv = .slice (some ⟨g, 0, none⟩) n c
  | 10 => xv = .int .i64 ((p : Int) + 1)
  | 11 => xv = .int .i64 (p : Int)
  | 12 => xv = .pointer (some ⟨g, p, none⟩)
  | 13 => xv = .int .i64 y
  | 14 => xv = .int .i64 r
  | 15 => xv = .bool (decide (r < 0))
  | 16 => xv = .bool (decide (r < 0))
  | _ => True
def InsOff (a j : Nat) (iv : Nat) (xv : Value) : Prop := match iv with
  | 0 => xv = .int .i64 (j : Int)
  | 1 => xv = .int .i64 (a : Int)
  | 2 => xv = .bool false
  | 3 => xv = .bool false
  | 4 => xv = undef
  | 5 => xv = undef
  | 6 => xv = undef
  | 7 => xv = undef
  | 8 => xv = undef
  | 9 => xv = undef
  | 10 => xv = undef
  | 11 => xv = undef
  | 12 => xv = undef
  | 13 => xv = undef
  | 14 => xv = undef
  | 15 => xv = undef
  | 16 => xv = .bool false
  | _ => True
set_option maxHeartbeats 8000000 in
set_option maxRecDepth 100000 in
theorem insertion_calls (fid : Nat) (fa lb : Array Value) (cf : Int → Int → Int) (D : Int → Prop) (g n c B a b : Nat) (xs : List Int) (w : World) (hCmp : Cmp fid fa lb cf D B g w) (hxs : Dat w g c xs) (hn : xs.length = n) (hD : ∀ x ∈ xs, D x) (hB : B ≤ g) (hab : a ≤ b) (hbn : b ≤ n) (hm : n ≤ 1000000) :
    Calls Tryd.prog 75 #[.slice (some ⟨g, 0, none⟩) n c, .int .i64 (a : Int), .int .i64 (b : Int), .func (.func fid) fa lb] w fun e w' => e = .returned (.tuple #[]) ∧ DatM B g c w w' (insOut (ltOf cf) a (b - (a + 1)) xs) := by
  have hent := hCmp.enters
  have HCmp := Aside0.mk hCmp
  have HX := Aside0.mk (DatM.refl (B := B) hxs)
  have HD := Aside0.mk hD
  have HB := Aside0.mk hB
  have HN := Aside0.mk hn
  clear hCmp hxs hD hB hn
  go_enter Tryd.func75, Tryd.ntmps75
  go_wp2_with (fail)
  go_loopw [8] (fun i wr => ∃ m : Nat, (m = 0 ∨ a + 1 + m ≤ b) ∧ i = .int .i64 ((a : Int) + 1 + (m : Int)) ∧ Aside0 (DatM B g c w wr (insOut (ltOf cf) a m xs) ∧ ∀ x ∈ insOut (ltOf cf) a m xs, D x)) (fun i _ => b - (intOf i).toNat)
  case atStart => exact ⟨0, .inl rfl, by simp, ⟨HX.out, HD.out⟩⟩
  case round =>
    obtain ⟨m, hmm, rfl, HR⟩ := hrel
    by_cases hlt : a + 1 + m < b
    · obtain ⟨wo, rfl⟩ : ∃ wo : World, wo = wr := ⟨_, rfl⟩
      have HL : Aside0 ((insOut (ltOf cf) a m xs).length = n) := ⟨by rw [insOut_length, HN.out]⟩
      have HO : Aside0 (insOut (ltOf cf) a (m + 1) xs = insIn (ltOf cf) a (a + 1 + m) (insOut (ltOf cf) a m xs)) := ⟨rfl⟩
      have hltD : decide ((a : Int) + 1 + (m : Int) < (b : Int)) = true := by simp; omega
      generalize insOut (ltOf cf) a m xs = ys at *
      go_wp2_with (fail)
      go_loopw [9] (fun i wr => ∃ j : Nat, j ≤ a + 1 + m ∧ a ≤ j ∧ i = .int .i64 (j : Int) ∧ Aside0 (∃ us : List Int, DatM B g c w wr us ∧ (∀ x ∈ us, D x) ∧ us.length = n ∧ insIn (ltOf cf) a j us = insIn (ltOf cf) a (a + 1 + m) ys)) (fun i _ => (intOf i).toNat)
      case atStart => exact ⟨a + 1 + m, Nat.le_refl _, by omega, by go_num, ⟨ys, HR.out.1, HR.out.2, HL.out, rfl⟩⟩
      case round =>
        obtain ⟨j, hj1, hj2, rfl, HI⟩ := hrel
        obtain ⟨us, hU⟩ := HI.out
        have HU := Aside0.mk hU
        clear HI hU
        obtain ⟨wi, rfl⟩ : ∃ wi : World, wi = wr := ⟨_, rfl⟩
        by_cases hja : a < j
        · obtain ⟨p, rfl⟩ : ∃ p, j = p + 1 := ⟨j - 1, by omega⟩
          have hp1 : p + 1 < us.length := by have := HU.out.2.2.1; omega
          have hcu := (HU.out.1.dat.at_ (p + 1) hp1).1
          have hcy := (HU.out.1.dat.at_ p (by omega)).1
          have hfu := (HU.out.1.dat.at_ (p + 1) hp1).2
          have hfy := (HU.out.1.dat.at_ p (by omega)).2
          have HDu : Aside0 (D (us.getD (p + 1) 0)) := ⟨getD_all HU.out.2.1 hp1⟩
          have HDy : Aside0 (D (us.getD p 0)) := ⟨getD_all HU.out.2.1 (by omega)⟩
          have HM : Aside0 (DatM B g c w wi us) := ⟨HU.out.1⟩
          have HS : Aside0 (∃ s1 s2, s1 = us.getD (p + 1) 0 ∧ s2 = us.getD p 0) := ⟨⟨_, _, rfl, rfl⟩⟩
          obtain ⟨u, y, hu, hy⟩ := HS.out
          rw [← hu] at hcu HDu
          rw [← hy] at hcy HDy
          have HE := Aside0.mk (And.intro hu hy)
          have HIn : Aside0 (insIn (ltOf cf) a (p + 1) us = if a < p + 1 ∧ ltOf cf (us.getD (p + 1) 0) (us.getD p 0) = true then insIn (ltOf cf) a p (swp us p) else us) := ⟨rfl⟩
          have hpn1 : p + 1 < n := by have := HU.out.2.2.1; omega
          clear hu hy HS hp1
          rw [show ((p + 1 : Nat) : Int) = (p : Int) + 1 from Int.natCast_add p 1]
          go_upto_region 4 with (fail)
          go_cut [34] from 18 to 34 (fun s34 wx => s34 = .bool (ltOf cf u y) ∧ Drawn0 wi wx)
          case first =>
            clear hfu hfy
            refine wp_region_fin [false, false, false, false, false, false, false, false, false, false, false, false, false, false, false, false, false, false, true, true, true, true, true, true, true, true, true, true, true, true, true, true, true, true, true] (by kernel_rfl) (by kernel_rfl) (fun W => Drawn0 wi W) (fun W W' => True) (fun iv xv _ => InsOn fid fa lb g n c a p u y (cf u y) iv xv) (fun _ _ _ _ _ _ h => h) ⟨⟨1, rfl⟩⟩ ?_ ?_
            · refine ⟨?_, ?_, ?_, ?_, ?_, ?_, ?_, ?_, ?_, ?_, ?_, ?_, ?_, ?_, ?_, ?_, ?_, trivial⟩
              · intro v W hb hd
                obtain ⟨⟨nd, rfl⟩⟩ := hb
                refine step_list fun K hK => ?_
                simp only [fill_lit, fillL, Act.put, List.setIfInBounds_toArray, List.set_cons_zero, List.set_cons_succ, Nat.reduceAdd] at hK ⊢
                clear hd
                go_wp2
                exact ⟨⟨⟨nd, rfl⟩⟩, trivial, rfl⟩
              · intro v W hb hd
                obtain ⟨⟨nd, rfl⟩⟩ := hb
                refine step_list fun K hK => ?_
                simp only [fill_lit, fillL, Act.put, List.setIfInBounds_toArray, List.set_cons_zero, List.set_cons_succ, Nat.reduceAdd] at hK ⊢
                clear hd
                go_wp2
                exact ⟨⟨⟨nd, rfl⟩⟩, trivial, rfl⟩
              · intro v W hb hd
                obtain ⟨⟨nd, rfl⟩⟩ := hb
                have h0 : v 18 = .int .i64 ((p : Int) + 1) := hd 0 (by kernel_rfl)
                have h1 : v 19 = .int .i64 (a : Int) := hd 1 (by kernel_rfl)
                refine step_list fun K hK => ?_
                simp only [fill_lit, fillL, Act.put, List.setIfInBounds_toArray, List.set_cons_zero, List.set_cons_succ, Nat.reduceAdd] at hK ⊢
                rw [h0, h1] at hK ⊢
                clear hd h0 h1
                go_wp2
                exact ⟨⟨⟨nd, rfl⟩⟩, trivial, congrArg Value.bool (decide_eq_true (by omega))⟩
              · intro v W hb hd
                obtain ⟨⟨nd, rfl⟩⟩ := hb
                have h2 : v 20 = .bool true := hd 2 (by kernel_rfl)
                refine step_list fun K hK => ?_
                simp only [fill_lit, fillL, Act.put, List.setIfInBounds_toArray, List.set_cons_zero, List.set_cons_succ, Nat.reduceAdd] at hK ⊢
                rw [h2] at hK ⊢
                clear hd h2
                go_wp2
                exact ⟨⟨⟨nd, rfl⟩⟩, trivial, rfl⟩
              · intro v W hb hd
                obtain ⟨⟨nd, rfl⟩⟩ := hb
                have h3 : v 21 = .bool true := hd 3 (by kernel_rfl)
                refine step_list fun K hK => ?_
                simp only [fill_lit, fillL, Act.put, List.setIfInBounds_toArray, List.set_cons_zero, List.set_cons_succ, Nat.reduceAdd] at hK ⊢
                rw [h3] at hK ⊢
                clear hd h3
                go_wp2
                exact ⟨⟨⟨nd, rfl⟩⟩, trivial, rfl⟩
              · intro v W hb hd
                obtain ⟨⟨nd, rfl⟩⟩ := hb
                have h3 : v 21 = .bool true := hd 3 (by kernel_rfl)
                refine step_list fun K hK => ?_
                simp only [fill_lit, fillL, Act.put, List.setIfInBounds_toArray, List.set_cons_zero, List.set_cons_succ, Nat.reduceAdd] at hK ⊢
                rw [h3] at hK ⊢
                clear hd h3
                go_wp2
                exact ⟨⟨⟨nd, rfl⟩⟩, trivial, rfl⟩
              · intro v W hb hd
                obtain ⟨⟨nd, rfl⟩⟩ := hb
                have h3 : v 21 = .bool true := hd 3 (by kernel_rfl)
                refine step_list fun K hK => ?_
                simp only [fill_lit, fillL, Act.put, List.setIfInBounds_toArray, List.set_cons_zero, List.set_cons_succ, Nat.reduceAdd] at hK ⊢
                rw [h3] at hK ⊢
                clear hd h3
                go_wp2
                exact ⟨⟨⟨nd, rfl⟩⟩, trivial, rfl⟩
              · intro v W hb hd
                obtain ⟨⟨nd, rfl⟩⟩ := hb
                have h5 : v 23 = .slice (some ⟨g, 0, none⟩) n c := hd 5 (by kernel_rfl)
                have h6 : v 24 = .int .i64 ((p : Int) + 1) := hd 6 (by kernel_rfl)
                have h3 : v 21 = .bool true := hd 3 (by kernel_rfl)
                refine step_list fun K hK => ?_
                simp only [fill_lit, fillL, Act.put, List.setIfInBounds_toArray, List.set_cons_zero, List.set_cons_succ, Nat.reduceAdd] at hK ⊢
                rw [h5, h6, h3] at hK ⊢
                clear hd h5 h6 h3
                go_wp2
                exact ⟨⟨⟨nd, rfl⟩⟩, trivial, rfl⟩
              · intro v W hb hd
                obtain ⟨⟨nd, rfl⟩⟩ := hb
                have hu : (wi.drewN nd).cell? ⟨g, p + 1, none⟩ = some (.int .i64 u) := hcu
                have h7 : v 25 = .pointer (some ⟨g, p + 1, none⟩) := hd 7 (by kernel_rfl)
                have h3 : v 21 = .bool true := hd 3 (by kernel_rfl)
                refine step_list fun K hK => ?_
                simp only [fill_lit, fillL, Act.put, List.setIfInBounds_toArray, List.set_cons_zero, List.set_cons_succ, Nat.reduceAdd] at hK ⊢
                rw [h7, h3] at hK ⊢
                clear hd h7 h3
                go_wp2
                exact ⟨⟨⟨nd, rfl⟩⟩, trivial, rfl⟩
              · intro v W hb hd
                obtain ⟨⟨nd, rfl⟩⟩ := hb
                have h3 : v 21 = .bool true := hd 3 (by kernel_rfl)
                refine step_list fun K hK => ?_
                simp only [fill_lit, fillL, Act.put, List.setIfInBounds_toArray, List.set_cons_zero, List.set_cons_succ, Nat.reduceAdd] at hK ⊢
                rw [h3] at hK ⊢
                clear hd h3
                go_wp2
                exact ⟨⟨⟨nd, rfl⟩⟩, trivial, rfl⟩
              · intro v W hb hd
                obtain ⟨⟨nd, rfl⟩⟩ := hb
                have h3 : v 21 = .bool true := hd 3 (by kernel_rfl)
                refine step_list fun K hK => ?_
                simp only [fill_lit, fillL, Act.put, List.setIfInBounds_toArray, List.set_cons_zero, List.set_cons_succ, Nat.reduceAdd] at hK ⊢
                rw [h3] at hK ⊢
                clear hd h3
                go_wp2
                exact ⟨⟨⟨nd, rfl⟩⟩, trivial, rfl⟩
              · intro v W hb hd
                obtain ⟨⟨nd, rfl⟩⟩ := hb
                have h10 : v 28 = .int .i64 ((p : Int) + 1) := hd 10 (by kernel_rfl)
                have h3 : v 21 = .bool true := hd 3 (by kernel_rfl)
                refine step_list fun K hK => ?_
                simp only [fill_lit, fillL, Act.put, List.setIfInBounds_toArray, List.set_cons_zero, List.set_cons_succ, Nat.reduceAdd] at hK ⊢
                rw [h10, h3] at hK ⊢
                clear hd h10 h3
                go_wp2
                exact ⟨⟨⟨nd, rfl⟩⟩, trivial, rfl⟩
              · intro v W hb hd
                obtain ⟨⟨nd, rfl⟩⟩ := hb
                have h9 : v 27 = .slice (some ⟨g, 0, none⟩) n c := hd 9 (by kernel_rfl)
                have h11 : v 29 = .int .i64 (p : Int) := hd 11 (by kernel_rfl)
                have h3 : v 21 = .bool true := hd 3 (by kernel_rfl)
                refine step_list fun K hK => ?_
                simp only [fill_lit, fillL, Act.put, List.setIfInBounds_toArray, List.set_cons_zero, List.set_cons_succ, Nat.reduceAdd] at hK ⊢
                rw [h9, h11, h3] at hK ⊢
                clear hd h9 h11 h3
                go_wp2
                exact ⟨⟨⟨nd, rfl⟩⟩, trivial, rfl⟩
              · intro v W hb hd
                obtain ⟨⟨nd, rfl⟩⟩ := hb
                have hy : (wi.drewN nd).cell? ⟨g, p, none⟩ = some (.int .i64 y) := hcy
                have h12 : v 30 = .pointer (some ⟨g, p, none⟩) := hd 12 (by kernel_rfl)
                have h3 : v 21 = .bool true := hd 3 (by kernel_rfl)
                refine step_list fun K hK => ?_
                simp only [fill_lit, fillL, Act.put, List.setIfInBounds_toArray, List.set_cons_zero, List.set_cons_succ, Nat.reduceAdd] at hK ⊢
                rw [h12, h3] at hK ⊢
                clear hd h12 h3
                go_wp2
                exact ⟨⟨⟨nd, rfl⟩⟩, trivial, rfl⟩
              · intro v W hb hd
                obtain ⟨⟨nd, rfl⟩⟩ := hb
                have h4 : v 22 = .func (.func fid) fa lb := hd 4 (by kernel_rfl)
                have h8 : v 26 = .int .i64 u := hd 8 (by kernel_rfl)
                have h13 : v 31 = .int .i64 y := hd 13 (by kernel_rfl)
                have h3 : v 21 = .bool true := hd 3 (by kernel_rfl)
                refine step_list fun K hK => ?_
                simp only [fill_lit, fillL, Act.put, List.setIfInBounds_toArray, List.set_cons_zero, List.set_cons_succ, Nat.reduceAdd] at hK ⊢
                rw [h4, h8, h13, h3] at hK ⊢
                clear hd h4 h8 h13 h3
                go_wp2_with (fail)
                refine (HCmp.out.calls u y _ HDu.out HDy.out (HM.out.drawn ⟨⟨nd, rfl⟩⟩).keep (HM.out.drawn ⟨⟨nd, rfl⟩⟩).bel).mono ?_
                rintro e W' ⟨rfl, hb'⟩
                obtain ⟨⟨ne, rfl⟩⟩ := hb'
                go_wp2_with (fail)
                exact ⟨⟨⟨nd + ne, rfl⟩⟩, trivial, rfl⟩
              · intro v W hb hd
                obtain ⟨⟨nd, rfl⟩⟩ := hb
                have h14 : v 32 = .int .i64 (cf u y) := hd 14 (by kernel_rfl)
                have h3 : v 21 = .bool true := hd 3 (by kernel_rfl)
                refine step_list fun K hK => ?_
                simp only [fill_lit, fillL, Act.put, List.setIfInBounds_toArray, List.set_cons_zero, List.set_cons_succ, Nat.reduceAdd] at hK ⊢
                rw [h14, h3] at hK ⊢
                clear hd h14 h3
                go_wp2
                exact ⟨⟨⟨nd, rfl⟩⟩, trivial, rfl⟩
              · intro v W hb hd
                obtain ⟨⟨nd, rfl⟩⟩ := hb
                have h3 : v 21 = .bool true := hd 3 (by kernel_rfl)
                have h15 : v 33 = .bool (decide (cf u y < 0)) := hd 15 (by kernel_rfl)
                refine step_list fun K hK => ?_
                simp only [fill_lit, fillL, Act.put, List.setIfInBounds_toArray, List.set_cons_zero, List.set_cons_succ, Nat.reduceAdd] at hK ⊢
                rw [h3, h15] at hK ⊢
                clear hd h3 h15
                go_wp2
                exact ⟨⟨⟨nd, rfl⟩⟩, trivial, rfl⟩
            · intro v W hb hF
              have h16 : v 34 = .bool (decide (cf u y < 0)) := hF 16 (of_decide_eq_true (by kernel_rfl))
              simp only [fill_lit, fillL, Nat.reduceAdd]
              rw [h16]
              clear hF h16
              go_wp2
              go_meet
              case rel => exact ⟨rfl, hb⟩
          case rest =>
            obtain ⟨rfl, hdr⟩ := hcut
            obtain ⟨⟨nd, rfl⟩⟩ := hdr
            have hcu2 : (wi.drewN nd).cell? ⟨g, p + 1, none⟩ = some (.int .i64 u) := hcu
            have hcy2 : (wi.drewN nd).cell? ⟨g, p, none⟩ = some (.int .i64 y) := hcy
            have hfu2 : (wi.drewN nd).frozen? ⟨g, p + 1, none⟩ = false := hfu
            have hfy2 : (wi.drewN nd).frozen? ⟨g, p, none⟩ = false := hfy
            have HM2 : Aside0 (DatM B g c w (wi.drewN nd) us) := ⟨HM.out.drawn ⟨⟨nd, rfl⟩⟩⟩
            clear hcu hcy hfu hfy HM
            generalize wi.drewN nd = wx at *
            cases hlt2 : ltOf cf u y with
            | true =>
              have HF : Aside0 (insIn (ltOf cf) a (p + 1) us = insIn (ltOf cf) a p (swp us p)) := ⟨by rw [HIn.out, if_pos ⟨hja, by rw [← HE.out.1, ← HE.out.2]; exact hlt2⟩]⟩
              clear hlt2
              have hwp : IntKind.i64.wrap (p : Int) = p := IntWalk.i64_in _ (by omega)
              have hi0 : (0 : Int) ≤ (p : Int) := by omega
              have hi1 : (p : Int) < (n : Int) := by omega
              have hi2 : (0 : Int) ≤ (p : Int) + 1 := by omega
              have hi3 : (p : Int) + 1 < (n : Int) := by omega
              have hpl : p + 1 < us.length := by have := HU.out.2.2.1; omega
              have HW : Aside0 (DatM B g c w ((wx.setCell ⟨g, p + 1, none⟩ (.int .i64 y)).setCell ⟨g, p, none⟩ (.int .i64 u)) (swp us p)) := ⟨by
                have h1 := (HM2.out.set HB.out (p + 1) (us.getD p 0) hpl).set HB.out p (us.getD (p + 1) 0) (by rw [List.length_set]; omega)
                unfold swp
                rw [HE.out.1, HE.out.2]
                exact h1⟩
              have HA : Aside0 (∀ x ∈ swp us p, D x) := ⟨swp_all HU.out.2.1 hpl⟩
              have hne : (⟨g, p + 1, none⟩ : Addr) ≠ ⟨g, p, none⟩ := by simp
              have hfy3 : (wx.setCell ⟨g, p + 1, none⟩ (.int .i64 y)).frozen? ⟨g, p, none⟩ = false := by simpa using hfy2
              have hcy3 : (wx.setCell ⟨g, p + 1, none⟩ (.int .i64 y)).cell? ⟨g, p, none⟩ = some (.int .i64 y) := (World.cell?_setCell_other wx _ _ _ hne).trans hcy2
              clear hpl hne
              go_wp2
              refine wp_region_gen [false, false, false, false, false, false, false, false, false, false, false, false, false, false, false, false, false, false, false, false, false, false, false, false, false, false, false, false, false, false, false, false, false, false, false, false, false, true, true, true, true, true, true, true, true, true, true, true, true, true, true, true, true] (by kernel_rfl) (by kernel_rfl) (Two wx (wx.setCell ⟨g, p + 1, none⟩ (.int .i64 y)) ((wx.setCell ⟨g, p + 1, none⟩ (.int .i64 y)).setCell ⟨g, p, none⟩ (.int .i64 u)) 15 17) (fun W W' => True) (fun iv xv _ => InsSw g n c p u y iv xv) (fun _ _ _ _ _ h => h) (Two.start ⟨⟨1, rfl⟩⟩) ?_ ?_
              · refine ⟨?_, ?_, ?_, ?_, ?_, ?_, ?_, ?_, ?_, ?_, ?_, ?_, ?_, ?_, ?_, ?_, ?_, ?_, trivial⟩
                · intro ℓ v W hb hl hd hu
                  refine step_list fun K hK => ?_
                  simp only [fill_lit, fillL, Act.put, List.setIfInBounds_toArray, List.set_cons_zero, List.set_cons_succ, Nat.reduceAdd] at hK ⊢
                  clear hd hu
                  go_wp2
                  exact ⟨hb.keep (by decide) (by decide), trivial, rfl⟩
                · intro ℓ v W hb hl hd hu
                  refine step_list fun K hK => ?_
                  simp only [fill_lit, fillL, Act.put, List.setIfInBounds_toArray, List.set_cons_zero, List.set_cons_succ, Nat.reduceAdd] at hK ⊢
                  clear hd hu
                  go_wp2
                  exact ⟨hb.keep (by decide) (by decide), trivial, rfl⟩
                · intro ℓ v W hb hl hd hu
                  refine step_list fun K hK => ?_
                  simp only [fill_lit, fillL, Act.put, List.setIfInBounds_toArray, List.set_cons_zero, List.set_cons_succ, Nat.reduceAdd] at hK ⊢
                  clear hd hu
                  go_wp2
                  exact ⟨hb.keep (by decide) (by decide), trivial, rfl⟩
                · intro ℓ v W hb hl hd hu
                  refine step_list fun K hK => ?_
                  simp only [fill_lit, fillL, Act.put, List.setIfInBounds_toArray, List.set_cons_zero, List.set_cons_succ, Nat.reduceAdd] at hK ⊢
                  clear hd hu
                  go_wp2
                  exact ⟨hb.keep (by decide) (by decide), trivial, rfl⟩
                · intro ℓ v W hb hl hd hu
                  have h3 : v 40 = .int .i64 ((p : Int) + 1) := (hd 3 (by kernel_rfl)).2
                  refine step_list fun K hK => ?_
                  simp only [fill_lit, fillL, Act.put, List.setIfInBounds_toArray, List.set_cons_zero, List.set_cons_succ, Nat.reduceAdd] at hK ⊢
                  rw [h3] at hK ⊢
                  clear hd hu h3
                  go_wp2
                  exact ⟨hb.keep (by decide) (by decide), trivial, rfl⟩
                · intro ℓ v W hb hl hd hu
                  refine step_list fun K hK => ?_
                  simp only [fill_lit, fillL, Act.put, List.setIfInBounds_toArray, List.set_cons_zero, List.set_cons_succ, Nat.reduceAdd] at hK ⊢
                  clear hd hu
                  go_wp2
                  exact ⟨hb.keep (by decide) (by decide), trivial, rfl⟩
                · intro ℓ v W hb hl hd hu
                  refine step_list fun K hK => ?_
                  simp only [fill_lit, fillL, Act.put, List.setIfInBounds_toArray, List.set_cons_zero, List.set_cons_succ, Nat.reduceAdd] at hK ⊢
                  clear hd hu
                  go_wp2
                  exact ⟨hb.keep (by decide) (by decide), trivial, rfl⟩
                · intro ℓ v W hb hl hd hu
                  have h6 : v 43 = .int .i64 ((p : Int) + 1) := (hd 6 (by kernel_rfl)).2
                  refine step_list fun K hK => ?_
                  simp only [fill_lit, fillL, Act.put, List.setIfInBounds_toArray, List.set_cons_zero, List.set_cons_succ, Nat.reduceAdd] at hK ⊢
                  rw [h6] at hK ⊢
                  clear hd hu h6
                  go_wp2
                  exact ⟨hb.keep (by decide) (by decide), trivial, rfl⟩
                · intro ℓ v W hb hl hd hu
                  have h5 : v 42 = .slice (some ⟨g, 0, none⟩) n c := (hd 5 (by kernel_rfl)).2
                  have h7 : v 44 = .int .i64 (p : Int) := (hd 7 (by kernel_rfl)).2
                  refine step_list fun K hK => ?_
                  simp only [fill_lit, fillL, Act.put, List.setIfInBounds_toArray, List.set_cons_zero, List.set_cons_succ, Nat.reduceAdd] at hK ⊢
                  rw [h5, h7] at hK ⊢
                  clear hd hu h5 h7
                  go_wp2
                  exact ⟨hb.keep (by decide) (by decide), trivial, rfl⟩
                · intro ℓ v W hb hl hd hu
                  obtain ⟨⟨nd, rfl⟩⟩ := hb.none_ (hu 15 (by kernel_rfl)) (hu 17 (by kernel_rfl))
                  have hld : (wx.drewN nd).cell? ⟨g, p, none⟩ = some (.int .i64 y) := hcy2
                  have h8 : v 45 = .pointer (some ⟨g, p, none⟩) := (hd 8 (by kernel_rfl)).2
                  refine step_list fun K hK => ?_
                  simp only [fill_lit, fillL, Act.put, List.setIfInBounds_toArray, List.set_cons_zero, List.set_cons_succ, Nat.reduceAdd] at hK ⊢
                  rw [h8] at hK ⊢
                  clear hd hu h8
                  go_wp2
                  exact ⟨hb.keep (by decide) (by decide), trivial, rfl⟩
                · intro ℓ v W hb hl hd hu
                  refine step_list fun K hK => ?_
                  simp only [fill_lit, fillL, Act.put, List.setIfInBounds_toArray, List.set_cons_zero, List.set_cons_succ, Nat.reduceAdd] at hK ⊢
                  clear hd hu
                  go_wp2
                  exact ⟨hb.keep (by decide) (by decide), trivial, rfl⟩
                · intro ℓ v W hb hl hd hu
                  refine step_list fun K hK => ?_
                  simp only [fill_lit, fillL, Act.put, List.setIfInBounds_toArray, List.set_cons_zero, List.set_cons_succ, Nat.reduceAdd] at hK ⊢
                  clear hd hu
                  go_wp2
                  exact ⟨hb.keep (by decide) (by decide), trivial, rfl⟩
                · intro ℓ v W hb hl hd hu
                  have h10 : v 47 = .slice (some ⟨g, 0, none⟩) n c := (hd 10 (by kernel_rfl)).2
                  have h11 : v 48 = .int .i64 ((p : Int) + 1) := (hd 11 (by kernel_rfl)).2
                  refine step_list fun K hK => ?_
                  simp only [fill_lit, fillL, Act.put, List.setIfInBounds_toArray, List.set_cons_zero, List.set_cons_succ, Nat.reduceAdd] at hK ⊢
                  rw [h10, h11] at hK ⊢
                  clear hd hu h10 h11
                  go_wp2
                  exact ⟨hb.keep (by decide) (by decide), trivial, rfl⟩
                · intro ℓ v W hb hl hd hu
                  obtain ⟨⟨nd, rfl⟩⟩ := hb.none_ (hu 15 (by kernel_rfl)) (hu 17 (by kernel_rfl))
                  have hld : (wx.drewN nd).cell? ⟨g, p + 1, none⟩ = some (.int .i64 u) := hcu2
                  have h12 : v 49 = .pointer (some ⟨g, p + 1, none⟩) := (hd 12 (by kernel_rfl)).2
                  refine step_list fun K hK => ?_
                  simp only [fill_lit, fillL, Act.put, List.setIfInBounds_toArray, List.set_cons_zero, List.set_cons_succ, Nat.reduceAdd] at hK ⊢
                  rw [h12] at hK ⊢
                  clear hd hu h12
                  go_wp2
                  exact ⟨hb.keep (by decide) (by decide), trivial, rfl⟩
                · intro ℓ v W hb hl hd hu
                  have h0 : v 37 = .slice (some ⟨g, 0, none⟩) n c := (hd 0 (by kernel_rfl)).2
                  have h1 : v 38 = .int .i64 ((p : Int) + 1) := (hd 1 (by kernel_rfl)).2
                  refine step_list fun K hK => ?_
                  simp only [fill_lit, fillL, Act.put, List.setIfInBounds_toArray, List.set_cons_zero, List.set_cons_succ, Nat.reduceAdd] at hK ⊢
                  rw [h0, h1] at hK ⊢
                  clear hd hu h0 h1
                  go_wp2
                  exact ⟨hb.keep (by decide) (by decide), trivial, rfl⟩
                · intro ℓ v W hb hl hd hu
                  obtain ⟨⟨nd, rfl⟩⟩ := hb.none_ hl (hu 17 (by kernel_rfl))
                  have hut := hu 17 (by kernel_rfl)
                  have hfz : (wx.drewN nd).frozen? ⟨g, p + 1, none⟩ = false := hfu2
                  have hcz : (wx.drewN nd).cell? ⟨g, p + 1, none⟩ = some (.int .i64 u) := hcu2
                  have h14 : v 51 = .pointer (some ⟨g, p + 1, none⟩) := (hd 14 (by kernel_rfl)).2
                  have h9 : v 46 = .int .i64 y := (hd 9 (by kernel_rfl)).2
                  refine step_list fun K hK => ?_
                  simp only [fill_lit, fillL, Act.put, List.setIfInBounds_toArray, List.set_cons_zero, List.set_cons_succ, Nat.reduceAdd] at hK ⊢
                  rw [h14, h9] at hK ⊢
                  clear hd hu h14 h9
                  go_wp2
                  exact hK undef _ ⟨Two.mk2 ⟨⟨nd, rfl⟩⟩ hut (by decide), trivial, trivial⟩
                · intro ℓ v W hb hl hd hu
                  have h2 : v 39 = .slice (some ⟨g, 0, none⟩) n c := (hd 2 (by kernel_rfl)).2
                  have h4 : v 41 = .int .i64 (p : Int) := (hd 4 (by kernel_rfl)).2
                  refine step_list fun K hK => ?_
                  simp only [fill_lit, fillL, Act.put, List.setIfInBounds_toArray, List.set_cons_zero, List.set_cons_succ, Nat.reduceAdd] at hK ⊢
                  rw [h2, h4] at hK ⊢
                  clear hd hu h2 h4
                  go_wp2
                  exact ⟨hb.keep (by decide) (by decide), trivial, rfl⟩
                · intro ℓ v W hb hl hd hu
                  obtain ⟨⟨nd, rfl⟩⟩ := hb.one_ (hd 15 (by kernel_rfl)).1 hl
                  have hfz : ((wx.setCell ⟨g, p + 1, none⟩ (.int .i64 y)).drewN nd).frozen? ⟨g, p, none⟩ = false := hfy3
                  have hcz : ((wx.setCell ⟨g, p + 1, none⟩ (.int .i64 y)).drewN nd).cell? ⟨g, p, none⟩ = some (.int .i64 y) := hcy3
                  have h16 : v 52 = .pointer (some ⟨g, p, none⟩) := (hd 16 (by kernel_rfl)).2
                  have h13 : v 50 = .int .i64 u := (hd 13 (by kernel_rfl)).2
                  refine step_list fun K hK => ?_
                  simp only [fill_lit, fillL, Act.put, List.setIfInBounds_toArray, List.set_cons_zero, List.set_cons_succ, Nat.reduceAdd] at hK ⊢
                  rw [h16, h13] at hK ⊢
                  clear hd hu h16 h13
                  go_wp2
                  exact hK undef _ ⟨Two.mk3 ⟨⟨nd, rfl⟩⟩, trivial, trivial⟩
              · intro ℓ v W hb hall hF
                obtain ⟨⟨nd, rfl⟩⟩ := hb.done_ (hall 17 (of_decide_eq_true (by kernel_rfl)))
                clear hF hall hb
                simp only [fill_lit, fillL, Nat.reduceAdd]
                have HW2 : Aside0 (DatM B g c w (((wx.setCell ⟨g, p + 1, none⟩ (.int .i64 y)).setCell ⟨g, p, none⟩ (.int .i64 u)).drewN nd) (swp us p)) := ⟨HW.out.drawn ⟨⟨nd, rfl⟩⟩⟩
                generalize (((wx.setCell ⟨g, p + 1, none⟩ (.int .i64 y)).setCell ⟨g, p, none⟩ (.int .i64 u)).drewN nd) = wz at *
                clear hcy3 hfy3 hcu2 hcy2 hfu2 hfy2
                go_wp2
                refine ⟨⟨p, by omega, by omega, rfl, ⟨swp us p, HW2.out, HA.out, by rw [swp_length]; exact HU.out.2.2.1, by rw [← HF.out]; exact HU.out.2.2.2⟩⟩, by simp [intOf]⟩
            | false =>
              have HF : Aside0 (insIn (ltOf cf) a (p + 1) us = us) := ⟨by rw [HIn.out, if_neg (by rw [← HE.out.1, ← HE.out.2, hlt2]; simp)]⟩
              clear hlt2
              go_wp2
              refine ⟨⟨m + 1, .inr (by omega), by go_num, ⟨by rw [HO.out, ← HU.out.2.2.2, HF.out]; exact HM2.out, by rw [HO.out, ← HU.out.2.2.2, HF.out]; exact HU.out.2.1⟩⟩, by simp [intOf]; omega⟩
        · obtain rfl : j = a := by omega
          have HM : Aside0 (DatM B g c w wi us) := ⟨HU.out.1⟩
          have HF := Aside0.mk (insIn_self (ltOf cf) j us)
          go_upto_region 4 with (fail)
          go_cut [34] from 18 to 34 (fun s34 wx => s34 = .bool false ∧ Drawn0 wi wx)
          case first =>
            refine wp_region_fin [false, false, false, false, false, false, false, false, false, false, false, false, false, false, false, false, false, false, true, true, true, true, true, true, true, true, true, true, true, true, true, true, true, true, true] (by kernel_rfl) (by kernel_rfl) (fun W => Drawn0 wi W) (fun W W' => True) (fun iv xv _ => InsOff j j iv xv) (fun _ _ _ _ _ _ h => h) ⟨⟨1, rfl⟩⟩ ?_ ?_
            · refine ⟨?_, ?_, ?_, ?_, ?_, ?_, ?_, ?_, ?_, ?_, ?_, ?_, ?_, ?_, ?_, ?_, ?_, trivial⟩
              · intro v W hb hd
                obtain ⟨⟨nd, rfl⟩⟩ := hb
                refine step_list fun K hK => ?_
                simp only [fill_lit, fillL, Act.put, List.setIfInBounds_toArray, List.set_cons_zero, List.set_cons_succ, Nat.reduceAdd] at hK ⊢
                clear hd
                go_wp2
                exact ⟨⟨⟨nd, rfl⟩⟩, trivial, rfl⟩
              · intro v W hb hd
                obtain ⟨⟨nd, rfl⟩⟩ := hb
                refine step_list fun K hK => ?_
                simp only [fill_lit, fillL, Act.put, List.setIfInBounds_toArray, List.set_cons_zero, List.set_cons_succ, Nat.reduceAdd] at hK ⊢
                clear hd
                go_wp2
                exact ⟨⟨⟨nd, rfl⟩⟩, trivial, rfl⟩
              · intro v W hb hd
                obtain ⟨⟨nd, rfl⟩⟩ := hb
                have h0 : v 18 = .int .i64 (j : Int) := hd 0 (by kernel_rfl)
                have h1 : v 19 = .int .i64 (j : Int) := hd 1 (by kernel_rfl)
                refine step_list fun K hK => ?_
                simp only [fill_lit, fillL, Act.put, List.setIfInBounds_toArray, List.set_cons_zero, List.set_cons_succ, Nat.reduceAdd] at hK ⊢
                rw [h0, h1] at hK ⊢
                clear hd h0 h1
                go_wp2
                exact ⟨⟨⟨nd, rfl⟩⟩, trivial, rfl⟩
              · intro v W hb hd
                obtain ⟨⟨nd, rfl⟩⟩ := hb
                have h2 : v 20 = .bool false := hd 2 (by kernel_rfl)
                refine step_list fun K hK => ?_
                simp only [fill_lit, fillL, Act.put, List.setIfInBounds_toArray, List.set_cons_zero, List.set_cons_succ, Nat.reduceAdd] at hK ⊢
                rw [h2] at hK ⊢
                clear hd h2
                go_wp2
                exact ⟨⟨⟨nd, rfl⟩⟩, trivial, rfl⟩
              · intro v W hb hd
                obtain ⟨⟨nd, rfl⟩⟩ := hb
                have h3 : v 21 = .bool false := hd 3 (by kernel_rfl)
                refine step_list fun K hK => ?_
                simp only [fill_lit, fillL, Act.put, List.setIfInBounds_toArray, List.set_cons_zero, List.set_cons_succ, Nat.reduceAdd] at hK ⊢
                rw [h3] at hK ⊢
                clear hd h3
                go_wp2
                exact ⟨⟨⟨nd, rfl⟩⟩, trivial, rfl⟩
              · intro v W hb hd
                obtain ⟨⟨nd, rfl⟩⟩ := hb
                have h3 : v 21 = .bool false := hd 3 (by kernel_rfl)
                refine step_list fun K hK => ?_
                simp only [fill_lit, fillL, Act.put, List.setIfInBounds_toArray, List.set_cons_zero, List.set_cons_succ, Nat.reduceAdd] at hK ⊢
                rw [h3] at hK ⊢
                clear hd h3
                go_wp2
                exact ⟨⟨⟨nd, rfl⟩⟩, trivial, rfl⟩
              · intro v W hb hd
                obtain ⟨⟨nd, rfl⟩⟩ := hb
                have h3 : v 21 = .bool false := hd 3 (by kernel_rfl)
                refine step_list fun K hK => ?_
                simp only [fill_lit, fillL, Act.put, List.setIfInBounds_toArray, List.set_cons_zero, List.set_cons_succ, Nat.reduceAdd] at hK ⊢
                rw [h3] at hK ⊢
                clear hd h3
                go_wp2
                exact ⟨⟨⟨nd, rfl⟩⟩, trivial, rfl⟩
              · intro v W hb hd
                obtain ⟨⟨nd, rfl⟩⟩ := hb
                have h5 : v 23 = undef := hd 5 (by kernel_rfl)
                have h6 : v 24 = undef := hd 6 (by kernel_rfl)
                have h3 : v 21 = .bool false := hd 3 (by kernel_rfl)
                refine step_list fun K hK => ?_
                simp only [fill_lit, fillL, Act.put, List.setIfInBounds_toArray, List.set_cons_zero, List.set_cons_succ, Nat.reduceAdd] at hK ⊢
                rw [h5, h6, h3] at hK ⊢
                clear hd h5 h6 h3
                go_wp2
                exact ⟨⟨⟨nd, rfl⟩⟩, trivial, rfl⟩
              · intro v W hb hd
                obtain ⟨⟨nd, rfl⟩⟩ := hb
                have h7 : v 25 = undef := hd 7 (by kernel_rfl)
                have h3 : v 21 = .bool false := hd 3 (by kernel_rfl)
                refine step_list fun K hK => ?_
                simp only [fill_lit, fillL, Act.put, List.setIfInBounds_toArray, List.set_cons_zero, List.set_cons_succ, Nat.reduceAdd] at hK ⊢
                rw [h7, h3] at hK ⊢
                clear hd h7 h3
                go_wp2
                exact ⟨⟨⟨nd, rfl⟩⟩, trivial, rfl⟩
              · intro v W hb hd
                obtain ⟨⟨nd, rfl⟩⟩ := hb
                have h3 : v 21 = .bool false := hd 3 (by kernel_rfl)
                refine step_list fun K hK => ?_
                simp only [fill_lit, fillL, Act.put, List.setIfInBounds_toArray, List.set_cons_zero, List.set_cons_succ, Nat.reduceAdd] at hK ⊢
                rw [h3] at hK ⊢
                clear hd h3
                go_wp2
                exact ⟨⟨⟨nd, rfl⟩⟩, trivial, rfl⟩
              · intro v W hb hd
                obtain ⟨⟨nd, rfl⟩⟩ := hb
                have h3 : v 21 = .bool false := hd 3 (by kernel_rfl)
                refine step_list fun K hK => ?_
                simp only [fill_lit, fillL, Act.put, List.setIfInBounds_toArray, List.set_cons_zero, List.set_cons_succ, Nat.reduceAdd] at hK ⊢
                rw [h3] at hK ⊢
                clear hd h3
                go_wp2
                exact ⟨⟨⟨nd, rfl⟩⟩, trivial, rfl⟩
              · intro v W hb hd
                obtain ⟨⟨nd, rfl⟩⟩ := hb
                have h10 : v 28 = undef := hd 10 (by kernel_rfl)
                have h3 : v 21 = .bool false := hd 3 (by kernel_rfl)
                refine step_list fun K hK => ?_
                simp only [fill_lit, fillL, Act.put, List.setIfInBounds_toArray, List.set_cons_zero, List.set_cons_succ, Nat.reduceAdd] at hK ⊢
                rw [h10, h3] at hK ⊢
                clear hd h10 h3
                go_wp2
                exact ⟨⟨⟨nd, rfl⟩⟩, trivial, rfl⟩
              · intro v W hb hd
                obtain ⟨⟨nd, rfl⟩⟩ := hb
                have h9 : v 27 = undef := hd 9 (by kernel_rfl)
                have h11 : v 29 = undef := hd 11 (by kernel_rfl)
                have h3 : v 21 = .bool false := hd 3 (by kernel_rfl)
                refine step_list fun K hK => ?_
                simp only [fill_lit, fillL, Act.put, List.setIfInBounds_toArray, List.set_cons_zero, List.set_cons_succ, Nat.reduceAdd] at hK ⊢
                rw [h9, h11, h3] at hK ⊢
                clear hd h9 h11 h3
                go_wp2
                exact ⟨⟨⟨nd, rfl⟩⟩, trivial, rfl⟩
              · intro v W hb hd
                obtain ⟨⟨nd, rfl⟩⟩ := hb
                have h12 : v 30 = undef := hd 12 (by kernel_rfl)
                have h3 : v 21 = .bool false := hd 3 (by kernel_rfl)
                refine step_list fun K hK => ?_
                simp only [fill_lit, fillL, Act.put, List.setIfInBounds_toArray, List.set_cons_zero, List.set_cons_succ, Nat.reduceAdd] at hK ⊢
                rw [h12, h3] at hK ⊢
                clear hd h12 h3
                go_wp2
                exact ⟨⟨⟨nd, rfl⟩⟩, trivial, rfl⟩
              · intro v W hb hd
                obtain ⟨⟨nd, rfl⟩⟩ := hb
                have h4 : v 22 = undef := hd 4 (by kernel_rfl)
                have h8 : v 26 = undef := hd 8 (by kernel_rfl)
                have h13 : v 31 = undef := hd 13 (by kernel_rfl)
                have h3 : v 21 = .bool false := hd 3 (by kernel_rfl)
                refine step_list fun K hK => ?_
                simp only [fill_lit, fillL, Act.put, List.setIfInBounds_toArray, List.set_cons_zero, List.set_cons_succ, Nat.reduceAdd] at hK ⊢
                rw [h4, h8, h13, h3] at hK ⊢
                clear hd h4 h8 h13 h3
                go_wp2
                exact ⟨⟨⟨nd, rfl⟩⟩, trivial, rfl⟩
              · intro v W hb hd
                obtain ⟨⟨nd, rfl⟩⟩ := hb
                have h14 : v 32 = undef := hd 14 (by kernel_rfl)
                have h3 : v 21 = .bool false := hd 3 (by kernel_rfl)
                refine step_list fun K hK => ?_
                simp only [fill_lit, fillL, Act.put, List.setIfInBounds_toArray, List.set_cons_zero, List.set_cons_succ, Nat.reduceAdd] at hK ⊢
                rw [h14, h3] at hK ⊢
                clear hd h14 h3
                go_wp2
                exact ⟨⟨⟨nd, rfl⟩⟩, trivial, rfl⟩
              · intro v W hb hd
                obtain ⟨⟨nd, rfl⟩⟩ := hb
                have h3 : v 21 = .bool false := hd 3 (by kernel_rfl)
                have h15 : v 33 = undef := hd 15 (by kernel_rfl)
                refine step_list fun K hK => ?_
                simp only [fill_lit, fillL, Act.put, List.setIfInBounds_toArray, List.set_cons_zero, List.set_cons_succ, Nat.reduceAdd] at hK ⊢
                rw [h3, h15] at hK ⊢
                clear hd h3 h15
                go_wp2
                exact ⟨⟨⟨nd, rfl⟩⟩, trivial, rfl⟩
            · intro v W hb hF
              have h16 : v 34 = .bool false := hF 16 (of_decide_eq_true (by kernel_rfl))
              simp only [fill_lit, fillL, Nat.reduceAdd]
              rw [h16]
              clear hF h16
              go_wp2
              go_meet
              case rel => exact ⟨rfl, hb⟩
          case rest =>
            obtain ⟨rfl, hdr⟩ := hcut
            have HM2 := Aside0.mk (HM.out.drawn hdr)
            clear hdr
            go_wp2
            refine ⟨⟨m + 1, .inr (by omega), by go_num, ⟨by rw [HO.out, ← HU.out.2.2.2, HF.out]; exact HM2.out, by rw [HO.out, ← HU.out.2.2.2, HF.out]; exact HU.out.2.1⟩⟩, by simp [intOf]; omega⟩
    · have hltD : decide ((a : Int) + 1 + (m : Int) < (b : Int)) = false := by simp; omega
      have HF : Aside0 (DatM B g c w wr (insOut (ltOf cf) a (b - (a + 1)) xs)) := ⟨by
        rw [show b - (a + 1) = m by omega]
        exact HR.out.1⟩
      go_wp2
      go_end0
      exact ⟨rfl, HF.out⟩
end Go.Proofs.YtfameghednapkaaDoor.Sort
namespace Go.Proofs.YtfameghednapkaaDoor.Sort
open Go.RowKit Go.Proofs.YtfameghednapkaaDoorW.PrintWords Go.Proofs.YtfameghednapkaaDoorW.PrintLast Go.Proofs.YtfameghednapkaaDoorW.PrintMore Go.Proofs.YtfameghednapkaaDoor.K Go.Proofs.YtfameghednapkaaDoor.RI
set_option linter.unusedVariables false
set_option linter.unusedSimpArgs false
set_option maxHeartbeats 4000000 in
set_option maxRecDepth 100000 in
theorem stable_small_calls (fid : Nat) (fa lb : Array Value) (cf : Int → Int → Int) (D : Int → Prop) (g n c B : Nat) (xs : List Int) (w : World) (hCmp : Cmp fid fa lb cf D B g w) (hxs : Dat w g c xs) (hn : xs.length = n) (hD : ∀ x ∈ xs, D x) (hB : B ≤ g) (h20 : n < 20) :
    Calls Tryd.prog 74 #[.slice (some ⟨g, 0, none⟩) n c, .int .i64 (n : Int), .func (.func fid) fa lb] w fun e w' => e = .returned (.tuple #[]) ∧ DatM B g c w w' (insOut (ltOf cf) 0 (n - 1) xs) := by
  have HC := Aside0.mk (insertion_calls fid fa lb cf D g n c B 0 n xs w hCmp hxs hn hD hB (Nat.zero_le _) (Nat.le_refl _) (by omega))
  have hd1 : decide ((20 : Int) ≤ (n : Int)) = false := by simp; omega
  have hd2 : decide ((20 : Int) < (n : Int)) = false := by simp; omega
  clear hCmp hxs hn hD hB
  go_enter Tryd.func74, Tryd.ntmps74
  go_wp2_with (fail)
  refine wp_loop_rounds 1 ?_
  rw [rounds_succ]
  go_wp2_with (fail)
  refine HC.out.mono ?_
  rintro e w' ⟨rfl, hm⟩
  have HM := Aside0.mk hm
  clear hm
  go_wp2_with (fail)
  refine wp_loop_rounds 1 ?_
  rw [rounds_succ]
  go_wp2_with (fail)
  go_end0
  exact ⟨rfl, HM.out⟩
set_option maxHeartbeats 4000000 in
theorem sortstable_small_calls (fid : Nat) (fa lb : Array Value) (cf : Int → Int → Int) (D : Int → Prop) (g n c B : Nat) (xs : List Int) (w : World) (hCmp : Cmp fid fa lb cf D B g w) (hxs : Dat w g c xs) (hn : xs.length = n) (hD : ∀ x ∈ xs, D x) (hB : B ≤ g) (h20 : n < 20) :
    Calls Tryd.prog 66 #[.slice (some ⟨g, 0, none⟩) n c, .func (.func fid) fa lb] w fun e w' => e = .returned (.tuple #[]) ∧ DatM B g c w w' (insOut (ltOf cf) 0 (n - 1) xs) := by
  have HC := Aside0.mk (stable_small_calls fid fa lb cf D g n c B xs w hCmp hxs hn hD hB h20)
  clear hCmp hxs hn hD hB
  go_enter Tryd.func66, Tryd.ntmps66
  go_wp2_with (fail)
  refine HC.out.mono ?_
  rintro e w' ⟨rfl, hm⟩
  go_wp2_with (fail)
  go_end0
  exact ⟨rfl, hm⟩
end Go.Proofs.YtfameghednapkaaDoor.Sort
namespace Go.Proofs.YtfameghednapkaaDoor.CloneI
open Go.RowKit Go.Proofs.YtfameghednapkaaDoorW.PrintWords Go.Proofs.YtfameghednapkaaDoorW.PrintLast Go.Proofs.YtfameghednapkaaDoorW.PrintMore Go.Proofs.YtfameghednapkaaDoor.K
theorem info_i64 : (Tryd.prog.info? 3).map (fun i => (i.zero, i.size, i.bytes)) = some (some (.int .i64 0), 1, 8) := by kernel_rfl
set_option maxHeartbeats 400000 in
theorem clonei_calls (A : Option Addr) (n c : Nat) (l : List Int) (w : World) (hr0 : Kd.C (Kd.int .i64) w A n l) (hb : n ≤ 1000000) :
    Calls Tryd.prog 46 #[.slice A n c] w fun e w' => ∃ v0_ : Value, e = .returned (v0_) ∧ Kd.R (Kd.int .i64) 3 w' w.heap.size (fun _ => True) v0_ l ∧ Below w.heap.size w w' := by
  have HR0 := Aside0.mk (reads_int hr0)
  have HN := Aside0.mk (C_len hr0)
  have HL := Aside0.mk hb
  clear hr0 hb
  cases A with
  | none =>
    have h0 : l = [] := by
      have h1 := HR0.out
      have h2 := HN.out
      rcases Nat.eq_zero_or_pos n with h | h
      · exact List.eq_nil_of_length_eq_zero (by omega)
      · obtain ⟨_, h3, _⟩ := h1.2.2 h
        cases h3
    subst h0
    have hnil := fun (w : World) => Lib.run_eql_slice_nil (P := Tryd.prog) w 22 3 none n c 0 0 Tryd.underlying22
    go_enter Tryd.func46, Tryd.ntmps46
    go_wp2
    go_ret
    exact ⟨_, rfl, R_int (own_nil _ _ _ _), Below.refl _ _⟩
  | some a =>
    have hnil := fun (w : World) => Lib.run_eql_slice_nil (P := Tryd.prog) w 22 3 (some a) n c 0 0 Tryd.underlying22
    go_enter Tryd.func46, Tryd.ntmps46
    go_wp2_with (at_builtin; refine print_append_row (w0 := w) w.heap.size rfl (.tmp 5) (.tmp 6) 22 3 .i64 8 rfl Tryd.underlying22 info_i64 (by decide) (.slice (some ⟨w.heap.size, 0, none⟩) 0 0) [] l (some a) n c rfl rfl (own_lit w w.heap.size 3 .i64 [] (Nat.le_refl _) (by decide)) ((HR0.out).below (bel_alloc (Below.refl _ _) _)) (bel_alloc (Below.refl _ _) _) (bel_size (Below.refl _ _) _) (by have := HL.out; simp; omega) ?_; intro v1 w1 ho hb hg hat; have HO1 := Aside0.mk ho; have HB1 := Aside0.mk hb; clear ho hb hg hat)
    go_ret
    exact ⟨_, rfl, R_int (by simpa using HO1.out), HB1.out⟩
end Go.Proofs.YtfameghednapkaaDoor.CloneI
namespace Go.Proofs.YtfameghednapkaaDoor.Top
open Go.RowKit Go.Proofs.YtfameghednapkaaDoorW.PrintWords Go.Proofs.YtfameghednapkaaDoorW.PrintLast Go.Proofs.YtfameghednapkaaDoorW.PrintMore Go.Proofs.YtfameghednapkaaDoor.K Go.Proofs.YtfameghednapkaaDoor.RI Go.Proofs.YtfameghednapkaaDoor.Sort Go.Proofs.YtfameghednapkaaDoor.CloneI Go.Proofs.YtfameghednapkaaDoor.Ten Go.Proofs.YtfameghednapkaaDoor.Fixed
set_option linter.unusedVariables false
set_option linter.unusedSimpArgs false
theorem dat_reads {W : World} {g c : Nat} {xs : List Int} (h : Dat W g c xs) (hm : xs.length ≤ 9223372036854775807) : Kd.C (Kd.int .i64) W (some ⟨g, 0, none⟩) xs.length xs := by
  refine C_int ⟨rfl, hm, fun _ => ⟨_, rfl, fun j hj => ?_⟩⟩
  rw [add_plain]
  exact (h.at_ j hj).1
/-- A row of the call's own, as a block's cells. -/
theorem R_dat {W : World} {B : Nat} {v : Value} {xs : List Int} (h : Kd.R (Kd.int .i64) 3 W B (fun _ => True) v xs) (hp : 0 < xs.length) : ∃ g c, v = .slice (some ⟨g, 0, none⟩) xs.length c ∧ B ≤ g ∧ g < W.heap.size ∧ xs.length ≤ c ∧ c ≤ maxLen ∧ Dat W g c xs := by
  have hown := own_int h
  rcases hown.2 with ⟨rfl, h0⟩ | ⟨g, cap, cur, rfl, hb, hc, hle, hmx, hsz, hcur⟩
  · omega
  · have hlen : xs.length ≤ cur.size := by rw [hsz]; omega
    refine ⟨g, cap, rfl, hb, blk_lt hc, hle, hmx, ⟨fun j hj => ⟨?_, blk_frozen hc j⟩, ⟨cur, hc, by rw [hsz, Nat.mul_one]⟩⟩⟩
    refine (blk_cell hc j).trans ?_
    have h1 : (cur.toList.take (xs.length * 1))[j]? = (nums .i64 xs)[j]? := by rw [hcur]
    rw [List.getElem?_take_of_lt (by omega)] at h1
    rw [Array.getElem?_toList] at h1
    rw [h1, nums, List.getElem?_map, List.getElem?_eq_getElem hj, List.getD_eq_getElem?_getD, List.getElem?_eq_getElem hj]
    rfl
theorem dat_below {B g c N : Nat} {w w' : World} {xs : List Int} (h : DatM B g c w w' xs) (h1 : N ≤ w.heap.size) (h2 : N ≤ g) : Below N w w' :=
  ⟨h.bel.os, h.bel.tape, h.bel.output, h.keep.1, fun k hk => h.keep.2 k (by omega) (by omega) (by simp)⟩
/-- The answer of the sort at a comparison. -/
def Sorts (fid : Nat) (fa lb : Array Value) (cf : Int → Int → Int) (D : Int → Prop) (B : Nat) (xs ys : List Int) : Prop := ∀ (g c : Nat) (w : World), Cmp fid fa lb cf D B g w → Dat w g c xs → B ≤ g →
  Calls Tryd.prog 66 #[.slice (some ⟨g, 0, none⟩) xs.length c, .func (.func fid) fa lb] w fun e w' => e = .returned (.tuple #[]) ∧ DatM B g c w w' ys
set_option maxHeartbeats 4000000 in
set_option maxRecDepth 100000 in
theorem first_calls (fid : Nat) (fa lb : Array Value) (cf : Int → Int → Int) (D : Int → Prop) (B : Nat) (A : Option Addr) (c k : Nat) (xs ys : List Int) (w : World) (hC : Kd.C (Kd.int .i64) w A xs.length xs) (hp : 0 < xs.length) (hx : xs.length ≤ 1000000) (hk : k ≤ xs.length) (hy : ys.length = xs.length) (hS : Sorts fid fa lb cf D B xs ys) (hB : B ≤ w.heap.size)
    (hCmp : ∀ g W, w.heap.size ≤ g → Below w.heap.size w W → Cmp fid fa lb cf D B g W) :
    Calls Tryd.prog 43 #[.agg #[.slice A xs.length c, .func (.func fid) fa lb], .int .i64 (k : Int)] w fun e w' => ∃ A' c', e = .returned (.slice A' k c') ∧ Kd.Q (Kd.int .i64) 3 w' w.heap.size (fun _ => True) (.slice A' k c') (ys.take k) ∧ Below w.heap.size w w' := by
  have HC := Aside0.mk hC
  have HB1 : Aside0 (∀ o : Obj, Below w.heap.size w (w.alloc o)) := ⟨fun o => bel_alloc (Below.refl _ _) _⟩
  clear hC
  go_enter Tryd.func43, Tryd.ntmps43
  go_wp2_with (fail)
  refine (clonei_calls A xs.length c xs _ (Kd.C_below HC.out (HB1.out _)) hx).mono ?_
  rintro e w2 ⟨v0, rfl, hR, hb⟩
  obtain ⟨g, c0, rfl, hg, hlt, hle, hmx, hdat⟩ := R_dat hR hp
  have hbx : w2.heap[w.heap.size]? = some (.cells #[.slice A xs.length c, .func (.func fid) fa lb] 59 (0, 0)) := (hb.block _ (blk_lt (heap_alloc_new _ _))).trans (heap_alloc_new _ _)
  have hc1 := blk_cell hbx 1
  simp only [List.getElem?_toArray, List.getElem?_cons_succ, List.getElem?_cons_zero] at hc1
  have hg0 : w.heap.size ≤ g := by rw [World.size_alloc] at hg; omega
  have HBw : Aside0 (Below w.heap.size w w2) := ⟨below_step (HB1.out _) hb⟩
  have HSort := Aside0.mk (hS g c0 w2 (hCmp g w2 hg0 HBw.out) hdat (Nat.le_trans hB hg0))
  have HG := Aside0.mk hg0
  have HLe := Aside0.mk hle
  have HMx := Aside0.mk hmx
  clear hR hb hg hlt hdat hbx hg0 hS hCmp hle hmx
  go_wp2_with (fail)
  refine HSort.out.mono ?_
  rintro e w3 ⟨rfl, hm⟩
  have HM := Aside0.mk hm
  have hkc : k ≤ c0 := by have := HLe.out; omega
  clear hm hc1
  have hk0 : (0 : Int) ≤ (k : Int) := by omega
  have hk1 : (k : Int) ≤ (c0 : Int) := by omega
  go_wp2_with (fail)
  go_ret
  refine ⟨_, _, rfl, ?_, HBw.out.trans (dat_below HM.out HBw.out.size HG.out)⟩
  have h1 := R_int (HM.out.dat.own (by have := HLe.out; omega) HMx.out)
  exact Kd.Q_take (Kd.Q_lower (Kd.Q_of_R h1) HG.out) (by omega)
theorem first_n_calls (fid : Nat) (fa lb : Array Value) (cf : Int → Int → Int) (D : Int → Prop) (B : Nat) (A : Option Addr) (n c k : Nat) (xs ys : List Int) (w : World) (hn : xs.length = n) (hC : Kd.C (Kd.int .i64) w A n xs) (hp : 0 < n) (hx : n ≤ 1000000) (hk : k ≤ n) (hy : ys.length = n) (hS : Sorts fid fa lb cf D B xs ys) (hB : B ≤ w.heap.size)
    (hCmp : ∀ g W, w.heap.size ≤ g → Below w.heap.size w W → Cmp fid fa lb cf D B g W) :
    Calls Tryd.prog 43 #[.agg #[.slice A n c, .func (.func fid) fa lb], .int .i64 (k : Int)] w fun e w' => ∃ A' c', e = .returned (.slice A' k c') ∧ Kd.Q (Kd.int .i64) 3 w' w.heap.size (fun _ => True) (.slice A' k c') (ys.take k) ∧ Below w.heap.size w w' := by
  subst hn
  exact first_calls fid fa lb cf D B A c k xs ys w hC hp hx hk hy hS hB hCmp
/-- Top's comparison: by the numbers at two places. -/
def cfV (l : List Int) (x y : Int) : Int := l.getD y.toNat 0 - l.getD x.toNat 0
def Place (n : Nat) (x : Int) : Prop := 0 ≤ x ∧ x < n
def places (n : Nat) : List Int := (List.range n).map fun (i : Nat) => (i : Int)
theorem places_length (n : Nat) : (places n).length = n := by simp [places]
theorem places_succ (n : Nat) : places (n + 1) = places n ++ [(n : Int)] := by simp [places, List.range_succ]
theorem places_in (n : Nat) : ∀ x ∈ places n, Place n x := fun x hx => by
  obtain ⟨i, hi, rfl⟩ := List.mem_map.1 hx
  have := List.mem_range.1 hi
  exact ⟨by omega, by omega⟩
theorem all_getD {l : List Int} (h : l.all inR = true) (j : Nat) : -2147483648 ≤ l.getD j 0 ∧ l.getD j 0 ≤ 2147483647 := by
  rcases Nat.lt_or_ge j l.length with h1 | h1
  · rw [List.getD_eq_getElem?_getD, List.getElem?_eq_getElem h1]
    exact inR_true (List.all_eq_true.1 h _ (List.getElem_mem h1))
  · rw [List.getD_eq_getElem?_getD, List.getElem?_eq_none h1]
    decide
end Go.Proofs.YtfameghednapkaaDoor.Top
namespace Go.Proofs.YtfameghednapkaaDoor.Ten
open Go.RowKit Go.Proofs.YtfameghednapkaaDoorW.PrintWords Go.Proofs.YtfameghednapkaaDoorW.PrintLast Go.Proofs.YtfameghednapkaaDoorW.PrintMore Go.Proofs.YtfameghednapkaaDoor.K Go.Proofs.YtfameghednapkaaDoor.Fixed
set_option linter.unusedVariables false
set_option linter.unusedSimpArgs false
def maxF (l : List Int) : Nat → Int
  | 0 => l.getD 0 0
  | k + 1 => if maxF l k < l.getD (k + 1) 0 then l.getD (k + 1) 0 else maxF l k
def maxV (l : List Int) : Int := maxF l (l.length - 1)
theorem maxF_ge (l : List Int) : ∀ (k j : Nat), j ≤ k → l.getD j 0 ≤ maxF l k
  | 0, j, h => by obtain rfl : j = 0 := by omega
                  exact Int.le_refl _
  | k + 1, j, h => by
    unfold maxF
    by_cases e : j = k + 1
    · subst e
      split <;> omega
    · have := maxF_ge l k j (by omega)
      split <;> omega
theorem maxF_at (l : List Int) : ∀ k : Nat, ∃ j, j ≤ k ∧ maxF l k = l.getD j 0
  | 0 => ⟨0, Nat.le_refl _, rfl⟩
  | k + 1 => by
    obtain ⟨j, hj, h⟩ := maxF_at l k
    unfold maxF
    split
    · exact ⟨k + 1, Nat.le_refl _, rfl⟩
    · exact ⟨j, by omega, h⟩
set_option maxHeartbeats 4000000 in
set_option maxRecDepth 100000 in
theorem max_calls (A : Option Addr) (c : Nat) (l : List Int) (w : World) (hC : Kd.C (Kd.int .i64) w A l.length l) (h0 : 0 < l.length) :
    Calls Tryd.prog 44 #[.slice A l.length c] w fun e w' => e = .returned (.int .i64 (maxV l)) ∧ w = w' := by
  have HC := Aside0.mk hC
  have hm := hC.2.1
  clear hC
  obtain ⟨ad, rfl, hc0⟩ := int_at HC.out 0 h0
  have hc00 : w.cell? ad = some (.int .i64 (maxF l 0)) := by have h := hc0; cases ad; exact h
  have hd : decide ((l.length : Int) < 1) = false := by simp; omega
  have hd0 : decide ((0 : Int) < (l.length : Int)) = true := by simp; omega
  clear hc0
  obtain ⟨x0, hx0⟩ : ∃ x, x = maxF l 0 := ⟨_, rfl⟩
  have HX0 := Aside0.mk hx0
  rw [← hx0] at hc00
  clear hx0
  go_enter Tryd.func44, Tryd.ntmps44
  go_wp2_with (fail)
  go_loop [3, 4] (fun s i => ∃ p : Nat, 1 ≤ p ∧ p ≤ l.length ∧ i = .int .i64 (p : Int) ∧ s = .int .i64 (maxF l (p - 1))) (fun _ i => l.length - (intOf i).toNat)
  case atStart => exact ⟨1, Nat.le_refl _, h0, rfl, by rw [HX0.out]⟩
  case round =>
    obtain ⟨p, hp1, hk, rfl, rfl⟩ := hrel
    by_cases hlt : p < l.length
    · have hcr := int_cell HC.out (Below.refl _ _) p hlt
      clear hc00
      have HY : Aside0 (maxF l (p + 1 - 1) = if maxF l (p - 1) < l.getD p 0 then l.getD p 0 else maxF l (p - 1)) := ⟨by
        obtain ⟨q, rfl⟩ : ∃ q, p = q + 1 := ⟨p - 1, by omega⟩
        rfl⟩
      generalize l.getD p 0 = x at *
      generalize maxF l (p - 1) = m at *
      go_wp2
      refine ⟨⟨p + 1, by omega, by omega, by go_num, by rw [HY.out]⟩, by simp [intOf]; omega⟩
    · obtain rfl : p = l.length := by omega
      go_wp2
      go_ret
      exact ⟨rfl, rfl⟩
/-- The shares of numbers. -/
def expsV (l : List Int) : List Int := l.map fun n => expV (n - maxV l)
def softV (l : List Int) : List Int := (expsV l).map fun x => x * 65536 / sumV (expsV l)
theorem expsV_bd (l : List Int) : ∀ x ∈ expsV l, 0 ≤ x ∧ x ≤ 65536 := by
  intro x hx
  obtain ⟨n, _, rfl⟩ := List.mem_map.1 hx
  exact expV_bound _
theorem sumV_pos {l : List Int} (h : 0 < l.length) : 65536 ≤ sumV (expsV l) := by
  obtain ⟨j, hj, e⟩ := maxF_at l (l.length - 1)
  have hjl : j < l.length := by omega
  refine sumV_ge (fun x hx => (expsV_bd l x hx).1) ?_
  refine List.mem_map.2 ⟨l.getD j 0, ?_, ?_⟩
  · rw [List.getD_eq_getElem?_getD, List.getElem?_eq_getElem hjl]
    exact List.getElem_mem hjl
  · rw [show maxV l = l.getD j 0 from e, Int.sub_self]
    decide +kernel
theorem exps_snoc (l : List Int) (k : Nat) (h : k < l.length) : (expsV l).take (k + 1) = (expsV l).take k ++ [expV (l.getD k 0 - maxV l)] := by
  have h2 : k < (expsV l).length := by simpa [expsV] using h
  rw [List.take_succ_eq_append_getElem h2]
  simp [expsV, List.getD_eq_getElem?_getD, List.getElem?_eq_getElem h]
def mixed (a b : List Int) (k : Nat) : List Int := a.take k ++ b.drop k
theorem mixed_length {a b : List Int} {k : Nat} (h : a.length = b.length) (hk : k ≤ b.length) : (mixed a b k).length = b.length := by
  simp [mixed]; omega
theorem mixed_get {a b : List Int} {k : Nat} (h : a.length = b.length) (hk : k < b.length) : (mixed a b k).getD k 0 = b.getD k 0 := by
  have h1 : (a.take k).length = k := by simp; omega
  simp only [mixed, List.getD_eq_getElem?_getD]
  rw [List.getElem?_append_right (by omega), h1, Nat.sub_self, List.getElem?_drop]
  rfl
theorem mixed_set {a b : List Int} {k : Nat} (h : a.length = b.length) (hk : k < b.length) : (mixed a b k).set k (a.getD k 0) = mixed a b (k + 1) := by
  have h1 : (a.take k).length = k := by simp; omega
  have h2 : k < a.length := by omega
  simp only [mixed]
  rw [List.set_append_right _ _ (by omega), h1, Nat.sub_self, List.drop_eq_getElem_cons hk, List.set_cons_zero, List.take_succ_eq_append_getElem h2, List.getD_eq_getElem?_getD, List.getElem?_eq_getElem h2, List.append_assoc]
  rfl
theorem own_low {W : World} {base base' : Nat} {e : TypeId} {size : Nat} {v : Value} {k : Nat} {xs : List Value} (h : W.ownsRow base e size v k xs) (hb : base' ≤ base) : W.ownsRow base' e size v k xs :=
  ⟨h.1, h.2.elim .inl fun ⟨g, cap, cur, h1, h2, h3⟩ => .inr ⟨g, cap, cur, h1, Nat.le_trans hb h2, h3⟩⟩
theorem check_ok_in {l : List Int} (h : checkV l = 0) : l.all inR = true ∧ 0 < l.length ∧ l.length ≤ 512 := by
  unfold checkV at h
  split at h
  · cases h
  · rename_i h9
    split at h
    · rename_i h8; exact ⟨h8, by omega, by omega⟩
    · cases h
set_option maxHeartbeats 4000000 in
set_option maxRecDepth 100000 in
theorem softmax_bad_calls (A : Option Addr) (c : Nat) (l : List Int) (w : World) (hC : Kd.C (Kd.int .i64) w A l.length l) (h : checkV l ≠ 0) :
    Calls Tryd.prog 20 #[.slice A l.length c] w fun e w' => e = .returned (.tuple #[.slice none 0 0, .int .i64 (checkV l)]) ∧ Below w.heap.size w w' := by
  have HK := Aside0.mk (tcheck_calls A c l w hC)
  have hd : (checkV l != 0) = true := by simpa using h
  clear hC h
  generalize checkV l = z at *
  go_enter Tryd.func20, Tryd.ntmps20
  go_wp2_with (fail)
  refine HK.out.mono ?_
  rintro e w2 ⟨rfl, hb⟩
  have HB := Aside0.mk hb
  clear hb
  go_wp2_with (fail)
  go_ret2
  exact ⟨rfl, HB.out⟩
set_option maxHeartbeats 4000000 in
set_option maxRecDepth 100000 in
theorem softmax_ok_calls (A : Option Addr) (c : Nat) (l : List Int) (w : World) (hC : Kd.C (Kd.int .i64) w A l.length l) (hL : LaidAt w 0 stepsA) (h : checkV l = 0) :
    Calls Tryd.prog 20 #[.slice A l.length c] w fun e w' => ∃ A' c', e = .returned (.tuple #[.slice A' l.length c', .int .i64 0]) ∧ Kd.R (Kd.int .i64) 3 w' w.heap.size (fun _ => True) (.slice A' l.length c') (softV l) ∧ Below w.heap.size w w' := by
  have HC := Aside0.mk hC
  have HL := Aside0.mk hL
  have HK := Aside0.mk (tcheck_calls A c l w hC)
  rw [h] at HK
  have HIn := Aside0.mk (check_ok_in h)
  have HM : Aside0 (∀ W, Below w.heap.size w W → Calls Tryd.prog 44 #[.slice A l.length c] W fun e w' => e = .returned (.int .i64 (maxV l)) ∧ W = w') := ⟨fun W hb => max_calls A c l W (Kd.C_below HC.out hb) HIn.out.2.1⟩
  have HX : Aside0 (∀ k, k < l.length → ∀ W, Below w.heap.size w W → IntKind.i64.wrap (l.getD k 0 - maxV l) = l.getD k 0 - maxV l ∧ Calls Tryd.prog 45 #[.int .i64 (l.getD k 0 - maxV l)] W fun e w' => e = .returned (.tuple #[.int .i64 (expV (l.getD k 0 - maxV l)), .int .i64 0]) ∧ W = w') := ⟨fun k hk W hb => by
    have h1 := maxF_ge l (l.length - 1) k (by omega)
    have h2 := getD_r HIn.out.1 k
    obtain ⟨j, hj, e⟩ := maxF_at l (l.length - 1)
    have h3 := getD_r HIn.out.1 j
    have h4 : maxV l = l.getD j 0 := e
    have h5 : l.getD k 0 ≤ maxV l := h1
    exact ⟨by rw [IntKind.wrap_i64]; omega, Exp_calls _ W (HL.out.below hb) (by omega) (by omega)⟩⟩
  have hm := HC.out.2.1
  have HSB : Aside0 (∀ k : Nat, k ≤ l.length → 0 ≤ sumV ((expsV l).take k) ∧ sumV ((expsV l).take k) ≤ 65536 * (k : Int)) := ⟨fun k hk => by
    have h1 := sumV_bd (l := (expsV l).take k) fun x hx => expsV_bd l x (List.mem_of_mem_take hx)
    rw [List.length_take, Nat.min_eq_left (by simpa [expsV] using hk)] at h1
    exact h1⟩
  clear hC hL h
  go_enter Tryd.func20, Tryd.ntmps20
  go_wp2_with (fail)
  refine HK.out.mono ?_
  rintro e w2 ⟨rfl, hb⟩
  have HB := Aside0.mk hb
  clear hb
  go_wp2_with (fail)
  refine (HM.out _ HB.out).mono ?_
  rintro e w3 ⟨rfl, rfl⟩
  go_wp2_with (fail)
  go_loopw [6, 7, 23] (fun s o i wr => ∃ k : Nat, k ≤ l.length ∧ i = .int .i64 (k : Int) ∧ s = .int .i64 (sumV ((expsV l).take k)) ∧ Aside0 (wr.ownsRow w.heap.size 3 1 o ((expsV l).take k).length (nums .i64 ((expsV l).take k)) ∧ Below w.heap.size w wr)) (fun _ _ i _ => l.length - (intOf i).toNat)
  case atStart => exact ⟨0, Nat.zero_le _, rfl, rfl, ⟨own_nil _ _ _ _, HB.out⟩⟩
  case round =>
    obtain ⟨k, hk, rfl, rfl, HO⟩ := hrel
    have hl512 := HIn.out.2.2
    by_cases hlt : k < l.length
    · obtain ⟨ad, rfl, hc⟩ := int_at' HC.out HO.out.2 k hlt
      obtain ⟨hw1, hcall⟩ := HX.out k hlt wr HO.out.2
      obtain ⟨df, hdf⟩ : ∃ df, df = l.getD k 0 - maxV l := ⟨_, rfl⟩
      rw [← hdf] at hcall
      have HE := Aside0.mk hcall
      have HS := Aside0.mk (exps_snoc l k hlt)
      have HSn : Aside0 (sumV ((expsV l).take (k + 1)) = sumV ((expsV l).take k) + expV (l.getD k 0 - maxV l)) := ⟨by rw [HS.out, sumV_append]; simp [sumV]⟩
      have hw2 : IntKind.i64.wrap (sumV ((expsV l).take k) + expV (l.getD k 0 - maxV l)) = sumV ((expsV l).take (k + 1)) := by
        have := HSB.out (k + 1) (by omega)
        rw [HSn.out] at this ⊢
        rw [IntKind.wrap_i64]
        omega
      rw [← hdf] at hw1 hw2 HSn
      have HLen : Aside0 (((expsV l).take k).length = k) := ⟨by rw [List.length_take, Nat.min_eq_left (by simpa [expsV] using hk)]⟩
      clear hcall
      rw [← hdf] at HS
      have hw1 : IntKind.i64.wrap (l.getD k 0 - maxV l) = df := by rw [← hdf]; exact hw1
      clear hdf
      generalize expV df = ex at *
      obtain ⟨s1, hs1⟩ : ∃ s1, s1 = sumV ((expsV l).take (k + 1)) := ⟨_, rfl⟩
      rw [← hs1] at hw2 HSn
      have HS1 := Aside0.mk hs1
      clear hs1
      generalize sumV ((expsV l).take k) = s0 at *
      generalize l.getD k 0 = x at *
      generalize (expsV l).take k = es at *
      obtain ⟨A3, c3, rfl⟩ := own_slice HO.out.1
      generalize maxV l = mx at *
      go_wp2_with (fail)
      refine HE.out.mono ?_
      rintro e w4 ⟨rfl, rfl⟩
      go_wp2_with (at_builtin; refine print_append_num (w0 := w) w.heap.size rfl (.tmp 37) (.tmp 39) 22 3 .i64 8 rfl Tryd.underlying22 info_int (by decide) _ es _ rfl rfl HO.out.1 HO.out.2 HO.out.2.size ?_ ?_; rotate_left; intro v1 w1 hown hbw hgr hat; have HA := Aside0.mk (And.intro hown hbw); clear hown hbw hgr hat)
      · skip
        go_roundw
        case rel => exact ⟨k + 1, by omega, by go_num, by rw [HS1.out], ⟨by rw [HS.out]; exact HA.out.1, HA.out.2⟩⟩
        case measure => simp [intOf]; omega
      · have := HLen.out
        omega
    · obtain rfl : k = l.length := by omega
      have HEl : Aside0 ((expsV l).length = l.length) := ⟨by simp [expsV]⟩
      have h1 := HO.out.1
      rw [← HEl.out, List.take_length] at h1
      obtain ⟨g, c9, rfl, hg, hglt, hle, hmx9, hdat⟩ := Top.R_dat (R_int h1) (by rw [HEl.out]; exact HIn.out.2.1)
      have HG := Aside0.mk (And.intro hg (And.intro hle hmx9))
      have HD := Aside0.mk hdat
      have HSu : Aside0 (sumV ((expsV l).take l.length) = sumV (expsV l)) := ⟨by rw [← HEl.out, List.take_length]⟩
      have HS0 := Aside0.mk (sumV_pos HIn.out.2.1)
      have HS9 := HSB.out l.length (Nat.le_refl _)
      have HEb := Aside0.mk (expsV_bd l)
      have HV9 : Aside0 (softV l = (expsV l).map fun x => x * 65536 / sumV (expsV l)) := ⟨rfl⟩
      have HVl : Aside0 ((softV l).length = (expsV l).length) := ⟨by simp [softV]⟩
      clear h1 hg hle hmx9 hdat
      rw [HSu.out] at HS9 ⊢
      rw [HEl.out]
      have HB9 := Aside0.mk HO.out.2
      obtain ⟨so, hso⟩ : ∃ so, so = softV l := ⟨_, rfl⟩
      rw [← hso] at HV9 HVl
      have HSo := Aside0.mk hso
      clear hso
      clear HSu HSB HX HO
      generalize sumV (expsV l) = sm at *
      generalize expsV l = es at *
      have hs0 : 0 < sm := by have := HS0.out; omega
      go_wp2_with (fail)
      go_loopw [47] (fun i wq => ∃ k : Nat, k ≤ l.length ∧ i = .int .i64 (k : Int) ∧ Aside0 (Sort.Dat wq g c9 (mixed so es k) ∧ Below w.heap.size w wq)) (fun i _ => l.length - (intOf i).toNat)
      case atStart => exact ⟨0, Nat.zero_le _, rfl, ⟨HD.out, HB9.out⟩⟩
      case round =>
        obtain ⟨k, hk, rfl, HR⟩ := hrel
        by_cases hlt : k < l.length
        · have HL1 : Aside0 ((mixed so es k).length = l.length) := ⟨by rw [mixed_length HVl.out (by rw [HEl.out]; omega), HEl.out]⟩
          obtain ⟨hc, hf⟩ := HR.out.1.at_ k (by rw [HL1.out]; exact hlt)
          rw [mixed_get HVl.out (by rw [HEl.out]; exact hlt)] at hc
          have HMem : es.getD k 0 ∈ es := by
            rw [List.getD_eq_getElem?_getD, List.getElem?_eq_getElem (by rw [HEl.out]; exact hlt)]
            exact List.getElem_mem _
          have hxb := HEb.out _ HMem
          have HY : Aside0 (so.getD k 0 = es.getD k 0 * 65536 / sm) := ⟨by
            rw [HV9.out, List.getD_eq_getElem?_getD, List.getD_eq_getElem?_getD, List.getElem?_map, List.getElem?_eq_getElem (by rw [HEl.out]; exact hlt)]
            rfl⟩
          have HSet := Aside0.mk (mixed_set (a := so) (b := es) (k := k) HVl.out (by rw [HEl.out]; exact hlt))
          clear HMem
          generalize es.getD k 0 = x at *
          go_wp2
          refine ⟨⟨k + 1, by omega, by go_num, ⟨?_, HR.out.2.setCell HG.out.1 _⟩⟩, by simp [intOf]; omega⟩
          rw [← HSet.out, HY.out]
          exact HR.out.1.set k _ (by rw [HL1.out]; exact hlt)
        · obtain rfl : k = l.length := by omega
          go_wp2
          go_ret2
          have HF : mixed so es l.length = so := by rw [← HEl.out, mixed, List.drop_length, List.append_nil, ← HVl.out, List.take_length]
          have h1 := HR.out.1
          rw [HF] at h1
          have h2 := R_int (own_low (h1.own (by rw [HVl.out]; exact HG.out.2.1) HG.out.2.2) HG.out.1)
          rw [show so.length = l.length by rw [HVl.out, HEl.out]] at h2
          rw [← HSo.out]
          exact ⟨some ⟨g, 0, none⟩, c9, rfl, h2, HR.out.2⟩
end Go.Proofs.YtfameghednapkaaDoor.Ten
namespace Go.Proofs.YtfameghednapkaaDoor.Top
open Go.RowKit Go.Proofs.YtfameghednapkaaDoorW.PrintWords Go.Proofs.YtfameghednapkaaDoorW.PrintLast Go.Proofs.YtfameghednapkaaDoorW.PrintMore Go.Proofs.YtfameghednapkaaDoor.K Go.Proofs.YtfameghednapkaaDoor.RI Go.Proofs.YtfameghednapkaaDoor.Sort Go.Proofs.YtfameghednapkaaDoor.CloneI Go.Proofs.YtfameghednapkaaDoor.Ten Go.Proofs.YtfameghednapkaaDoor.Fixed
set_option linter.unusedVariables false
set_option linter.unusedSimpArgs false
def CmpF (ad : Addr) (n c : Nat) (i j : Nat) (x y : Int) (iv : Nat) (xv : Value) : Prop := match iv with
  | 0 => xv = .slice (some ad) n c
  | 1 => xv = .int .i64 (j : Int)
  | 2 => xv = .pointer (some (ad.add j))
  | 3 => xv = .int .i64 y
  | 4 => xv = .slice (some ad) n c
  | 5 => xv = .int .i64 (i : Int)
  | 6 => xv = .pointer (some (ad.add i))
  | 7 => xv = .int .i64 x
  | 8 => xv = .int .i64 (y - x)
  | 9 => xv = .int .i64 (y - x)
  | _ => True
set_option maxHeartbeats 4000000 in
set_option maxRecDepth 100000 in
theorem top1_calls (b : Nat) (A : Option Addr) (n c : Nat) (l : List Int) (i j : Nat) (w : World) (hb : w.heap[b]? = some (.cells #[.slice A n c] 22 (0, 0))) (hC : Kd.C (Kd.int .i64) w A n l) (hi : i < n) (hj : j < n) (hl : l.all inR = true) :
    Calls Tryd.prog 42 #[.int .i64 (i : Int), .int .i64 (j : Int), .pointer (some ⟨b, 0, none⟩)] w fun e w' => e = .returned (.int .i64 (cfV l i j)) ∧ Drawn0 w w' := by
  obtain ⟨ad, rfl, hcx⟩ := int_at hC i hi
  obtain ⟨ad', he, hcy⟩ := int_at hC j hj
  cases he
  have hc0 := blk_cell hb 0
  simp only [List.getElem?_toArray, List.getElem?_cons_zero] at hc0
  have hx := all_getD hl i
  have hy := all_getD hl j
  have HV : Aside0 (cfV l i j = l.getD j 0 - l.getD i 0) := ⟨by simp [cfV]⟩
  have hm := hC.2.1
  clear hC hb hl
  generalize l.getD i 0 = x at *
  generalize l.getD j 0 = y at *
  have hx0 := hx.1
  have hx1 := hx.2
  have hy0 := hy.1
  have hy1 := hy.2
  have hw : IntKind.i64.wrap (y - x) = y - x := by rw [IntKind.wrap_i64]; omega
  have hi0 : (0 : Int) ≤ (i : Int) := by omega
  have hi1 : (i : Int) < (n : Int) := by omega
  have hj0 : (0 : Int) ≤ (j : Int) := by omega
  have hj1 : (j : Int) < (n : Int) := by omega
  clear hx hy hx0 hx1 hy0 hy1
  go_enter Tryd.func42, Tryd.ntmps42
  go_upto_region 1 with (fail)
  refine wp_region_fin [false, false, false, false, false, true, true, true, true, true, true, true, true, true, true] (by kernel_rfl) (by kernel_rfl) (fun W => Drawn0 w W) (fun W W' => True) (fun iv xv _ => CmpF ad n c i j x y iv xv) (fun _ _ _ _ _ _ h => h) ⟨⟨1, rfl⟩⟩ ?_ ?_
  · refine ⟨?_, ?_, ?_, ?_, ?_, ?_, ?_, ?_, ?_, ?_, trivial⟩
    · intro v W hb hd
      obtain ⟨⟨nd, rfl⟩⟩ := hb
      have hbx : (w.drewN nd).cell? ⟨b, 0, none⟩ = some (.slice (some ad) n c) := hc0
      refine step_list fun K hK => ?_
      simp only [fill_lit, fillL, Act.put, List.setIfInBounds_toArray, List.set_cons_zero, List.set_cons_succ, Nat.reduceAdd] at hK ⊢
      clear hd
      go_wp2
      exact ⟨⟨⟨nd, rfl⟩⟩, trivial, rfl⟩
    · intro v W hb hd
      obtain ⟨⟨nd, rfl⟩⟩ := hb
      refine step_list fun K hK => ?_
      simp only [fill_lit, fillL, Act.put, List.setIfInBounds_toArray, List.set_cons_zero, List.set_cons_succ, Nat.reduceAdd] at hK ⊢
      clear hd
      go_wp2
      exact ⟨⟨⟨nd, rfl⟩⟩, trivial, rfl⟩
    · intro v W hb hd
      obtain ⟨⟨nd, rfl⟩⟩ := hb
      have h0 : v 6 = .slice (some ad) n c := hd 0 (by kernel_rfl)
      have h1 : v 7 = .int .i64 (j : Int) := hd 1 (by kernel_rfl)
      refine step_list fun K hK => ?_
      simp only [fill_lit, fillL, Act.put, List.setIfInBounds_toArray, List.set_cons_zero, List.set_cons_succ, Nat.reduceAdd] at hK ⊢
      rw [h0, h1] at hK ⊢
      clear hd h0 h1
      go_wp2
      exact ⟨⟨⟨nd, rfl⟩⟩, trivial, rfl⟩
    · intro v W hb hd
      obtain ⟨⟨nd, rfl⟩⟩ := hb
      have hy : (w.drewN nd).cell? (ad.add j) = some (.int .i64 y) := hcy
      have h2 : v 8 = .pointer (some (ad.add j)) := hd 2 (by kernel_rfl)
      refine step_list fun K hK => ?_
      simp only [fill_lit, fillL, Act.put, List.setIfInBounds_toArray, List.set_cons_zero, List.set_cons_succ, Nat.reduceAdd] at hK ⊢
      rw [h2] at hK ⊢
      clear hd h2
      go_wp2
      exact ⟨⟨⟨nd, rfl⟩⟩, trivial, rfl⟩
    · intro v W hb hd
      obtain ⟨⟨nd, rfl⟩⟩ := hb
      have hbx : (w.drewN nd).cell? ⟨b, 0, none⟩ = some (.slice (some ad) n c) := hc0
      refine step_list fun K hK => ?_
      simp only [fill_lit, fillL, Act.put, List.setIfInBounds_toArray, List.set_cons_zero, List.set_cons_succ, Nat.reduceAdd] at hK ⊢
      clear hd
      go_wp2
      exact ⟨⟨⟨nd, rfl⟩⟩, trivial, rfl⟩
    · intro v W hb hd
      obtain ⟨⟨nd, rfl⟩⟩ := hb
      refine step_list fun K hK => ?_
      simp only [fill_lit, fillL, Act.put, List.setIfInBounds_toArray, List.set_cons_zero, List.set_cons_succ, Nat.reduceAdd] at hK ⊢
      clear hd
      go_wp2
      exact ⟨⟨⟨nd, rfl⟩⟩, trivial, rfl⟩
    · intro v W hb hd
      obtain ⟨⟨nd, rfl⟩⟩ := hb
      have h4 : v 10 = .slice (some ad) n c := hd 4 (by kernel_rfl)
      have h5 : v 11 = .int .i64 (i : Int) := hd 5 (by kernel_rfl)
      refine step_list fun K hK => ?_
      simp only [fill_lit, fillL, Act.put, List.setIfInBounds_toArray, List.set_cons_zero, List.set_cons_succ, Nat.reduceAdd] at hK ⊢
      rw [h4, h5] at hK ⊢
      clear hd h4 h5
      go_wp2
      exact ⟨⟨⟨nd, rfl⟩⟩, trivial, rfl⟩
    · intro v W hb hd
      obtain ⟨⟨nd, rfl⟩⟩ := hb
      have hx : (w.drewN nd).cell? (ad.add i) = some (.int .i64 x) := hcx
      have h6 : v 12 = .pointer (some (ad.add i)) := hd 6 (by kernel_rfl)
      refine step_list fun K hK => ?_
      simp only [fill_lit, fillL, Act.put, List.setIfInBounds_toArray, List.set_cons_zero, List.set_cons_succ, Nat.reduceAdd] at hK ⊢
      rw [h6] at hK ⊢
      clear hd h6
      go_wp2
      exact ⟨⟨⟨nd, rfl⟩⟩, trivial, rfl⟩
    · intro v W hb hd
      obtain ⟨⟨nd, rfl⟩⟩ := hb
      have h3 : v 9 = .int .i64 y := hd 3 (by kernel_rfl)
      have h7 : v 13 = .int .i64 x := hd 7 (by kernel_rfl)
      refine step_list fun K hK => ?_
      simp only [fill_lit, fillL, Act.put, List.setIfInBounds_toArray, List.set_cons_zero, List.set_cons_succ, Nat.reduceAdd] at hK ⊢
      rw [h3, h7] at hK ⊢
      clear hd h3 h7
      go_wp2
      exact ⟨⟨⟨nd, rfl⟩⟩, trivial, rfl⟩
    · intro v W hb hd
      obtain ⟨⟨nd, rfl⟩⟩ := hb
      have h8 : v 14 = .int .i64 (y - x) := hd 8 (by kernel_rfl)
      refine step_list fun K hK => ?_
      simp only [fill_lit, fillL, Act.put, List.setIfInBounds_toArray, List.set_cons_zero, List.set_cons_succ, Nat.reduceAdd] at hK ⊢
      rw [h8] at hK ⊢
      clear hd h8
      go_wp2
      exact ⟨⟨⟨nd, rfl⟩⟩, trivial, rfl⟩
  · intro v W hb hF
    have h9 : v 5 = .int .i64 (y - x) := hF 9 (of_decide_eq_true (by kernel_rfl))
    simp only [fill_lit, fillL, Nat.reduceAdd]
    rw [h9]
    clear hF h9
    go_wp2
    go_ret
    exact ⟨congrArg (fun x => Ending.returned (Value.int .i64 x)) HV.out.symm, hb⟩
theorem top_cmp (l : List Int) (b : Nat) (A : Option Addr) (n c B : Nat) (w0 : World) (hb : w0.heap[b]? = some (.cells #[.slice A n c] 22 (0, 0))) (hC : Kd.C (Kd.int .i64) w0 A n l) (hl : l.all inR = true) (hB : B = w0.heap.size) (g : Nat) (W : World) (hW : Below B w0 W) :
    Cmp 42 #[] #[.pointer (some ⟨b, 0, none⟩)] (cfV l) (Place n) B g W :=
  ⟨fun args w => enters_ Tryd.func42 (by kernel_rfl) rfl args w, fun x y W2 hx hy _ hb2 => by
    subst hB
    have h2 := hW.trans hb2
    obtain ⟨i, rfl⟩ : ∃ i : Nat, x = i := ⟨x.toNat, by have := hx.1; omega⟩
    obtain ⟨j, rfl⟩ : ∃ j : Nat, y = j := ⟨y.toNat, by have := hy.1; omega⟩
    exact top1_calls b A n c l i j W2 ((h2.block _ (blk_lt hb)).trans hb) (Kd.C_below hC h2) (by have := hx.2; omega) (by have := hy.2; omega) hl⟩
theorem info_int : (Tryd.prog.info? 3).map (fun i => (i.zero, i.size, i.bytes)) = some (some (.int .i64 0), 1, 8) := by kernel_rfl
theorem own_high {W : World} {gr n : Nat} {e : TypeId} {v : Value} {xs : List Value} (h : W.ownsRow (gr + 1) e 1 v n xs) : some gr ≠ v.ownBlock := by
  rcases h.2 with ⟨rfl, _⟩ | ⟨g, cap, cur, rfl, hb, _⟩
  · simp [Value.ownBlock]
  · simp only [Value.ownBlock, ne_eq, Option.some.injEq]
    omega
/-- What Top has collected so far. -/
def Got (w : World) (gr k : Nat) (f : Value) (W : World) : Prop := ∃ v, W.heap[gr]? = some (.cells #[v, f] 59 (0, 0)) ∧ W.ownsRow (gr + 1) 3 1 v k (nums .i64 (places k)) ∧ Below w.heap.size w W ∧ gr + 1 ≤ W.heap.size
set_option maxHeartbeats 4000000 in
set_option maxRecDepth 100000 in
theorem top_bad_calls (A : Option Addr) (c : Nat) (l : List Int) (k : Int) (w : World) (hC : Kd.C (Kd.int .i64) w A l.length l) (h : checkV l ≠ 0) :
    Calls Tryd.prog 15 #[.slice A l.length c, .int .i64 k] w fun e w' => e = .returned (.tuple #[.slice none 0 0, .int .i64 (checkV l)]) ∧ Below w.heap.size w w' := by
  have HC := Aside0.mk hC
  have HB1 : Aside0 (∀ o : Obj, Below w.heap.size w (w.alloc o)) := ⟨fun o => bel_alloc (Below.refl _ _) _⟩
  have hne : (checkV l != 0) = true := by simpa using h
  have HK := Aside0.mk (tcheck_calls A c l (w.alloc (.cells #[.slice A l.length c] 22)) (Kd.C_below HC.out (HB1.out _)))
  clear hC h
  generalize checkV l = e at *
  go_enter Tryd.func15, Tryd.ntmps15
  go_wp2_with (fail)
  refine HK.out.mono ?_
  rintro e w2 ⟨rfl, hb⟩
  have HB := Aside0.mk (below_step (HB1.out _) hb)
  clear hb
  go_wp2_with (fail)
  go_ret2
  exact ⟨rfl, HB.out⟩
set_option maxHeartbeats 4000000 in
set_option maxRecDepth 100000 in
theorem top_range_calls (A : Option Addr) (c : Nat) (l : List Int) (k : Int) (w : World) (hC : Kd.C (Kd.int .i64) w A l.length l) (h : checkV l = 0) (hk : k < 1 ∨ (l.length : Int) < k) :
    Calls Tryd.prog 15 #[.slice A l.length c, .int .i64 k] w fun e w' => e = .returned (.tuple #[.slice none 0 0, .int .i64 10]) ∧ Below w.heap.size w w' := by
  have HC := Aside0.mk hC
  have HB1 : Aside0 (∀ o : Obj, Below w.heap.size w (w.alloc o)) := ⟨fun o => bel_alloc (Below.refl _ _) _⟩
  have hR : (w.alloc (.cells #[.slice A l.length c] 22)).heap[w.heap.size]? = some (.cells #[.slice A l.length c] 22 (0, 0)) := heap_alloc_new _ _
  have HR := Aside0.mk hR
  have HK := Aside0.mk (tcheck_calls A c l (w.alloc (.cells #[.slice A l.length c] 22)) (Kd.C_below HC.out (HB1.out _)))
  rw [h] at HK
  clear hC h hR
  by_cases h1 : k < 1
  · have hd : decide (k < 1) = true := by simpa using h1
    clear hk h1
    go_enter Tryd.func15, Tryd.ntmps15
    go_wp2_with (fail)
    refine HK.out.mono ?_
    rintro e w2 ⟨rfl, hb⟩
    have HB := Aside0.mk (below_step (HB1.out _) hb)
    clear hb
    go_wp2_with (fail)
    go_ret2
    exact ⟨rfl, HB.out⟩
  · have hd : decide (k < 1) = false := by simpa using h1
    have hd2 : decide ((l.length : Int) < k) = true := by simp; omega
    clear hk h1
    go_enter Tryd.func15, Tryd.ntmps15
    go_wp2_with (fail)
    refine HK.out.mono ?_
    rintro e w2 ⟨rfl, hb⟩
    have HB := Aside0.mk (below_step (HB1.out _) hb)
    have hc0 := blk_cell ((hb.block _ (blk_lt HR.out)).trans HR.out) 0
    simp only [List.getElem?_toArray, List.getElem?_cons_zero] at hc0
    clear hb
    go_wp2_with (fail)
    go_ret2
    exact ⟨rfl, HB.out⟩
set_option maxHeartbeats 4000000 in
set_option maxRecDepth 100000 in
theorem top_ok_calls (A : Option Addr) (c k : Nat) (l ys : List Int) (w : World) (hC : Kd.C (Kd.int .i64) w A l.length l) (h : checkV l = 0) (hk1 : 1 ≤ k) (hk2 : k ≤ l.length) (hys : ys.length = l.length)
    (hS : Sorts 42 #[] #[.pointer (some ⟨w.heap.size, 0, none⟩)] (cfV l) (Place l.length) (w.heap.size + 1) (places l.length) ys) :
    Calls Tryd.prog 15 #[.slice A l.length c, .int .i64 (k : Int)] w fun e w' => ∃ A' c', e = .returned (.tuple #[.slice A' k c', .int .i64 0]) ∧ Kd.Q (Kd.int .i64) 3 w' w.heap.size (fun _ => True) (.slice A' k c') (ys.take k) ∧ Below w.heap.size w w' := by
  have HC := Aside0.mk hC
  have HB1 : Aside0 (∀ o : Obj, Below w.heap.size w (w.alloc o)) := ⟨fun o => bel_alloc (Below.refl _ _) _⟩
  have hR : (w.alloc (.cells #[.slice A l.length c] 22)).heap[w.heap.size]? = some (.cells #[.slice A l.length c] 22 (0, 0)) := heap_alloc_new _ _
  have HR := Aside0.mk hR
  have HK := Aside0.mk (tcheck_calls A c l (w.alloc (.cells #[.slice A l.length c] 22)) (Kd.C_below HC.out (HB1.out _)))
  rw [h] at HK
  have HIn : Aside0 (l.all inR = true ∧ l.length ≤ 512) := ⟨by
    unfold checkV at h
    split at h
    · cases h
    · rename_i h9
      split at h
      · rename_i h8; exact ⟨h8, by omega⟩
      · cases h⟩
  have HS := Aside0.mk hS
  have HY := Aside0.mk hys
  have hd : decide ((k : Int) < 1) = false := by simp; omega
  have hd2 : decide ((l.length : Int) < (k : Int)) = false := by simp; omega
  have hd3 : decide (l.length < k) = false := by simp; omega
  clear hC h hR hS hys
  have HCw : Aside0 (Kd.C (Kd.int .i64) (w.alloc (.cells #[.slice A l.length c] 22)) A l.length l) := ⟨Kd.C_below HC.out (HB1.out _)⟩
  have HBw : Aside0 (Below w.heap.size w (w.alloc (.cells #[.slice A l.length c] 22))) := ⟨HB1.out _⟩
  have HSz : Aside0 ((w.alloc (.cells #[.slice A l.length c] 22)).heap.size = w.heap.size + 1) := ⟨World.size_alloc _ _⟩
  go_enter Tryd.func15, Tryd.ntmps15
  go_wp2_with (fail)
  generalize w.alloc (.cells #[.slice A l.length c] 22) = wb at *
  refine HK.out.mono ?_
  rintro e w2 ⟨rfl, hb⟩
  have HB2 := Aside0.mk hb
  have hc0 := blk_cell ((hb.block _ (blk_lt HR.out)).trans HR.out) 0
  simp only [List.getElem?_toArray, List.getElem?_cons_zero] at hc0
  clear hb
  go_upto_region 7 with (fail)
  have HG3 : Aside0 (Got w w2.heap.size 0 (.func (.func 42) #[] #[.pointer (some ⟨w.heap.size, 0, none⟩)]) (w2.alloc (.cells #[.slice none 0 0, .func (.func 42) #[] #[.pointer (some ⟨w.heap.size, 0, none⟩)]] 59))) := ⟨_, heap_alloc_new _ _, World.ownsRow_nil _ _ _ _, bel_alloc (below_step HBw.out HB2.out) _, by rw [World.size_alloc]; exact Nat.le_refl _⟩
  have HX3 : Aside0 (∀ W, Below w2.heap.size (w2.alloc (.cells #[.slice none 0 0, .func (.func 42) #[] #[.pointer (some ⟨w.heap.size, 0, none⟩)]] 59)) W → W.heap[w.heap.size]? = some (.cells #[.slice A l.length c] 22 (0, 0))) := ⟨fun W hb => by
    have h1 := (HB2.out.block _ (blk_lt HR.out)).trans HR.out
    exact (hb.block _ (blk_lt h1)).trans (blk_alloc h1 _)⟩
  have HGb : Aside0 (wb.heap.size ≤ w2.heap.size) := ⟨HB2.out.size⟩
  have HW3 : Aside0 (Below wb.heap.size wb (w2.alloc (.cells #[.slice none 0 0, .func (.func 42) #[] #[.pointer (some ⟨w.heap.size, 0, none⟩)]] 59))) := ⟨bel_alloc HB2.out _⟩
  have HGe : Aside0 (w.heap.size ≤ w2.heap.size) := ⟨Nat.le_trans HBw.out.size HB2.out.size⟩
  have hl512 := HIn.out.2
  clear hc0
  generalize w2.alloc (.cells #[.slice none 0 0, .func (.func 42) #[] #[.pointer (some ⟨w.heap.size, 0, none⟩)]] 59) = w3 at *
  generalize w2.heap.size = gr at *
  have hc0 := blk_cell (HX3.out w3 (Below.refl _ _)) 0
  simp only [List.getElem?_toArray, List.getElem?_cons_zero] at hc0
  go_wp2_with (fail)
  clear hc0
  go_loopw [26] (fun i wr => ∃ m : Nat, m ≤ l.length ∧ i = .int .i64 (m : Int) ∧ Aside0 (Got w gr m (.func (.func 42) #[] #[.pointer (some ⟨w.heap.size, 0, none⟩)]) wr ∧ Below gr w3 wr)) (fun i _ => l.length - (intOf i).toNat)
  case atStart => exact ⟨0, Nat.zero_le _, rfl, ⟨HG3.out, Below.refl _ _⟩⟩
  case round =>
    obtain ⟨m, hm, rfl, HI⟩ := hrel
    obtain ⟨v0, hv1, hv2, hv3, hv4⟩ := HI.out.1
    have HV := Aside0.mk (And.intro hv1 (And.intro hv2 (And.intro hv3 hv4)))
    have hc1 := blk_cell hv1 0
    have hf1 := blk_frozen hv1 0
    simp only [List.getElem?_toArray, List.getElem?_cons_zero] at hc1
    clear hv1 hv2 hv3 hv4
    by_cases hlt : m < l.length
    · go_wp2_with (at_builtin; refine print_append_num (w0 := wr) (W := wr) (gr + 1) rfl (.tmp 30) (.tmp 32) 22 3 .i64 8 rfl Tryd.underlying22 info_int (by decide) v0 (places m) m rfl rfl (by rw [places_length]; exact HV.out.2.1) (Below.refl _ _) HV.out.2.2.2 ?_ ?_; rotate_left; intro v1 w1 hown hbw hgr hat; rw [← places_succ, places_length] at hown; obtain ⟨A1, c1, rfl, _⟩ := own_slice hown; have HA := Aside0.mk (And.intro hown (And.intro hbw (And.intro hgr hat))); have hc2 := blk_cell (blk_grown HV.out.1 hgr (own_high HV.out.2.1)) 0; have hf2 := blk_frozen (blk_grown HV.out.1 hgr (own_high HV.out.2.1)) 0; simp only [List.getElem?_toArray, List.getElem?_cons_zero] at hc2; clear hown hbw hgr hat hc1 hf1)
      · have HG : Aside0 (Got w gr (m + 1) (.func (.func 42) #[] #[.pointer (some ⟨w.heap.size, 0, none⟩)]) (w1.setCell ⟨gr, 0, none⟩ (.slice A1 (m + 1) c1))) := ⟨by
          have h1 := blk_set (blk_grown HV.out.1 HA.out.2.2.1 (own_high HV.out.2.1)) 0 (.slice A1 (m + 1) c1)
          refine ⟨_, h1, own_setCell HA.out.1 (own_high HA.out.1) _, ?_, ?_⟩
          · exact (HV.out.2.2.1.trans (HA.out.2.1.mono (Nat.le_succ_of_le HGe.out))).setCell HGe.out _
          · rw [World.size_setCell]; have := HA.out.2.1.size; have := HV.out.2.2.2; omega⟩
        have HBx : Aside0 (Below gr w3 (w1.setCell ⟨gr, 0, none⟩ (.slice A1 (m + 1) c1))) := ⟨(HI.out.2.trans (HA.out.2.1.mono (Nat.le_succ _))).setCell (Nat.le_refl _) _⟩
        go_roundw
        case rel => exact ⟨m + 1, by omega, by go_num, ⟨HG.out, HBx.out⟩⟩
        case measure => simp [intOf]; omega
      · have := HIn.out.2
        rw [places_length]
        omega
    · obtain rfl : m = l.length := by omega
      obtain ⟨A0, c0, rfl⟩ := own_slice HV.out.2.1
      have hc2 := blk_cell HV.out.1 1
      simp only [List.getElem?_toArray, List.getElem?_cons_succ, List.getElem?_cons_zero] at hc2
      have HR0 : Aside0 (Kd.C (Kd.int .i64) wr A0 l.length (places l.length)) := ⟨by
        have h1 := HV.out.2.1
        rw [show l.length = (places l.length).length from (places_length _).symm] at h1
        have h2 := own_C (n := l.length) (by rw [places_length] at h1 ⊢; exact h1)
        rwa [places_length] at h2⟩
      have HWr : Aside0 (Below wb.heap.size wb wr) := ⟨HW3.out.trans (HI.out.2.mono HGb.out)⟩
      go_wp2_with (fail)
      refine (first_n_calls 42 #[] #[.pointer (some ⟨w.heap.size, 0, none⟩)] (cfV l) (Place l.length) (w.heap.size + 1) A0 l.length c0 k (places l.length) ys wr (places_length _) HR0.out (by omega) (by omega) hk2 HY.out HS.out (by rw [← HSz.out]; exact HWr.out.size)
        (fun g W hg hbW => top_cmp l w.heap.size A l.length c (w.heap.size + 1) wb HR.out HCw.out HIn.out.1 HSz.out.symm g W (by rw [← HSz.out]; exact HWr.out.trans (hbW.mono HWr.out.size)))).mono ?_
      rintro e w9 ⟨A', c', rfl, hC9, hb9⟩
      have HF := Aside0.mk (And.intro hC9 hb9)
      clear hC9 hb9 hc1 hc2 hf1
      go_wp2_with (fail)
      go_ret2
      exact ⟨_, _, rfl, Kd.Q_lower HF.out.1 HV.out.2.2.1.size, below_step HV.out.2.2.1 HF.out.2⟩
end Go.Proofs.YtfameghednapkaaDoor.Top
namespace Go.Proofs.YtfameghednapkaaDoor.Top
open Go.RowKit Go.Proofs.YtfameghednapkaaDoorW.PrintWords Go.Proofs.YtfameghednapkaaDoorW.PrintLast Go.Proofs.YtfameghednapkaaDoorW.PrintMore Go.Proofs.YtfameghednapkaaDoor.K Go.Proofs.YtfameghednapkaaDoor.RI Go.Proofs.YtfameghednapkaaDoor.Sort Go.Proofs.YtfameghednapkaaDoor.Ten Go.Proofs.YtfameghednapkaaDoor.Fixed
set_option linter.unusedVariables false
set_option linter.unusedSimpArgs false
theorem sorts_few (fid : Nat) (fa lb : Array Value) (cf : Int → Int → Int) (D : Int → Prop) (B : Nat) (xs : List Int) (h : xs.length < 20) (hD : ∀ x ∈ xs, D x) : Sorts fid fa lb cf D B xs (insOut (ltOf cf) 0 (xs.length - 1) xs) := fun g c w hc hd hB =>
  sortstable_small_calls fid fa lb cf D g xs.length c B xs w hc hd rfl hD hB h
def Ordd (l ys : List Int) : Prop := ys.length = l.length ∧ ∀ lb B, Sorts 42 #[] lb (cfV l) (Top.Place l.length) B (places l.length) ys
theorem ordd_few (l : List Int) (h : l.length < 20) : Ordd l (insOut (ltOf (cfV l)) 0 (l.length - 1) (places l.length)) := by
  refine ⟨by rw [insOut_length, places_length], fun lb B => ?_⟩
  have h1 := sorts_few 42 #[] lb (cfV l) (Top.Place l.length) B (places l.length) (by rw [places_length]; exact h) (places_in _)
  rwa [places_length] at h1
end Go.Proofs.YtfameghednapkaaDoor.Top
namespace Go.Proofs.YtfameghednapkaaDoor.Law
open Go.RowKit Go.Proofs.YtfameghednapkaaDoorW.PrintWords Go.Proofs.YtfameghednapkaaDoorW.PrintLast Go.Proofs.YtfameghednapkaaDoorW.PrintMore Go.Proofs.YtfameghednapkaaDoor.K
set_option linter.unusedVariables false
set_option maxHeartbeats 1000000 in
theorem ints_calls (A : Option Addr) (c : Nat) (xs : List Int) (A' : Option Addr) (c' : Nat) (ys : List Int) (w : World) (hx : Kd.C (Kd.int .i64) w A xs.length xs) (hy : Kd.C (Kd.int .i64) w A' ys.length ys) (b : Bool) (hb : decide (xs = ys) = b) :
    Calls Tryd.prog 19 #[.slice A xs.length c, .slice A' ys.length c'] w fun e w' => e = .returned (.bool b) ∧ Drawn0 w w' := by
  have HX := Aside0.mk hx
  have HY := Aside0.mk hy
  have HBb := Aside0.mk hb
  have hm := hx.2.1
  clear hx hy hb
  by_cases hl : xs.length = ys.length
  · have HL := Aside0.mk hl
    have e1 : ((xs.length : Int) == (ys.length : Int)) = true := by rw [beq_iff_eq]; omega
    have e2 : ((xs.length : Int) != (ys.length : Int)) = false := by rw [bne_eq_false_iff_eq]; omega
    have e3 : (xs.length == ys.length) = true := by rw [beq_iff_eq]; omega
    clear hl
    go_enter Tryd.func19, Tryd.ntmps19
    go_wp2
    go_loopw [5] (fun v5 w' => ∃ k : Nat, k ≤ xs.length ∧ v5 = .int .i64 k ∧ Aside0 (xs.take k = ys.take k) ∧ ∃ n, w' = w.drewN n) (fun v5 _ => xs.length - (intOf v5).toNat)
    case atStart => exact ⟨0, Nat.zero_le _, rfl, ⟨rfl⟩, 0, rfl⟩
    case round =>
      obtain ⟨k, hk, rfl, HE, nd, rfl⟩ := hrel
      clear e1 e2 e3
      by_cases hlt : k < xs.length
      · have hlt' : k < ys.length := by have := HL.out; omega
        obtain ⟨ad, rfl, hx⟩ := int_at HX.out k hlt
        obtain ⟨ad', rfl, hy⟩ := int_at HY.out k hlt'
        by_cases he : xs.getD k 0 = ys.getD k 0
        · have HE' := Aside0.mk (take_eq_step 0 k HE.out hlt hlt' he)
          rw [← he] at hy
          clear he
          generalize xs.getD k 0 = x at *
          go_wp2
          go_quiet (fail)
          go_wp2
          go_roundw
          case measure => simp [intOf]; omega
          case rel => exact ⟨k + 1, by omega, by go_num, HE', _, rfl⟩
        · have hbf : b = false := by
            rw [← HBb.out, decide_eq_false_iff_not]
            rintro h
            rw [h] at he
            exact he rfl
          subst hbf
          have e4 : (xs.getD k 0 == ys.getD k 0) = false := beq_eq_false_iff_ne.mpr he
          have e5 : (xs.getD k 0 != ys.getD k 0) = true := bne_iff_ne.mpr he
          clear he HBb HE
          generalize xs.getD k 0 = x at *
          generalize ys.getD k 0 = y at *
          go_wp2
          go_quiet (fail)
          go_wp2
          go_ret
          exact ⟨rfl, by first | exact ⟨_, rfl⟩ | exact ⟨_, World.drewN_drewN _ _ _⟩⟩
      · obtain rfl : k = xs.length := by omega
        have hbt : b = true := by
          have h1 := HE.out
          rw [List.take_length, HL.out, List.take_length] at h1
          rw [← HBb.out, h1]
          simp
        subst hbt
        go_wp2
        go_ret
        exact ⟨rfl, by first | exact ⟨_, rfl⟩ | exact ⟨_, World.drewN_drewN _ _ _⟩⟩
  · have hbf : b = false := by
      rw [← HBb.out, decide_eq_false_iff_not]
      rintro rfl
      exact hl rfl
    subst hbf
    have e1 : ((xs.length : Int) == (ys.length : Int)) = false := by rw [beq_eq_false_iff_ne]; omega
    have e2 : ((xs.length : Int) != (ys.length : Int)) = true := by rw [bne_iff_ne]; omega
    have e3 : (xs.length == ys.length) = false := by rw [beq_eq_false_iff_ne]; omega
    clear hl HBb
    go_enter Tryd.func19, Tryd.ntmps19
    go_wp2
    go_ret
    exact ⟨rfl, ⟨0, rfl⟩⟩
theorem ints_n (A : Option Addr) (n c : Nat) (xs : List Int) (A' : Option Addr) (n' c' : Nat) (ys : List Int) (w : World) (hx : Kd.C (Kd.int .i64) w A n xs) (hy : Kd.C (Kd.int .i64) w A' n' ys) (b : Bool) (hb : decide (xs = ys) = b) :
    Calls Tryd.prog 19 #[.slice A n c, .slice A' n' c'] w fun e w' => e = .returned (.bool b) ∧ Drawn0 w w' := by
  obtain rfl := hx.1
  obtain rfl := hy.1
  exact ints_calls A c xs A' c' ys w hx hy b hb
end Go.Proofs.YtfameghednapkaaDoor.Law
namespace Go.Proofs.YtfameghednapkaaDoor.Ten
open Go.RowKit Go.Proofs.YtfameghednapkaaDoorW.PrintWords Go.Proofs.YtfameghednapkaaDoorW.PrintLast Go.Proofs.YtfameghednapkaaDoorW.PrintMore Go.Proofs.YtfameghednapkaaDoor.K Go.Proofs.YtfameghednapkaaDoor.RI Go.Proofs.YtfameghednapkaaDoor.Sort Go.Proofs.YtfameghednapkaaDoor.Top Go.Proofs.YtfameghednapkaaDoor.Fixed
set_option linter.unusedVariables false
set_option linter.unusedSimpArgs false
theorem dot_ex : dotV [65536, 32768] [2, 4] = (4, 0) := by decide +kernel
theorem soft_ex : softV [7, 7] = [32768, 32768] := by decide +kernel
theorem chk77 : checkV [7, 7] = 0 := by decide
theorem chk3991 : checkV [3, 9, 9, 1] = 0 := by decide
theorem top_ex : (insOut (ltOf (cfV [3, 9, 9, 1])) 0 ([3, 9, 9, 1] : List Int).length.pred (places ([3, 9, 9, 1] : List Int).length)).take 3 = [1, 2, 0] := by decide +kernel
set_option maxHeartbeats 4000000 in
set_option maxRecDepth 100000 in
theorem awake07_calls (w : World) (hL : LaidAt w 0 stepsA) :
    Calls Tryd.prog 12 #[] w fun e w' => e = .returned (.bool true) ∧ Below w.heap.size w w' := by
  have HL := Aside0.mk hL
  clear hL
  go_enter Tryd.func12, Tryd.ntmps12
  go_wp2_with (fail)
  have HW1 : Aside0 (Below w.heap.size w ((w.alloc (.cells #[.int .i64 65536, .int .i64 32768] 3)).alloc (.cells #[.int .i64 2, .int .i64 4] 3))) := ⟨bel_alloc (bel_alloc (Below.refl _ _) _) _⟩
  have HC1 : Aside0 (Kd.C (Kd.int .i64) ((w.alloc (.cells #[.int .i64 65536, .int .i64 32768] 3)).alloc (.cells #[.int .i64 2, .int .i64 4] 3)) (some ⟨w.heap.size, 0, none⟩) 2 [65536, 32768]) := ⟨Kd.C_below (C_int (reads_lit w .i64 3 [65536, 32768] (by decide))) (bel_alloc (Below.refl _ _) _)⟩
  have HC2 : Aside0 (Kd.C (Kd.int .i64) ((w.alloc (.cells #[.int .i64 65536, .int .i64 32768] 3)).alloc (.cells #[.int .i64 2, .int .i64 4] 3)) (some ⟨w.heap.size + 1, 0, none⟩) 2 [2, 4]) := ⟨by
    have h := C_int (reads_lit (w.alloc (.cells #[.int .i64 65536, .int .i64 32768] 3)) .i64 3 [2, 4] (by decide))
    rwa [World.size_alloc] at h⟩
  generalize (w.alloc (.cells #[.int .i64 65536, .int .i64 32768] 3)).alloc (.cells #[.int .i64 2, .int .i64 4] 3) = w1 at *
  refine (dot_calls _ _ 2 2 [65536, 32768] [2, 4] w1 HC1.out HC2.out).mono ?_
  rw [dot_ex]
  rintro e w2 ⟨rfl, hb⟩
  have HB2 := Aside0.mk (below_step HW1.out hb)
  clear hb
  go_wp2_with (fail)
  have HB3 : Aside0 (Below w.heap.size w (w2.alloc (.cells #[.int .i64 7, .int .i64 7] 3))) := ⟨bel_alloc HB2.out _⟩
  have HC3 : Aside0 (Kd.C (Kd.int .i64) (w2.alloc (.cells #[.int .i64 7, .int .i64 7] 3)) (some ⟨w2.heap.size, 0, none⟩) 2 [7, 7]) := ⟨C_int (reads_lit w2 .i64 3 [7, 7] (by decide))⟩
  generalize w2.alloc (.cells #[.int .i64 7, .int .i64 7] 3) = w3 at *
  refine (softmax_ok_calls _ 2 [7, 7] w3 HC3.out (HL.out.below HB3.out) chk77).mono ?_
  rw [soft_ex]
  rintro e w4 ⟨A1, c1, rfl, hr, hb⟩
  have HR1 : Aside0 (Kd.C (Kd.int .i64) w4 A1 2 [32768, 32768]) := ⟨(Kd.R_reads' hr).2.2⟩
  have HB4 := Aside0.mk (below_step HB3.out hb)
  clear hr hb
  go_wp2_with (fail)
  have HB5 : Aside0 (Below w.heap.size w (w4.alloc (.cells #[.int .i64 3, .int .i64 9, .int .i64 9, .int .i64 1] 3))) := ⟨bel_alloc HB4.out _⟩
  have HC5 : Aside0 (Kd.C (Kd.int .i64) (w4.alloc (.cells #[.int .i64 3, .int .i64 9, .int .i64 9, .int .i64 1] 3)) (some ⟨w4.heap.size, 0, none⟩) 4 [3, 9, 9, 1]) := ⟨C_int (reads_lit w4 .i64 3 [3, 9, 9, 1] (by decide))⟩
  have HR5 : Aside0 (Kd.C (Kd.int .i64) (w4.alloc (.cells #[.int .i64 3, .int .i64 9, .int .i64 9, .int .i64 1] 3)) A1 2 [32768, 32768]) := ⟨Kd.C_below HR1.out (bel_alloc (Below.refl _ _) _)⟩
  generalize w4.alloc (.cells #[.int .i64 3, .int .i64 9, .int .i64 9, .int .i64 1] 3) = w5 at *
  have HO := ordd_few [3, 9, 9, 1] (by decide)
  refine (top_ok_calls _ 4 3 [3, 9, 9, 1] _ w5 HC5.out chk3991 (by decide) (by decide) HO.1 (HO.2 _ _)).mono ?_
  have hE : (insOut (ltOf (cfV [3, 9, 9, 1])) 0 (([3, 9, 9, 1] : List Int).length - 1) (places ([3, 9, 9, 1] : List Int).length)).take 3 = [1, 2, 0] := top_ex
  rw [hE]
  rintro e w6 ⟨A2, c2, rfl, hq, hb⟩
  have HR6 : Aside0 (Kd.C (Kd.int .i64) w6 A1 2 [32768, 32768]) := ⟨Kd.C_below HR5.out hb⟩
  have HQ6 : Aside0 (Kd.C (Kd.int .i64) w6 A2 3 [1, 2, 0]) := ⟨by
    obtain ⟨A3, c3, he, _, hC⟩ := Kd.Q_reads hq
    obtain rfl : A2 = A3 := by injection he
    exact hC⟩
  have HB6 := Aside0.mk (below_step HB5.out hb)
  clear hq hb HO hE
  go_wp2_with (fail)
  have HB7 : Aside0 (Below w.heap.size w (w6.alloc (.cells #[.int .i64 32768, .int .i64 32768] 3))) := ⟨bel_alloc HB6.out _⟩
  have HC7 : Aside0 (Kd.C (Kd.int .i64) (w6.alloc (.cells #[.int .i64 32768, .int .i64 32768] 3)) (some ⟨w6.heap.size, 0, none⟩) 2 [32768, 32768]) := ⟨C_int (reads_lit w6 .i64 3 [32768, 32768] (by decide))⟩
  have HR7 : Aside0 (Kd.C (Kd.int .i64) (w6.alloc (.cells #[.int .i64 32768, .int .i64 32768] 3)) A1 2 [32768, 32768]) := ⟨Kd.C_below HR6.out (bel_alloc (Below.refl _ _) _)⟩
  have HQ7 : Aside0 (Kd.C (Kd.int .i64) (w6.alloc (.cells #[.int .i64 32768, .int .i64 32768] 3)) A2 3 [1, 2, 0]) := ⟨Kd.C_below HQ6.out (bel_alloc (Below.refl _ _) _)⟩
  generalize w6.alloc (.cells #[.int .i64 32768, .int .i64 32768] 3) = w7 at *
  refine (Law.ints_n A1 2 c1 [32768, 32768] _ 2 2 [32768, 32768] w7 HR7.out HC7.out true (by decide)).mono ?_
  rintro e w8 ⟨rfl, hd⟩
  have HB8 := Aside0.mk (below_step HB7.out hd.below)
  have HQ8 := Aside0.mk (C_drawn HQ7.out hd)
  clear hd
  go_wp2_with (fail)
  have HB9 : Aside0 (Below w.heap.size w (w8.alloc (.cells #[.int .i64 1, .int .i64 2, .int .i64 0] 3))) := ⟨bel_alloc HB8.out _⟩
  have HC9 : Aside0 (Kd.C (Kd.int .i64) (w8.alloc (.cells #[.int .i64 1, .int .i64 2, .int .i64 0] 3)) (some ⟨w8.heap.size, 0, none⟩) 3 [1, 2, 0]) := ⟨C_int (reads_lit w8 .i64 3 [1, 2, 0] (by decide))⟩
  have HQ9 : Aside0 (Kd.C (Kd.int .i64) (w8.alloc (.cells #[.int .i64 1, .int .i64 2, .int .i64 0] 3)) A2 3 [1, 2, 0]) := ⟨Kd.C_below HQ8.out (bel_alloc (Below.refl _ _) _)⟩
  generalize w8.alloc (.cells #[.int .i64 1, .int .i64 2, .int .i64 0] 3) = w9 at *
  refine (Law.ints_n A2 3 c2 [1, 2, 0] _ 3 3 [1, 2, 0] w9 HQ9.out HC9.out true (by decide)).mono ?_
  rintro e wz ⟨rfl, hd⟩
  have HBz := Aside0.mk (below_step HB9.out hd.below)
  clear hd
  go_wp2_with (fail)
  go_ret
  exact ⟨rfl, HBz.out⟩
end Go.Proofs.YtfameghednapkaaDoor.Ten
