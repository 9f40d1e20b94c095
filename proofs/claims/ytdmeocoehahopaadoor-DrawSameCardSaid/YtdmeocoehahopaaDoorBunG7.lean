/- Texts put together: Sort6, Sort7, StabP, Stab, OrdA. -/
import Derived.Test.YtdmeocoehahopaaDoorBunG6
set_option linter.unusedVariables false
set_option linter.unusedSimpArgs false
namespace Go.Proofs.YtdmeocoehahopaaDoor.Sort
open Go.RowKit Go.Proofs.YtdmeocoehahopaaDoorW.PrintWords Go.Proofs.YtdmeocoehahopaaDoorW.PrintLast Go.Proofs.YtdmeocoehahopaaDoorW.PrintMore Go.Proofs.YtdmeocoehahopaaDoor.K Go.Proofs.YtdmeocoehahopaaDoor.RI
set_option linter.unusedVariables false
set_option linter.unusedSimpArgs false
set_option maxHeartbeats 16000000 in
set_option maxRecDepth 100000 in
theorem sym_high_calls {pr : Int → Int → Prop} (hS : Strict pr) (fid : Nat) (fa lb : Array Value) (cf : Int → Int → Int) (D : Int → Prop) (g n c B a m b : Nat) (xs : List Int) (w : World) (hCmp : Cmp fid fa lb cf D B g w) (hxs : Dat w g c xs) (hn : xs.length = n) (hD : ∀ x ∈ xs, D x) (hB : B ≤ g) (ham : a < m) (hmb : m < b) (hbn : b ≤ n) (hm9 : n ≤ 1000000)
    (hL : SortedOn pr (fun j => xs.getD j 0) a m) (hR : SortedOn pr (fun j => xs.getD j 0) m b) (hT : Tells2 pr cf (fun j => xs.getD j 0) a m b) (ih : SymOk pr fid fa lb cf D g n c B (b - a)) (h1 : m ≠ a + 1) (h2 : b ≠ m + 1) (mid : Nat) (hmid : mid = (a + b) / 2) (hmm : ¬ mid < m) :
    Calls Tryd.prog 75 #[.slice (some ⟨g, 0, none⟩) n c, .int .i64 (a : Int), .int .i64 (m : Int), .int .i64 (b : Int), .func (.func fid) fa lb] w fun e w' => e = .returned (.tuple #[]) ∧ MergeEnd pr B g c n a b (fun j => xs.getD j 0) w w' := by
  have hent := hCmp.enters
  have HCmp := Aside0.mk hCmp
  have HX := Aside0.mk (DatM.refl (B := B) hxs)
  have HD := Aside0.mk hD
  have HB := Aside0.mk hB
  have HN := Aside0.mk hn
  have HL := Aside0.mk hL
  have HR := Aside0.mk hR
  have HT := Aside0.mk hT
  have HS := Aside0.mk hS
  have HIh := Aside0.mk ih
  have HLim : Aside0 (a < m ∧ m < b ∧ b ≤ n ∧ n ≤ 1000000 ∧ xs.length = n) := ⟨by omega⟩
  obtain ⟨d, hd⟩ : ∃ d, d = m - a := ⟨_, rfl⟩
  have hwm : IntKind.i64.wrap ((m : Int) - (a : Int)) = (d : Int) := (w_i64 _ (by omega) (by omega)).trans (by omega)
  have hd1 : ((d : Int) == 1) = false := by rw [beq_eq_false_iff_ne]; omega
  have hd2 : (d == 1) = false := by rw [beq_eq_false_iff_ne]; omega
  obtain ⟨d', hd'⟩ : ∃ d, d = b - m := ⟨_, rfl⟩
  have hwm' : IntKind.i64.wrap ((b : Int) - (m : Int)) = (d' : Int) := (w_i64 _ (by omega) (by omega)).trans (by omega)
  have hd1' : ((d' : Int) == 1) = false := by rw [beq_eq_false_iff_ne]; omega
  have hd2' : (d' == 1) = false := by rw [beq_eq_false_iff_ne]; omega
  obtain ⟨ab, hab⟩ : ∃ t, t = a + b := ⟨_, rfl⟩
  have hv1 : IntKind.i64.wrap ((a : Int) + (b : Int)) = (ab : Int) := (w_i64 _ (by omega) (by omega)).trans (by omega)
  have hv2 : IntKind.u64.wrap (ab : Int) = (ab : Int) := (w_u64 _ (by omega) (by omega)).trans (by omega)
  have hv3 : (ab : Int) / 2 = (mid : Int) := by rw [hmid, hab]; omega
  have hv4 : IntKind.i64.wrap (mid : Int) = (mid : Int) := (w_i64 _ (by omega) (by omega)).trans (by omega)
  have hv5 : IntKind.u64.wrap (mid : Int) = (mid : Int) := (w_u64 _ (by omega) (by omega)).trans (by omega)
  obtain ⟨np, hnp⟩ : ∃ t, t = mid + m := ⟨_, rfl⟩
  have hv6 : IntKind.i64.wrap ((mid : Int) + (m : Int)) = (np : Int) := (w_i64 _ (by omega) (by omega)).trans (by omega)
  obtain ⟨p, hp⟩ : ∃ t, t = np - 1 := ⟨_, rfl⟩
  have hv7 : IntKind.i64.wrap ((np : Int) - 1) = (p : Int) := (w_i64 _ (by omega) (by omega)).trans (by omega)
  have HMid := Aside0.mk (And.intro hmid (And.intro hnp hp))
  have HLo : Aside0 (m ≤ mid) := ⟨by omega⟩
  have dmm : decide (mid < m) = false := by simpa using hmm
  have HOk : Aside0 (CutOk pr cf (fun j => xs.getD j 0) a m b a m np) := ⟨⟨hS, hL, hR, hT, by omega, by omega, fun c c1 c2 => by omega⟩⟩
  have HStart : Aside0 (CutInv pr (fun j => xs.getD j 0) a m np a m) := ⟨CutInv.start (by omega)⟩
  clear hCmp hxs hn hD hB ham hmb hL hR hT hS hbn hm9 hd hd' h1 h2 hab hnp hp hmid hmm ih
  go_enter Tryd.func75, Tryd.ntmps75
  go_wp2_with (fail)
  clear hv1 hv2 hv3 hv4 hv5 hv6 hv7 hwm hwm' hd1 hd2 hd1' hd2' dmm
  go_loopw [20, 21] (fun s t wr => ∃ i j : Nat, s = .int .i64 (i : Int) ∧ t = .int .i64 (j : Int) ∧ Aside0 (CutInv pr (fun j => xs.getD j 0) a m np i j ∧ Drawn0 w wr)) (fun s t _ => (intOf t).toNat - (intOf s).toNat)
  case atStart => exact ⟨_, _, rfl, rfl, ⟨HStart.out, ⟨⟨0, rfl⟩⟩⟩⟩
  case round =>
    obtain ⟨i, j, rfl, rfl, HI⟩ := hrel
    obtain ⟨wi, rfl⟩ : ∃ wi : World, wi = wr := ⟨_, rfl⟩
    have hb := HI.out.1
    have hb1 := hb.h1
    have hb2 := hb.h2
    have hb3 := hb.h3
    have hlim := HLim.out
    have HM : Aside0 (DatM B g c w wi xs) := ⟨HX.out.drawn HI.out.2⟩
    by_cases hlt : i < j
    · have dlt : decide (i < j) = true := by simpa using hlt
      have dlt2 : decide ((i : Int) < (j : Int)) = true := by simp; omega
      have hhi := HOk.out.hi_
      obtain ⟨sr, hsr⟩ : ∃ t, t = i + j := ⟨_, rfl⟩
      obtain ⟨h, hh⟩ : ∃ t, t = sr / 2 := ⟨_, rfl⟩
      have hh1 : i ≤ h ∧ h < j := by omega
      have hw1 : IntKind.i64.wrap ((i : Int) + (j : Int)) = (sr : Int) := by rw [hsr, IntKind.wrap_i64]; omega
      have hw2 : IntKind.u64.wrap (sr : Int) = (sr : Int) := by rw [IntKind.wrap_u64]; omega
      have hw3 : (sr : Int) / 2 = (h : Int) := by rw [hh]; omega
      have hw4 : IntKind.i64.wrap (h : Int) = (h : Int) := by rw [IntKind.wrap_i64]; omega
      have hw5 : IntKind.u64.wrap (h : Int) = (h : Int) := by rw [IntKind.wrap_u64]; omega
      have hw6 : IntKind.i64.wrap ((h : Int) + 1) = (h : Int) + 1 := by rw [IntKind.wrap_i64]; omega
      clear hsr hh
      have hin := HOk.out.in_ h (by omega) (by omega)
      have hmdd := HMid.out
      obtain ⟨ph, hph⟩ : ∃ t, t = np - 1 - h := ⟨_, rfl⟩
      have hwp : IntKind.i64.wrap ((p : Int) - (h : Int)) = (ph : Int) := (w_i64 _ (by omega) (by omega)).trans (by omega)
      have hc1 := (HM.out.dat.at_ ph (by have := HN.out; omega)).1
      have hc2 := (HM.out.dat.at_ h (by have := HN.out; omega)).1
      have HDx : Aside0 (D (xs.getD ph 0) ∧ D (xs.getD h 0)) := ⟨getD_all HD.out (by have := HN.out; omega), getD_all HD.out (by have := HN.out; omega)⟩
      have hnn : ph < n ∧ h < n := by have := HN.out; omega
      have hn1 := hnn.1
      have hn2 := hnn.2
      have hdc : ∀ x1 x2 : Int, x1 = xs.getD ph 0 → x2 = xs.getD h 0 → (cf x1 x2 < 0 → CutInv pr (fun j => xs.getD j 0) a m np i h) ∧ (¬ cf x1 x2 < 0 → CutInv pr (fun j => xs.getD j 0) a m np (h + 1) j) := fun x1 x2 h1 h2 => by
        subst h1 h2
        exact ⟨fun ht => HOk.out.down hb hh1.1 hh1.2 (by rw [hph] at ht; exact ht), fun ht => HOk.out.up hb hh1.1 hh1.2 (by rw [hph] at ht; exact ht)⟩
      have HDc := Aside0.mk hdc
      obtain ⟨x1, hx1⟩ : ∃ x, x = xs.getD ph 0 := ⟨_, rfl⟩
      obtain ⟨x2, hx2⟩ : ∃ x, x = xs.getD h 0 := ⟨_, rfl⟩
      rw [← hx1] at hc1 HDx
      rw [← hx2] at hc2 HDx
      have HG := Aside0.mk (And.intro hh1 (And.intro hb1 (And.intro hb2 hb3)))
      by_cases ht : cf x1 x2 < 0
      · have hdec : decide (cf x1 x2 < 0) = true := by simpa using ht
        have HNew := Aside0.mk ((HDc.out x1 x2 hx1 hx2).1 ht)
        clear hx1 hx2 hb hb1 hb2 hb3 hlim hlt hh1 hdc hnn ht hin hhi hmdd hph
        go_upto_region 35 with (fail)
        refine wp_region_fin [false, false, false, false, false, false, false, false, false, false, false, false, false, false, false, false, false, false, false, false, false, false, false, false, false, false, false, false, false, false, false, false, false, false, false, false, false, false, false, false, false, false, false, false, false, false, false, false, false, false, false, false, false, false, false, false, false, false, false, false, false, false, false, false, false, false, false, false, false, false, false, false, false, false, false, false, false, false, false, false, false, false, false, false, false, false, false, false, false, false, false, false, false, false, false, false, false, false, false, false, false, false, false, false, false, false, false, false, false, false, false, false, false, false, false, false, false, false, false, false, false, false, false, false, false, false, false, false, false, false, false, false, false, false, false, false, false, false, false, false, false, false, false, false, false, false, false, false, false, false, false, false, false, false, false, false, false, false, true, true, true, true, true, true, true, true, true, true, true, true, true, true] (by kernel_rfl) (by kernel_rfl) (fun W => Drawn0 wi W) (fun W W' => True) (fun iv xv _ => Sm35F fid fa lb g n c p h ph x1 x2 (cf x1 x2) iv xv) (fun _ _ _ _ _ _ h => h) ⟨⟨1, rfl⟩⟩ ?_ ?_
        · refine ⟨?_, ?_, ?_, ?_, ?_, ?_, ?_, ?_, ?_, ?_, ?_, ?_, ?_, ?_, trivial⟩
          · intro v W hb hd
            obtain ⟨⟨nd, rfl⟩⟩ := hb
            refine step_list fun K hK => ?_
            simp only [fill_lit, fillL, Act.put, List.setIfInBounds_toArray, List.set_cons_zero, List.set_cons_succ, Nat.reduceAdd] at hK ⊢
            clear hd
            go_wp2
            (first | exact ⟨⟨⟨nd, rfl⟩⟩, trivial, rfl⟩ | exact ⟨⟨⟨nd, rfl⟩⟩, rfl⟩ | exact ⟨⟨⟨nd, rfl⟩⟩, by show Value.bool _ = Value.bool _; simp [hdec]⟩)
          · intro v W hb hd
            obtain ⟨⟨nd, rfl⟩⟩ := hb
            refine step_list fun K hK => ?_
            simp only [fill_lit, fillL, Act.put, List.setIfInBounds_toArray, List.set_cons_zero, List.set_cons_succ, Nat.reduceAdd] at hK ⊢
            clear hd
            go_wp2
            (first | exact ⟨⟨⟨nd, rfl⟩⟩, trivial, rfl⟩ | exact ⟨⟨⟨nd, rfl⟩⟩, rfl⟩ | exact ⟨⟨⟨nd, rfl⟩⟩, by show Value.bool _ = Value.bool _; simp [hdec]⟩)
          · intro v W hb hd
            obtain ⟨⟨nd, rfl⟩⟩ := hb
            refine step_list fun K hK => ?_
            simp only [fill_lit, fillL, Act.put, List.setIfInBounds_toArray, List.set_cons_zero, List.set_cons_succ, Nat.reduceAdd] at hK ⊢
            clear hd
            go_wp2
            (first | exact ⟨⟨⟨nd, rfl⟩⟩, trivial, rfl⟩ | exact ⟨⟨⟨nd, rfl⟩⟩, rfl⟩ | exact ⟨⟨⟨nd, rfl⟩⟩, by show Value.bool _ = Value.bool _; simp [hdec]⟩)
          · intro v W hb hd
            obtain ⟨⟨nd, rfl⟩⟩ := hb
            refine step_list fun K hK => ?_
            simp only [fill_lit, fillL, Act.put, List.setIfInBounds_toArray, List.set_cons_zero, List.set_cons_succ, Nat.reduceAdd] at hK ⊢
            clear hd
            go_wp2
            (first | exact ⟨⟨⟨nd, rfl⟩⟩, trivial, rfl⟩ | exact ⟨⟨⟨nd, rfl⟩⟩, rfl⟩ | exact ⟨⟨⟨nd, rfl⟩⟩, by show Value.bool _ = Value.bool _; simp [hdec]⟩)
          · intro v W hb hd
            obtain ⟨⟨nd, rfl⟩⟩ := hb
            have h2 : v 160 = .int .i64 (p : Int) := hd 2 (by kernel_rfl)
            have h3 : v 161 = .int .i64 (h : Int) := hd 3 (by kernel_rfl)
            refine step_list fun K hK => ?_
            simp only [fill_lit, fillL, Act.put, List.setIfInBounds_toArray, List.set_cons_zero, List.set_cons_succ, Nat.reduceAdd] at hK ⊢
            rw [h2, h3] at hK ⊢
            clear hd h2 h3
            go_wp2
            (first | exact ⟨⟨⟨nd, rfl⟩⟩, trivial, rfl⟩ | exact ⟨⟨⟨nd, rfl⟩⟩, rfl⟩ | exact ⟨⟨⟨nd, rfl⟩⟩, by show Value.bool _ = Value.bool _; simp [hdec]⟩)
          · intro v W hb hd
            obtain ⟨⟨nd, rfl⟩⟩ := hb
            have h1 : v 159 = .slice (some ⟨g, 0, none⟩) n c := hd 1 (by kernel_rfl)
            have h4 : v 162 = .int .i64 (ph : Int) := hd 4 (by kernel_rfl)
            refine step_list fun K hK => ?_
            simp only [fill_lit, fillL, Act.put, List.setIfInBounds_toArray, List.set_cons_zero, List.set_cons_succ, Nat.reduceAdd] at hK ⊢
            rw [h1, h4] at hK ⊢
            clear hd h1 h4
            go_wp2
            (first | exact ⟨⟨⟨nd, rfl⟩⟩, trivial, rfl⟩ | exact ⟨⟨⟨nd, rfl⟩⟩, rfl⟩ | exact ⟨⟨⟨nd, rfl⟩⟩, by show Value.bool _ = Value.bool _; simp [hdec]⟩)
          · intro v W hb hd
            obtain ⟨⟨nd, rfl⟩⟩ := hb
            have hx1 : (wi.drewN nd).cell? ⟨g, ph, none⟩ = some (.int .i64 x1) := hc1
            have h5 : v 163 = .pointer (some ⟨g, ph, none⟩) := hd 5 (by kernel_rfl)
            refine step_list fun K hK => ?_
            simp only [fill_lit, fillL, Act.put, List.setIfInBounds_toArray, List.set_cons_zero, List.set_cons_succ, Nat.reduceAdd] at hK ⊢
            rw [h5] at hK ⊢
            clear hd h5
            go_wp2
            (first | exact ⟨⟨⟨nd, rfl⟩⟩, trivial, rfl⟩ | exact ⟨⟨⟨nd, rfl⟩⟩, rfl⟩ | exact ⟨⟨⟨nd, rfl⟩⟩, by show Value.bool _ = Value.bool _; simp [hdec]⟩)
          · intro v W hb hd
            obtain ⟨⟨nd, rfl⟩⟩ := hb
            refine step_list fun K hK => ?_
            simp only [fill_lit, fillL, Act.put, List.setIfInBounds_toArray, List.set_cons_zero, List.set_cons_succ, Nat.reduceAdd] at hK ⊢
            clear hd
            go_wp2
            (first | exact ⟨⟨⟨nd, rfl⟩⟩, trivial, rfl⟩ | exact ⟨⟨⟨nd, rfl⟩⟩, rfl⟩ | exact ⟨⟨⟨nd, rfl⟩⟩, by show Value.bool _ = Value.bool _; simp [hdec]⟩)
          · intro v W hb hd
            obtain ⟨⟨nd, rfl⟩⟩ := hb
            refine step_list fun K hK => ?_
            simp only [fill_lit, fillL, Act.put, List.setIfInBounds_toArray, List.set_cons_zero, List.set_cons_succ, Nat.reduceAdd] at hK ⊢
            clear hd
            go_wp2
            (first | exact ⟨⟨⟨nd, rfl⟩⟩, trivial, rfl⟩ | exact ⟨⟨⟨nd, rfl⟩⟩, rfl⟩ | exact ⟨⟨⟨nd, rfl⟩⟩, by show Value.bool _ = Value.bool _; simp [hdec]⟩)
          · intro v W hb hd
            obtain ⟨⟨nd, rfl⟩⟩ := hb
            have h7 : v 165 = .slice (some ⟨g, 0, none⟩) n c := hd 7 (by kernel_rfl)
            have h8 : v 166 = .int .i64 (h : Int) := hd 8 (by kernel_rfl)
            refine step_list fun K hK => ?_
            simp only [fill_lit, fillL, Act.put, List.setIfInBounds_toArray, List.set_cons_zero, List.set_cons_succ, Nat.reduceAdd] at hK ⊢
            rw [h7, h8] at hK ⊢
            clear hd h7 h8
            go_wp2
            (first | exact ⟨⟨⟨nd, rfl⟩⟩, trivial, rfl⟩ | exact ⟨⟨⟨nd, rfl⟩⟩, rfl⟩ | exact ⟨⟨⟨nd, rfl⟩⟩, by show Value.bool _ = Value.bool _; simp [hdec]⟩)
          · intro v W hb hd
            obtain ⟨⟨nd, rfl⟩⟩ := hb
            have hx2 : (wi.drewN nd).cell? ⟨g, h, none⟩ = some (.int .i64 x2) := hc2
            have h9 : v 167 = .pointer (some ⟨g, h, none⟩) := hd 9 (by kernel_rfl)
            refine step_list fun K hK => ?_
            simp only [fill_lit, fillL, Act.put, List.setIfInBounds_toArray, List.set_cons_zero, List.set_cons_succ, Nat.reduceAdd] at hK ⊢
            rw [h9] at hK ⊢
            clear hd h9
            go_wp2
            (first | exact ⟨⟨⟨nd, rfl⟩⟩, trivial, rfl⟩ | exact ⟨⟨⟨nd, rfl⟩⟩, rfl⟩ | exact ⟨⟨⟨nd, rfl⟩⟩, by show Value.bool _ = Value.bool _; simp [hdec]⟩)
          · intro v W hb hd
            obtain ⟨⟨nd, rfl⟩⟩ := hb
            have h4 : v 158 = .func (.func fid) fa lb := hd 0 (by kernel_rfl)
            have h8 : v 164 = .int .i64 x1 := hd 6 (by kernel_rfl)
            have h13 : v 168 = .int .i64 x2 := hd 10 (by kernel_rfl)
            refine step_list fun K hK => ?_
            simp only [fill_lit, fillL, Act.put, List.setIfInBounds_toArray, List.set_cons_zero, List.set_cons_succ, Nat.reduceAdd] at hK ⊢
            rw [h4, h8, h13] at hK ⊢
            clear hd h4 h8 h13
            go_wp2_with (fail)
            refine (HCmp.out.calls x1 x2 _ HDx.out.1 HDx.out.2 (HM.out.drawn ⟨⟨nd, rfl⟩⟩).keep (HM.out.drawn ⟨⟨nd, rfl⟩⟩).bel).mono ?_
            rintro e W' ⟨rfl, hb'⟩
            obtain ⟨⟨ne, rfl⟩⟩ := hb'
            go_wp2_with (fail)
            (first | exact ⟨⟨⟨nd + ne, rfl⟩⟩, trivial, rfl⟩ | exact ⟨⟨⟨nd + ne, rfl⟩⟩, rfl⟩)
          · intro v W hb hd
            obtain ⟨⟨nd, rfl⟩⟩ := hb
            have h11 : v 169 = .int .i64 (cf x1 x2) := hd 11 (by kernel_rfl)
            refine step_list fun K hK => ?_
            simp only [fill_lit, fillL, Act.put, List.setIfInBounds_toArray, List.set_cons_zero, List.set_cons_succ, Nat.reduceAdd] at hK ⊢
            rw [h11] at hK ⊢
            clear hd h11
            go_wp2
            (first | exact ⟨⟨⟨nd, rfl⟩⟩, trivial, rfl⟩ | exact ⟨⟨⟨nd, rfl⟩⟩, rfl⟩ | exact ⟨⟨⟨nd, rfl⟩⟩, by show Value.bool _ = Value.bool _; simp [hdec]⟩)
          · intro v W hb hd
            obtain ⟨⟨nd, rfl⟩⟩ := hb
            have h12 : v 170 = .bool (decide (cf x1 x2 < 0)) := hd 12 (by kernel_rfl)
            refine step_list fun K hK => ?_
            simp only [fill_lit, fillL, Act.put, List.setIfInBounds_toArray, List.set_cons_zero, List.set_cons_succ, Nat.reduceAdd] at hK ⊢
            rw [h12] at hK ⊢
            clear hd h12
            go_wp2
            (first | exact ⟨⟨⟨nd, rfl⟩⟩, trivial, rfl⟩ | exact ⟨⟨⟨nd, rfl⟩⟩, rfl⟩ | exact ⟨⟨⟨nd, rfl⟩⟩, by show Value.bool _ = Value.bool _; simp [hdec]⟩)
        · intro v W hb hF
          have h16 : v 171 = .bool (!decide (cf x1 x2 < 0)) := hF 13 (of_decide_eq_true (by kernel_rfl))
          simp only [fill_lit, fillL, Nat.reduceAdd]
          rw [h16, hdec]
          clear hF h16
          go_wp2
          go_roundw
          case rel => exact ⟨i, h, rfl, rfl, ⟨HNew.out, K.Drawn0.trans_ HI.out.2 hb⟩⟩
          case measure => have := HG.out; simp [intOf]; omega
      · have hdec : decide (cf x1 x2 < 0) = false := by simpa using ht
        have HNew := Aside0.mk ((HDc.out x1 x2 hx1 hx2).2 ht)
        clear hx1 hx2 hb hb1 hb2 hb3 hlim hlt hh1 hdc hnn ht hin hhi hmdd hph
        go_upto_region 35 with (fail)
        refine wp_region_fin [false, false, false, false, false, false, false, false, false, false, false, false, false, false, false, false, false, false, false, false, false, false, false, false, false, false, false, false, false, false, false, false, false, false, false, false, false, false, false, false, false, false, false, false, false, false, false, false, false, false, false, false, false, false, false, false, false, false, false, false, false, false, false, false, false, false, false, false, false, false, false, false, false, false, false, false, false, false, false, false, false, false, false, false, false, false, false, false, false, false, false, false, false, false, false, false, false, false, false, false, false, false, false, false, false, false, false, false, false, false, false, false, false, false, false, false, false, false, false, false, false, false, false, false, false, false, false, false, false, false, false, false, false, false, false, false, false, false, false, false, false, false, false, false, false, false, false, false, false, false, false, false, false, false, false, false, false, false, true, true, true, true, true, true, true, true, true, true, true, true, true, true] (by kernel_rfl) (by kernel_rfl) (fun W => Drawn0 wi W) (fun W W' => True) (fun iv xv _ => Sm35F fid fa lb g n c p h ph x1 x2 (cf x1 x2) iv xv) (fun _ _ _ _ _ _ h => h) ⟨⟨1, rfl⟩⟩ ?_ ?_
        · refine ⟨?_, ?_, ?_, ?_, ?_, ?_, ?_, ?_, ?_, ?_, ?_, ?_, ?_, ?_, trivial⟩
          · intro v W hb hd
            obtain ⟨⟨nd, rfl⟩⟩ := hb
            refine step_list fun K hK => ?_
            simp only [fill_lit, fillL, Act.put, List.setIfInBounds_toArray, List.set_cons_zero, List.set_cons_succ, Nat.reduceAdd] at hK ⊢
            clear hd
            go_wp2
            (first | exact ⟨⟨⟨nd, rfl⟩⟩, trivial, rfl⟩ | exact ⟨⟨⟨nd, rfl⟩⟩, rfl⟩ | exact ⟨⟨⟨nd, rfl⟩⟩, by show Value.bool _ = Value.bool _; simp [hdec]⟩)
          · intro v W hb hd
            obtain ⟨⟨nd, rfl⟩⟩ := hb
            refine step_list fun K hK => ?_
            simp only [fill_lit, fillL, Act.put, List.setIfInBounds_toArray, List.set_cons_zero, List.set_cons_succ, Nat.reduceAdd] at hK ⊢
            clear hd
            go_wp2
            (first | exact ⟨⟨⟨nd, rfl⟩⟩, trivial, rfl⟩ | exact ⟨⟨⟨nd, rfl⟩⟩, rfl⟩ | exact ⟨⟨⟨nd, rfl⟩⟩, by show Value.bool _ = Value.bool _; simp [hdec]⟩)
          · intro v W hb hd
            obtain ⟨⟨nd, rfl⟩⟩ := hb
            refine step_list fun K hK => ?_
            simp only [fill_lit, fillL, Act.put, List.setIfInBounds_toArray, List.set_cons_zero, List.set_cons_succ, Nat.reduceAdd] at hK ⊢
            clear hd
            go_wp2
            (first | exact ⟨⟨⟨nd, rfl⟩⟩, trivial, rfl⟩ | exact ⟨⟨⟨nd, rfl⟩⟩, rfl⟩ | exact ⟨⟨⟨nd, rfl⟩⟩, by show Value.bool _ = Value.bool _; simp [hdec]⟩)
          · intro v W hb hd
            obtain ⟨⟨nd, rfl⟩⟩ := hb
            refine step_list fun K hK => ?_
            simp only [fill_lit, fillL, Act.put, List.setIfInBounds_toArray, List.set_cons_zero, List.set_cons_succ, Nat.reduceAdd] at hK ⊢
            clear hd
            go_wp2
            (first | exact ⟨⟨⟨nd, rfl⟩⟩, trivial, rfl⟩ | exact ⟨⟨⟨nd, rfl⟩⟩, rfl⟩ | exact ⟨⟨⟨nd, rfl⟩⟩, by show Value.bool _ = Value.bool _; simp [hdec]⟩)
          · intro v W hb hd
            obtain ⟨⟨nd, rfl⟩⟩ := hb
            have h2 : v 160 = .int .i64 (p : Int) := hd 2 (by kernel_rfl)
            have h3 : v 161 = .int .i64 (h : Int) := hd 3 (by kernel_rfl)
            refine step_list fun K hK => ?_
            simp only [fill_lit, fillL, Act.put, List.setIfInBounds_toArray, List.set_cons_zero, List.set_cons_succ, Nat.reduceAdd] at hK ⊢
            rw [h2, h3] at hK ⊢
            clear hd h2 h3
            go_wp2
            (first | exact ⟨⟨⟨nd, rfl⟩⟩, trivial, rfl⟩ | exact ⟨⟨⟨nd, rfl⟩⟩, rfl⟩ | exact ⟨⟨⟨nd, rfl⟩⟩, by show Value.bool _ = Value.bool _; simp [hdec]⟩)
          · intro v W hb hd
            obtain ⟨⟨nd, rfl⟩⟩ := hb
            have h1 : v 159 = .slice (some ⟨g, 0, none⟩) n c := hd 1 (by kernel_rfl)
            have h4 : v 162 = .int .i64 (ph : Int) := hd 4 (by kernel_rfl)
            refine step_list fun K hK => ?_
            simp only [fill_lit, fillL, Act.put, List.setIfInBounds_toArray, List.set_cons_zero, List.set_cons_succ, Nat.reduceAdd] at hK ⊢
            rw [h1, h4] at hK ⊢
            clear hd h1 h4
            go_wp2
            (first | exact ⟨⟨⟨nd, rfl⟩⟩, trivial, rfl⟩ | exact ⟨⟨⟨nd, rfl⟩⟩, rfl⟩ | exact ⟨⟨⟨nd, rfl⟩⟩, by show Value.bool _ = Value.bool _; simp [hdec]⟩)
          · intro v W hb hd
            obtain ⟨⟨nd, rfl⟩⟩ := hb
            have hx1 : (wi.drewN nd).cell? ⟨g, ph, none⟩ = some (.int .i64 x1) := hc1
            have h5 : v 163 = .pointer (some ⟨g, ph, none⟩) := hd 5 (by kernel_rfl)
            refine step_list fun K hK => ?_
            simp only [fill_lit, fillL, Act.put, List.setIfInBounds_toArray, List.set_cons_zero, List.set_cons_succ, Nat.reduceAdd] at hK ⊢
            rw [h5] at hK ⊢
            clear hd h5
            go_wp2
            (first | exact ⟨⟨⟨nd, rfl⟩⟩, trivial, rfl⟩ | exact ⟨⟨⟨nd, rfl⟩⟩, rfl⟩ | exact ⟨⟨⟨nd, rfl⟩⟩, by show Value.bool _ = Value.bool _; simp [hdec]⟩)
          · intro v W hb hd
            obtain ⟨⟨nd, rfl⟩⟩ := hb
            refine step_list fun K hK => ?_
            simp only [fill_lit, fillL, Act.put, List.setIfInBounds_toArray, List.set_cons_zero, List.set_cons_succ, Nat.reduceAdd] at hK ⊢
            clear hd
            go_wp2
            (first | exact ⟨⟨⟨nd, rfl⟩⟩, trivial, rfl⟩ | exact ⟨⟨⟨nd, rfl⟩⟩, rfl⟩ | exact ⟨⟨⟨nd, rfl⟩⟩, by show Value.bool _ = Value.bool _; simp [hdec]⟩)
          · intro v W hb hd
            obtain ⟨⟨nd, rfl⟩⟩ := hb
            refine step_list fun K hK => ?_
            simp only [fill_lit, fillL, Act.put, List.setIfInBounds_toArray, List.set_cons_zero, List.set_cons_succ, Nat.reduceAdd] at hK ⊢
            clear hd
            go_wp2
            (first | exact ⟨⟨⟨nd, rfl⟩⟩, trivial, rfl⟩ | exact ⟨⟨⟨nd, rfl⟩⟩, rfl⟩ | exact ⟨⟨⟨nd, rfl⟩⟩, by show Value.bool _ = Value.bool _; simp [hdec]⟩)
          · intro v W hb hd
            obtain ⟨⟨nd, rfl⟩⟩ := hb
            have h7 : v 165 = .slice (some ⟨g, 0, none⟩) n c := hd 7 (by kernel_rfl)
            have h8 : v 166 = .int .i64 (h : Int) := hd 8 (by kernel_rfl)
            refine step_list fun K hK => ?_
            simp only [fill_lit, fillL, Act.put, List.setIfInBounds_toArray, List.set_cons_zero, List.set_cons_succ, Nat.reduceAdd] at hK ⊢
            rw [h7, h8] at hK ⊢
            clear hd h7 h8
            go_wp2
            (first | exact ⟨⟨⟨nd, rfl⟩⟩, trivial, rfl⟩ | exact ⟨⟨⟨nd, rfl⟩⟩, rfl⟩ | exact ⟨⟨⟨nd, rfl⟩⟩, by show Value.bool _ = Value.bool _; simp [hdec]⟩)
          · intro v W hb hd
            obtain ⟨⟨nd, rfl⟩⟩ := hb
            have hx2 : (wi.drewN nd).cell? ⟨g, h, none⟩ = some (.int .i64 x2) := hc2
            have h9 : v 167 = .pointer (some ⟨g, h, none⟩) := hd 9 (by kernel_rfl)
            refine step_list fun K hK => ?_
            simp only [fill_lit, fillL, Act.put, List.setIfInBounds_toArray, List.set_cons_zero, List.set_cons_succ, Nat.reduceAdd] at hK ⊢
            rw [h9] at hK ⊢
            clear hd h9
            go_wp2
            (first | exact ⟨⟨⟨nd, rfl⟩⟩, trivial, rfl⟩ | exact ⟨⟨⟨nd, rfl⟩⟩, rfl⟩ | exact ⟨⟨⟨nd, rfl⟩⟩, by show Value.bool _ = Value.bool _; simp [hdec]⟩)
          · intro v W hb hd
            obtain ⟨⟨nd, rfl⟩⟩ := hb
            have h4 : v 158 = .func (.func fid) fa lb := hd 0 (by kernel_rfl)
            have h8 : v 164 = .int .i64 x1 := hd 6 (by kernel_rfl)
            have h13 : v 168 = .int .i64 x2 := hd 10 (by kernel_rfl)
            refine step_list fun K hK => ?_
            simp only [fill_lit, fillL, Act.put, List.setIfInBounds_toArray, List.set_cons_zero, List.set_cons_succ, Nat.reduceAdd] at hK ⊢
            rw [h4, h8, h13] at hK ⊢
            clear hd h4 h8 h13
            go_wp2_with (fail)
            refine (HCmp.out.calls x1 x2 _ HDx.out.1 HDx.out.2 (HM.out.drawn ⟨⟨nd, rfl⟩⟩).keep (HM.out.drawn ⟨⟨nd, rfl⟩⟩).bel).mono ?_
            rintro e W' ⟨rfl, hb'⟩
            obtain ⟨⟨ne, rfl⟩⟩ := hb'
            go_wp2_with (fail)
            (first | exact ⟨⟨⟨nd + ne, rfl⟩⟩, trivial, rfl⟩ | exact ⟨⟨⟨nd + ne, rfl⟩⟩, rfl⟩)
          · intro v W hb hd
            obtain ⟨⟨nd, rfl⟩⟩ := hb
            have h11 : v 169 = .int .i64 (cf x1 x2) := hd 11 (by kernel_rfl)
            refine step_list fun K hK => ?_
            simp only [fill_lit, fillL, Act.put, List.setIfInBounds_toArray, List.set_cons_zero, List.set_cons_succ, Nat.reduceAdd] at hK ⊢
            rw [h11] at hK ⊢
            clear hd h11
            go_wp2
            (first | exact ⟨⟨⟨nd, rfl⟩⟩, trivial, rfl⟩ | exact ⟨⟨⟨nd, rfl⟩⟩, rfl⟩ | exact ⟨⟨⟨nd, rfl⟩⟩, by show Value.bool _ = Value.bool _; simp [hdec]⟩)
          · intro v W hb hd
            obtain ⟨⟨nd, rfl⟩⟩ := hb
            have h12 : v 170 = .bool (decide (cf x1 x2 < 0)) := hd 12 (by kernel_rfl)
            refine step_list fun K hK => ?_
            simp only [fill_lit, fillL, Act.put, List.setIfInBounds_toArray, List.set_cons_zero, List.set_cons_succ, Nat.reduceAdd] at hK ⊢
            rw [h12] at hK ⊢
            clear hd h12
            go_wp2
            (first | exact ⟨⟨⟨nd, rfl⟩⟩, trivial, rfl⟩ | exact ⟨⟨⟨nd, rfl⟩⟩, rfl⟩ | exact ⟨⟨⟨nd, rfl⟩⟩, by show Value.bool _ = Value.bool _; simp [hdec]⟩)
        · intro v W hb hF
          have h16 : v 171 = .bool (!decide (cf x1 x2 < 0)) := hF 13 (of_decide_eq_true (by kernel_rfl))
          simp only [fill_lit, fillL, Nat.reduceAdd]
          rw [h16, hdec]
          clear hF h16
          go_wp2
          go_roundw
          case rel => exact ⟨h + 1, j, by go_num, rfl, ⟨HNew.out, K.Drawn0.trans_ HI.out.2 hb⟩⟩
          case measure => have := HG.out; simp [intOf]; omega
    · obtain rfl : i = j := by omega
      have hrt := HI.out.1
      clear hb hlt
      have hmdd := HMid.out
      have hlo := HLo.out
      have HCut : Aside0 (CutAt pr (fun j => xs.getD j 0) (if mid < m then mid + m - b else a) (if mid < m then mid else m) (mid + m) i) := ⟨by
        rw [if_neg (Nat.not_lt.2 hlo), if_neg (Nat.not_lt.2 hlo)]
        rw [← hmdd.2.1]
        exact hrt.done⟩
      obtain ⟨e, he⟩ : ∃ t, t = np - i := ⟨_, rfl⟩
      have hwe : IntKind.i64.wrap ((np : Int) - (i : Int)) = (e : Int) := (w_i64 _ (by omega) (by omega)).trans (by omega)
      have HEe : Aside0 (e = mid + m - i) := ⟨by omega⟩
      have HBd : Aside0 (a ≤ i ∧ i ≤ m ∧ m ≤ e ∧ e ≤ b ∧ i ≤ mid ∧ mid ≤ e ∧ e = mid + m - i ∧ a < mid ∧ mid < b) := ⟨by omega⟩
      have HH1 : Aside0 (Halves pr cf (rotF (fun j => xs.getD j 0) i m e) a i mid) := ⟨halves1 HL.out HR.out HT.out HBd.out.1 HBd.out.2.1 HBd.out.2.2.1 HBd.out.2.2.2.1 HBd.out.2.2.2.2.1 HEe.out⟩
      have HA1 : Aside0 (AllF D n (rotF (fun j => xs.getD j 0) i m e)) := ⟨by
        have h9 := list_allF HD.out
        rw [HN.out] at h9
        exact h9.from_ (rot_from _ i i m e e (Nat.le_refl _) HBd.out.2.1 HBd.out.2.2.1 (Nat.le_refl _)) (rot_off _ i i m e e (Nat.le_refl _) HBd.out.2.1 HBd.out.2.2.1 (Nat.le_refl _)) (by have := HBd.out; omega)⟩
      clear hrt hb1 hb2 hb3 hlim he hmdd hlo
      by_cases q1 : i < m
      · have dq1 : decide (i < m) = true := by simpa using q1
        by_cases q2 : m < e
        · have dq2 : decide (m < e) = true := by simpa using q2
          have HCr := Aside0.mk (rotate_calls g n c B i m e xs (.func (.func fid) fa lb) wi HM.out.dat HN.out HB.out q1 q2 (by have := HBd.out; have := HLim.out; omega) HLim.out.2.2.2.1)
          clear q1 q2
          go_wp2_with (fail)
          refine HCr.out.mono ?_
          rintro e1 w2 ⟨rfl, hd⟩
          have HF1 : Aside0 (DatF B g c n w w2 (rotF (fun j => xs.getD j 0) i m e)) := ⟨by
            obtain ⟨zs, z1, z2, z3⟩ := hd
            exact ⟨zs, HM.out.trans z1, z2, z3⟩⟩
          clear hd
          by_cases r1 : a < i
          · have dr21 : decide (a < i) = true := by simpa using r1
            by_cases r2 : i < mid
            · have dr22 : decide (i < mid) = true := by simpa using r2
              have HCs : Aside0 (∃ zs, DatM B g c w w2 zs ∧ (∀ j, zs.getD j 0 = (rotF (fun j => xs.getD j 0) i m e) j) ∧ Calls Tryd.prog 75 #[.slice (some ⟨g, 0, none⟩) n c, .int .i64 (a : Int), .int .i64 (i : Int), .int .i64 (mid : Int), .func (.func fid) fa lb] w2 fun en w' => en = .returned (.tuple #[]) ∧ MergeEnd pr B g c n a mid (rotF (fun j => xs.getD j 0) i m e) w2 w') := ⟨by
                obtain ⟨zs, z1, z2, z3⟩ := HF1.out
                have hfe : (fun j => zs.getD j 0) = (rotF (fun j => xs.getD j 0) i m e) := funext z3
                have := HBd.out
                have := HLim.out
                have hc := HIh.out a i mid zs w2 (by omega) (HCmp.out.later z1) z1.dat z2 (AllF.list HA1.out z2 z3) HB.out r1 r2 (by omega) (by omega) (by rw [hfe]; exact HH1.out.l) (by rw [hfe]; exact HH1.out.r) (by rw [hfe]; exact HH1.out.t)
                rw [hfe] at hc
                exact ⟨zs, z1, z3, hc⟩⟩
              obtain ⟨zs2, hz2⟩ := HCs.out
              have HZ2 := Aside0.mk hz2
              clear r1 r2 hz2 HCs
              go_wp2_with (fail)
              refine HZ2.out.2.2.mono ?_
              rintro e2 w3 ⟨rfl, hd⟩
              obtain ⟨g1, hg1, hm1⟩ := hd
              have HF2 : Aside0 (DatF B g c n w w3 g1) := ⟨by
                obtain ⟨ts, t1, t2, t3⟩ := hg1
                exact ⟨ts, HZ2.out.1.trans t1, t2, t3⟩⟩
              have HM1 := Aside0.mk hm1
              clear hg1 hm1
              have HH2 : Aside0 (Halves pr cf g1 mid e b) := ⟨halves2 HL.out HR.out HT.out HBd.out.1 HBd.out.2.1 HBd.out.2.2.1 HBd.out.2.2.2.1 HBd.out.2.2.2.2.1 HBd.out.2.2.2.2.2.1 HBd.out.2.2.2.2.2.2.1 (fun j hj => HM1.out.off j (.inr hj))⟩
              have HA2 : Aside0 (AllF D n g1) := ⟨HA1.out.from_ HM1.out.from_ HM1.out.off (by have := HBd.out; have := HLim.out; omega)⟩
              by_cases r1 : mid < e
              · have dr31 : decide (mid < e) = true := by simpa using r1
                by_cases r2 : e < b
                · have dr32 : decide (e < b) = true := by simpa using r2
                  have HCs : Aside0 (∃ zs, DatM B g c w w3 zs ∧ (∀ j, zs.getD j 0 = g1 j) ∧ Calls Tryd.prog 75 #[.slice (some ⟨g, 0, none⟩) n c, .int .i64 (mid : Int), .int .i64 (e : Int), .int .i64 (b : Int), .func (.func fid) fa lb] w3 fun en w' => en = .returned (.tuple #[]) ∧ MergeEnd pr B g c n mid b g1 w3 w') := ⟨by
                    obtain ⟨zs, z1, z2, z3⟩ := HF2.out
                    have hfe : (fun j => zs.getD j 0) = g1 := funext z3
                    have := HBd.out
                    have := HLim.out
                    have hc := HIh.out mid e b zs w3 (by omega) (HCmp.out.later z1) z1.dat z2 (AllF.list HA2.out z2 z3) HB.out r1 r2 (by omega) (by omega) (by rw [hfe]; exact HH2.out.l) (by rw [hfe]; exact HH2.out.r) (by rw [hfe]; exact HH2.out.t)
                    rw [hfe] at hc
                    exact ⟨zs, z1, z3, hc⟩⟩
                  obtain ⟨zs3, hz3⟩ := HCs.out
                  have HZ3 := Aside0.mk hz3
                  clear r1 r2 hz3 HCs
                  go_wp2_with (fail)
                  refine HZ3.out.2.2.mono ?_
                  rintro e3 w4 ⟨rfl, hd⟩
                  obtain ⟨g2, hg1, hm1⟩ := hd
                  have HF3 : Aside0 (DatF B g c n w w4 g2) := ⟨by
                    obtain ⟨ts, t1, t2, t3⟩ := hg1
                    exact ⟨ts, HZ3.out.1.trans t1, t2, t3⟩⟩
                  have HM2 := Aside0.mk hm1
                  clear hg1 hm1
                  go_wp2
                  go_end0
                  exact ⟨rfl, g2, HF3.out, (sym_merge (cf := cf) HS.out HLim.out.1 HLim.out.2.1 HMid.out.1 HL.out HR.out HCut.out HEe.out HM1.out HM2.out).1⟩
                · have dr32 : decide (e < b) = false := by simpa using r2
                  obtain ⟨g2, hgE⟩ : ∃ t, t = g1 := ⟨_, rfl⟩
                  have HM2 : Aside0 (Merged pr g1 g2 mid b) := ⟨by rw [hgE]; exact HH2.out.same (fun h => r2 h.2) (by have := HBd.out; omega) (by have := HBd.out; omega)⟩
                  have HF3 : Aside0 (DatF B g c n w w3 g2) := ⟨by rw [hgE]; exact HF2.out⟩
                  clear hgE r1 r2
                  go_wp2
                  go_end0
                  exact ⟨rfl, g2, HF3.out, (sym_merge (cf := cf) HS.out HLim.out.1 HLim.out.2.1 HMid.out.1 HL.out HR.out HCut.out HEe.out HM1.out HM2.out).1⟩
              · have dr31 : decide (mid < e) = false := by simpa using r1
                obtain ⟨g2, hgE⟩ : ∃ t, t = g1 := ⟨_, rfl⟩
                have HM2 : Aside0 (Merged pr g1 g2 mid b) := ⟨by rw [hgE]; exact HH2.out.same (fun h => r1 h.1) (by have := HBd.out; omega) (by have := HBd.out; omega)⟩
                have HF3 : Aside0 (DatF B g c n w w3 g2) := ⟨by rw [hgE]; exact HF2.out⟩
                clear hgE r1
                go_wp2
                go_end0
                exact ⟨rfl, g2, HF3.out, (sym_merge (cf := cf) HS.out HLim.out.1 HLim.out.2.1 HMid.out.1 HL.out HR.out HCut.out HEe.out HM1.out HM2.out).1⟩
            · have dr22 : decide (i < mid) = false := by simpa using r2
              obtain ⟨g1, hgE⟩ : ∃ t, t = (rotF (fun j => xs.getD j 0) i m e) := ⟨_, rfl⟩
              have HM1 : Aside0 (Merged pr (rotF (fun j => xs.getD j 0) i m e) g1 a mid) := ⟨by rw [hgE]; exact HH1.out.same (fun h => r2 h.2) (by have := HBd.out; omega) (by have := HBd.out; omega)⟩
              have HF2 : Aside0 (DatF B g c n w w2 g1) := ⟨by rw [hgE]; exact HF1.out⟩
              clear hgE r1 r2
              have HH2 : Aside0 (Halves pr cf g1 mid e b) := ⟨halves2 HL.out HR.out HT.out HBd.out.1 HBd.out.2.1 HBd.out.2.2.1 HBd.out.2.2.2.1 HBd.out.2.2.2.2.1 HBd.out.2.2.2.2.2.1 HBd.out.2.2.2.2.2.2.1 (fun j hj => HM1.out.off j (.inr hj))⟩
              have HA2 : Aside0 (AllF D n g1) := ⟨HA1.out.from_ HM1.out.from_ HM1.out.off (by have := HBd.out; have := HLim.out; omega)⟩
              by_cases r1 : mid < e
              · have dr31 : decide (mid < e) = true := by simpa using r1
                by_cases r2 : e < b
                · have dr32 : decide (e < b) = true := by simpa using r2
                  have HCs : Aside0 (∃ zs, DatM B g c w w2 zs ∧ (∀ j, zs.getD j 0 = g1 j) ∧ Calls Tryd.prog 75 #[.slice (some ⟨g, 0, none⟩) n c, .int .i64 (mid : Int), .int .i64 (e : Int), .int .i64 (b : Int), .func (.func fid) fa lb] w2 fun en w' => en = .returned (.tuple #[]) ∧ MergeEnd pr B g c n mid b g1 w2 w') := ⟨by
                    obtain ⟨zs, z1, z2, z3⟩ := HF2.out
                    have hfe : (fun j => zs.getD j 0) = g1 := funext z3
                    have := HBd.out
                    have := HLim.out
                    have hc := HIh.out mid e b zs w2 (by omega) (HCmp.out.later z1) z1.dat z2 (AllF.list HA2.out z2 z3) HB.out r1 r2 (by omega) (by omega) (by rw [hfe]; exact HH2.out.l) (by rw [hfe]; exact HH2.out.r) (by rw [hfe]; exact HH2.out.t)
                    rw [hfe] at hc
                    exact ⟨zs, z1, z3, hc⟩⟩
                  obtain ⟨zs3, hz3⟩ := HCs.out
                  have HZ3 := Aside0.mk hz3
                  clear r1 r2 hz3 HCs
                  go_wp2_with (fail)
                  refine HZ3.out.2.2.mono ?_
                  rintro e3 w4 ⟨rfl, hd⟩
                  obtain ⟨g2, hg1, hm1⟩ := hd
                  have HF3 : Aside0 (DatF B g c n w w4 g2) := ⟨by
                    obtain ⟨ts, t1, t2, t3⟩ := hg1
                    exact ⟨ts, HZ3.out.1.trans t1, t2, t3⟩⟩
                  have HM2 := Aside0.mk hm1
                  clear hg1 hm1
                  go_wp2
                  go_end0
                  exact ⟨rfl, g2, HF3.out, (sym_merge (cf := cf) HS.out HLim.out.1 HLim.out.2.1 HMid.out.1 HL.out HR.out HCut.out HEe.out HM1.out HM2.out).1⟩
                · have dr32 : decide (e < b) = false := by simpa using r2
                  obtain ⟨g2, hgE⟩ : ∃ t, t = g1 := ⟨_, rfl⟩
                  have HM2 : Aside0 (Merged pr g1 g2 mid b) := ⟨by rw [hgE]; exact HH2.out.same (fun h => r2 h.2) (by have := HBd.out; omega) (by have := HBd.out; omega)⟩
                  have HF3 : Aside0 (DatF B g c n w w2 g2) := ⟨by rw [hgE]; exact HF2.out⟩
                  clear hgE r1 r2
                  go_wp2
                  go_end0
                  exact ⟨rfl, g2, HF3.out, (sym_merge (cf := cf) HS.out HLim.out.1 HLim.out.2.1 HMid.out.1 HL.out HR.out HCut.out HEe.out HM1.out HM2.out).1⟩
              · have dr31 : decide (mid < e) = false := by simpa using r1
                obtain ⟨g2, hgE⟩ : ∃ t, t = g1 := ⟨_, rfl⟩
                have HM2 : Aside0 (Merged pr g1 g2 mid b) := ⟨by rw [hgE]; exact HH2.out.same (fun h => r1 h.1) (by have := HBd.out; omega) (by have := HBd.out; omega)⟩
                have HF3 : Aside0 (DatF B g c n w w2 g2) := ⟨by rw [hgE]; exact HF2.out⟩
                clear hgE r1
                go_wp2
                go_end0
                exact ⟨rfl, g2, HF3.out, (sym_merge (cf := cf) HS.out HLim.out.1 HLim.out.2.1 HMid.out.1 HL.out HR.out HCut.out HEe.out HM1.out HM2.out).1⟩
          · have dr21 : decide (a < i) = false := by simpa using r1
            obtain ⟨g1, hgE⟩ : ∃ t, t = (rotF (fun j => xs.getD j 0) i m e) := ⟨_, rfl⟩
            have HM1 : Aside0 (Merged pr (rotF (fun j => xs.getD j 0) i m e) g1 a mid) := ⟨by rw [hgE]; exact HH1.out.same (fun h => r1 h.1) (by have := HBd.out; omega) (by have := HBd.out; omega)⟩
            have HF2 : Aside0 (DatF B g c n w w2 g1) := ⟨by rw [hgE]; exact HF1.out⟩
            clear hgE r1
            have HH2 : Aside0 (Halves pr cf g1 mid e b) := ⟨halves2 HL.out HR.out HT.out HBd.out.1 HBd.out.2.1 HBd.out.2.2.1 HBd.out.2.2.2.1 HBd.out.2.2.2.2.1 HBd.out.2.2.2.2.2.1 HBd.out.2.2.2.2.2.2.1 (fun j hj => HM1.out.off j (.inr hj))⟩
            have HA2 : Aside0 (AllF D n g1) := ⟨HA1.out.from_ HM1.out.from_ HM1.out.off (by have := HBd.out; have := HLim.out; omega)⟩
            by_cases r1 : mid < e
            · have dr31 : decide (mid < e) = true := by simpa using r1
              by_cases r2 : e < b
              · have dr32 : decide (e < b) = true := by simpa using r2
                have HCs : Aside0 (∃ zs, DatM B g c w w2 zs ∧ (∀ j, zs.getD j 0 = g1 j) ∧ Calls Tryd.prog 75 #[.slice (some ⟨g, 0, none⟩) n c, .int .i64 (mid : Int), .int .i64 (e : Int), .int .i64 (b : Int), .func (.func fid) fa lb] w2 fun en w' => en = .returned (.tuple #[]) ∧ MergeEnd pr B g c n mid b g1 w2 w') := ⟨by
                  obtain ⟨zs, z1, z2, z3⟩ := HF2.out
                  have hfe : (fun j => zs.getD j 0) = g1 := funext z3
                  have := HBd.out
                  have := HLim.out
                  have hc := HIh.out mid e b zs w2 (by omega) (HCmp.out.later z1) z1.dat z2 (AllF.list HA2.out z2 z3) HB.out r1 r2 (by omega) (by omega) (by rw [hfe]; exact HH2.out.l) (by rw [hfe]; exact HH2.out.r) (by rw [hfe]; exact HH2.out.t)
                  rw [hfe] at hc
                  exact ⟨zs, z1, z3, hc⟩⟩
                obtain ⟨zs3, hz3⟩ := HCs.out
                have HZ3 := Aside0.mk hz3
                clear r1 r2 hz3 HCs
                go_wp2_with (fail)
                refine HZ3.out.2.2.mono ?_
                rintro e3 w4 ⟨rfl, hd⟩
                obtain ⟨g2, hg1, hm1⟩ := hd
                have HF3 : Aside0 (DatF B g c n w w4 g2) := ⟨by
                  obtain ⟨ts, t1, t2, t3⟩ := hg1
                  exact ⟨ts, HZ3.out.1.trans t1, t2, t3⟩⟩
                have HM2 := Aside0.mk hm1
                clear hg1 hm1
                go_wp2
                go_end0
                exact ⟨rfl, g2, HF3.out, (sym_merge (cf := cf) HS.out HLim.out.1 HLim.out.2.1 HMid.out.1 HL.out HR.out HCut.out HEe.out HM1.out HM2.out).1⟩
              · have dr32 : decide (e < b) = false := by simpa using r2
                obtain ⟨g2, hgE⟩ : ∃ t, t = g1 := ⟨_, rfl⟩
                have HM2 : Aside0 (Merged pr g1 g2 mid b) := ⟨by rw [hgE]; exact HH2.out.same (fun h => r2 h.2) (by have := HBd.out; omega) (by have := HBd.out; omega)⟩
                have HF3 : Aside0 (DatF B g c n w w2 g2) := ⟨by rw [hgE]; exact HF2.out⟩
                clear hgE r1 r2
                go_wp2
                go_end0
                exact ⟨rfl, g2, HF3.out, (sym_merge (cf := cf) HS.out HLim.out.1 HLim.out.2.1 HMid.out.1 HL.out HR.out HCut.out HEe.out HM1.out HM2.out).1⟩
            · have dr31 : decide (mid < e) = false := by simpa using r1
              obtain ⟨g2, hgE⟩ : ∃ t, t = g1 := ⟨_, rfl⟩
              have HM2 : Aside0 (Merged pr g1 g2 mid b) := ⟨by rw [hgE]; exact HH2.out.same (fun h => r1 h.1) (by have := HBd.out; omega) (by have := HBd.out; omega)⟩
              have HF3 : Aside0 (DatF B g c n w w2 g2) := ⟨by rw [hgE]; exact HF2.out⟩
              clear hgE r1
              go_wp2
              go_end0
              exact ⟨rfl, g2, HF3.out, (sym_merge (cf := cf) HS.out HLim.out.1 HLim.out.2.1 HMid.out.1 HL.out HR.out HCut.out HEe.out HM1.out HM2.out).1⟩
        · have dq2 : decide (m < e) = false := by simpa using q2
          have HF1 : Aside0 (DatF B g c n w wi (rotF (fun j => xs.getD j 0) i m e)) := ⟨xs, HM.out, HN.out, fun j => (rot_nop (f := (fun j => xs.getD j 0)) (fun h => q2 h.2) HBd.out.2.1 HBd.out.2.2.1 j).symm⟩
          clear q1 q2
          by_cases r1 : a < i
          · have dr21 : decide (a < i) = true := by simpa using r1
            by_cases r2 : i < mid
            · have dr22 : decide (i < mid) = true := by simpa using r2
              have HCs : Aside0 (∃ zs, DatM B g c w wi zs ∧ (∀ j, zs.getD j 0 = (rotF (fun j => xs.getD j 0) i m e) j) ∧ Calls Tryd.prog 75 #[.slice (some ⟨g, 0, none⟩) n c, .int .i64 (a : Int), .int .i64 (i : Int), .int .i64 (mid : Int), .func (.func fid) fa lb] wi fun en w' => en = .returned (.tuple #[]) ∧ MergeEnd pr B g c n a mid (rotF (fun j => xs.getD j 0) i m e) wi w') := ⟨by
                obtain ⟨zs, z1, z2, z3⟩ := HF1.out
                have hfe : (fun j => zs.getD j 0) = (rotF (fun j => xs.getD j 0) i m e) := funext z3
                have := HBd.out
                have := HLim.out
                have hc := HIh.out a i mid zs wi (by omega) (HCmp.out.later z1) z1.dat z2 (AllF.list HA1.out z2 z3) HB.out r1 r2 (by omega) (by omega) (by rw [hfe]; exact HH1.out.l) (by rw [hfe]; exact HH1.out.r) (by rw [hfe]; exact HH1.out.t)
                rw [hfe] at hc
                exact ⟨zs, z1, z3, hc⟩⟩
              obtain ⟨zs2, hz2⟩ := HCs.out
              have HZ2 := Aside0.mk hz2
              clear r1 r2 hz2 HCs
              go_wp2_with (fail)
              refine HZ2.out.2.2.mono ?_
              rintro e2 w3 ⟨rfl, hd⟩
              obtain ⟨g1, hg1, hm1⟩ := hd
              have HF2 : Aside0 (DatF B g c n w w3 g1) := ⟨by
                obtain ⟨ts, t1, t2, t3⟩ := hg1
                exact ⟨ts, HZ2.out.1.trans t1, t2, t3⟩⟩
              have HM1 := Aside0.mk hm1
              clear hg1 hm1
              have HH2 : Aside0 (Halves pr cf g1 mid e b) := ⟨halves2 HL.out HR.out HT.out HBd.out.1 HBd.out.2.1 HBd.out.2.2.1 HBd.out.2.2.2.1 HBd.out.2.2.2.2.1 HBd.out.2.2.2.2.2.1 HBd.out.2.2.2.2.2.2.1 (fun j hj => HM1.out.off j (.inr hj))⟩
              have HA2 : Aside0 (AllF D n g1) := ⟨HA1.out.from_ HM1.out.from_ HM1.out.off (by have := HBd.out; have := HLim.out; omega)⟩
              by_cases r1 : mid < e
              · have dr31 : decide (mid < e) = true := by simpa using r1
                by_cases r2 : e < b
                · have dr32 : decide (e < b) = true := by simpa using r2
                  have HCs : Aside0 (∃ zs, DatM B g c w w3 zs ∧ (∀ j, zs.getD j 0 = g1 j) ∧ Calls Tryd.prog 75 #[.slice (some ⟨g, 0, none⟩) n c, .int .i64 (mid : Int), .int .i64 (e : Int), .int .i64 (b : Int), .func (.func fid) fa lb] w3 fun en w' => en = .returned (.tuple #[]) ∧ MergeEnd pr B g c n mid b g1 w3 w') := ⟨by
                    obtain ⟨zs, z1, z2, z3⟩ := HF2.out
                    have hfe : (fun j => zs.getD j 0) = g1 := funext z3
                    have := HBd.out
                    have := HLim.out
                    have hc := HIh.out mid e b zs w3 (by omega) (HCmp.out.later z1) z1.dat z2 (AllF.list HA2.out z2 z3) HB.out r1 r2 (by omega) (by omega) (by rw [hfe]; exact HH2.out.l) (by rw [hfe]; exact HH2.out.r) (by rw [hfe]; exact HH2.out.t)
                    rw [hfe] at hc
                    exact ⟨zs, z1, z3, hc⟩⟩
                  obtain ⟨zs3, hz3⟩ := HCs.out
                  have HZ3 := Aside0.mk hz3
                  clear r1 r2 hz3 HCs
                  go_wp2_with (fail)
                  refine HZ3.out.2.2.mono ?_
                  rintro e3 w4 ⟨rfl, hd⟩
                  obtain ⟨g2, hg1, hm1⟩ := hd
                  have HF3 : Aside0 (DatF B g c n w w4 g2) := ⟨by
                    obtain ⟨ts, t1, t2, t3⟩ := hg1
                    exact ⟨ts, HZ3.out.1.trans t1, t2, t3⟩⟩
                  have HM2 := Aside0.mk hm1
                  clear hg1 hm1
                  go_wp2
                  go_end0
                  exact ⟨rfl, g2, HF3.out, (sym_merge (cf := cf) HS.out HLim.out.1 HLim.out.2.1 HMid.out.1 HL.out HR.out HCut.out HEe.out HM1.out HM2.out).1⟩
                · have dr32 : decide (e < b) = false := by simpa using r2
                  obtain ⟨g2, hgE⟩ : ∃ t, t = g1 := ⟨_, rfl⟩
                  have HM2 : Aside0 (Merged pr g1 g2 mid b) := ⟨by rw [hgE]; exact HH2.out.same (fun h => r2 h.2) (by have := HBd.out; omega) (by have := HBd.out; omega)⟩
                  have HF3 : Aside0 (DatF B g c n w w3 g2) := ⟨by rw [hgE]; exact HF2.out⟩
                  clear hgE r1 r2
                  go_wp2
                  go_end0
                  exact ⟨rfl, g2, HF3.out, (sym_merge (cf := cf) HS.out HLim.out.1 HLim.out.2.1 HMid.out.1 HL.out HR.out HCut.out HEe.out HM1.out HM2.out).1⟩
              · have dr31 : decide (mid < e) = false := by simpa using r1
                obtain ⟨g2, hgE⟩ : ∃ t, t = g1 := ⟨_, rfl⟩
                have HM2 : Aside0 (Merged pr g1 g2 mid b) := ⟨by rw [hgE]; exact HH2.out.same (fun h => r1 h.1) (by have := HBd.out; omega) (by have := HBd.out; omega)⟩
                have HF3 : Aside0 (DatF B g c n w w3 g2) := ⟨by rw [hgE]; exact HF2.out⟩
                clear hgE r1
                go_wp2
                go_end0
                exact ⟨rfl, g2, HF3.out, (sym_merge (cf := cf) HS.out HLim.out.1 HLim.out.2.1 HMid.out.1 HL.out HR.out HCut.out HEe.out HM1.out HM2.out).1⟩
            · have dr22 : decide (i < mid) = false := by simpa using r2
              obtain ⟨g1, hgE⟩ : ∃ t, t = (rotF (fun j => xs.getD j 0) i m e) := ⟨_, rfl⟩
              have HM1 : Aside0 (Merged pr (rotF (fun j => xs.getD j 0) i m e) g1 a mid) := ⟨by rw [hgE]; exact HH1.out.same (fun h => r2 h.2) (by have := HBd.out; omega) (by have := HBd.out; omega)⟩
              have HF2 : Aside0 (DatF B g c n w wi g1) := ⟨by rw [hgE]; exact HF1.out⟩
              clear hgE r1 r2
              have HH2 : Aside0 (Halves pr cf g1 mid e b) := ⟨halves2 HL.out HR.out HT.out HBd.out.1 HBd.out.2.1 HBd.out.2.2.1 HBd.out.2.2.2.1 HBd.out.2.2.2.2.1 HBd.out.2.2.2.2.2.1 HBd.out.2.2.2.2.2.2.1 (fun j hj => HM1.out.off j (.inr hj))⟩
              have HA2 : Aside0 (AllF D n g1) := ⟨HA1.out.from_ HM1.out.from_ HM1.out.off (by have := HBd.out; have := HLim.out; omega)⟩
              by_cases r1 : mid < e
              · have dr31 : decide (mid < e) = true := by simpa using r1
                by_cases r2 : e < b
                · have dr32 : decide (e < b) = true := by simpa using r2
                  have HCs : Aside0 (∃ zs, DatM B g c w wi zs ∧ (∀ j, zs.getD j 0 = g1 j) ∧ Calls Tryd.prog 75 #[.slice (some ⟨g, 0, none⟩) n c, .int .i64 (mid : Int), .int .i64 (e : Int), .int .i64 (b : Int), .func (.func fid) fa lb] wi fun en w' => en = .returned (.tuple #[]) ∧ MergeEnd pr B g c n mid b g1 wi w') := ⟨by
                    obtain ⟨zs, z1, z2, z3⟩ := HF2.out
                    have hfe : (fun j => zs.getD j 0) = g1 := funext z3
                    have := HBd.out
                    have := HLim.out
                    have hc := HIh.out mid e b zs wi (by omega) (HCmp.out.later z1) z1.dat z2 (AllF.list HA2.out z2 z3) HB.out r1 r2 (by omega) (by omega) (by rw [hfe]; exact HH2.out.l) (by rw [hfe]; exact HH2.out.r) (by rw [hfe]; exact HH2.out.t)
                    rw [hfe] at hc
                    exact ⟨zs, z1, z3, hc⟩⟩
                  obtain ⟨zs3, hz3⟩ := HCs.out
                  have HZ3 := Aside0.mk hz3
                  clear r1 r2 hz3 HCs
                  go_wp2_with (fail)
                  refine HZ3.out.2.2.mono ?_
                  rintro e3 w4 ⟨rfl, hd⟩
                  obtain ⟨g2, hg1, hm1⟩ := hd
                  have HF3 : Aside0 (DatF B g c n w w4 g2) := ⟨by
                    obtain ⟨ts, t1, t2, t3⟩ := hg1
                    exact ⟨ts, HZ3.out.1.trans t1, t2, t3⟩⟩
                  have HM2 := Aside0.mk hm1
                  clear hg1 hm1
                  go_wp2
                  go_end0
                  exact ⟨rfl, g2, HF3.out, (sym_merge (cf := cf) HS.out HLim.out.1 HLim.out.2.1 HMid.out.1 HL.out HR.out HCut.out HEe.out HM1.out HM2.out).1⟩
                · have dr32 : decide (e < b) = false := by simpa using r2
                  obtain ⟨g2, hgE⟩ : ∃ t, t = g1 := ⟨_, rfl⟩
                  have HM2 : Aside0 (Merged pr g1 g2 mid b) := ⟨by rw [hgE]; exact HH2.out.same (fun h => r2 h.2) (by have := HBd.out; omega) (by have := HBd.out; omega)⟩
                  have HF3 : Aside0 (DatF B g c n w wi g2) := ⟨by rw [hgE]; exact HF2.out⟩
                  clear hgE r1 r2
                  go_wp2
                  go_end0
                  exact ⟨rfl, g2, HF3.out, (sym_merge (cf := cf) HS.out HLim.out.1 HLim.out.2.1 HMid.out.1 HL.out HR.out HCut.out HEe.out HM1.out HM2.out).1⟩
              · have dr31 : decide (mid < e) = false := by simpa using r1
                obtain ⟨g2, hgE⟩ : ∃ t, t = g1 := ⟨_, rfl⟩
                have HM2 : Aside0 (Merged pr g1 g2 mid b) := ⟨by rw [hgE]; exact HH2.out.same (fun h => r1 h.1) (by have := HBd.out; omega) (by have := HBd.out; omega)⟩
                have HF3 : Aside0 (DatF B g c n w wi g2) := ⟨by rw [hgE]; exact HF2.out⟩
                clear hgE r1
                go_wp2
                go_end0
                exact ⟨rfl, g2, HF3.out, (sym_merge (cf := cf) HS.out HLim.out.1 HLim.out.2.1 HMid.out.1 HL.out HR.out HCut.out HEe.out HM1.out HM2.out).1⟩
          · have dr21 : decide (a < i) = false := by simpa using r1
            obtain ⟨g1, hgE⟩ : ∃ t, t = (rotF (fun j => xs.getD j 0) i m e) := ⟨_, rfl⟩
            have HM1 : Aside0 (Merged pr (rotF (fun j => xs.getD j 0) i m e) g1 a mid) := ⟨by rw [hgE]; exact HH1.out.same (fun h => r1 h.1) (by have := HBd.out; omega) (by have := HBd.out; omega)⟩
            have HF2 : Aside0 (DatF B g c n w wi g1) := ⟨by rw [hgE]; exact HF1.out⟩
            clear hgE r1
            have HH2 : Aside0 (Halves pr cf g1 mid e b) := ⟨halves2 HL.out HR.out HT.out HBd.out.1 HBd.out.2.1 HBd.out.2.2.1 HBd.out.2.2.2.1 HBd.out.2.2.2.2.1 HBd.out.2.2.2.2.2.1 HBd.out.2.2.2.2.2.2.1 (fun j hj => HM1.out.off j (.inr hj))⟩
            have HA2 : Aside0 (AllF D n g1) := ⟨HA1.out.from_ HM1.out.from_ HM1.out.off (by have := HBd.out; have := HLim.out; omega)⟩
            by_cases r1 : mid < e
            · have dr31 : decide (mid < e) = true := by simpa using r1
              by_cases r2 : e < b
              · have dr32 : decide (e < b) = true := by simpa using r2
                have HCs : Aside0 (∃ zs, DatM B g c w wi zs ∧ (∀ j, zs.getD j 0 = g1 j) ∧ Calls Tryd.prog 75 #[.slice (some ⟨g, 0, none⟩) n c, .int .i64 (mid : Int), .int .i64 (e : Int), .int .i64 (b : Int), .func (.func fid) fa lb] wi fun en w' => en = .returned (.tuple #[]) ∧ MergeEnd pr B g c n mid b g1 wi w') := ⟨by
                  obtain ⟨zs, z1, z2, z3⟩ := HF2.out
                  have hfe : (fun j => zs.getD j 0) = g1 := funext z3
                  have := HBd.out
                  have := HLim.out
                  have hc := HIh.out mid e b zs wi (by omega) (HCmp.out.later z1) z1.dat z2 (AllF.list HA2.out z2 z3) HB.out r1 r2 (by omega) (by omega) (by rw [hfe]; exact HH2.out.l) (by rw [hfe]; exact HH2.out.r) (by rw [hfe]; exact HH2.out.t)
                  rw [hfe] at hc
                  exact ⟨zs, z1, z3, hc⟩⟩
                obtain ⟨zs3, hz3⟩ := HCs.out
                have HZ3 := Aside0.mk hz3
                clear r1 r2 hz3 HCs
                go_wp2_with (fail)
                refine HZ3.out.2.2.mono ?_
                rintro e3 w4 ⟨rfl, hd⟩
                obtain ⟨g2, hg1, hm1⟩ := hd
                have HF3 : Aside0 (DatF B g c n w w4 g2) := ⟨by
                  obtain ⟨ts, t1, t2, t3⟩ := hg1
                  exact ⟨ts, HZ3.out.1.trans t1, t2, t3⟩⟩
                have HM2 := Aside0.mk hm1
                clear hg1 hm1
                go_wp2
                go_end0
                exact ⟨rfl, g2, HF3.out, (sym_merge (cf := cf) HS.out HLim.out.1 HLim.out.2.1 HMid.out.1 HL.out HR.out HCut.out HEe.out HM1.out HM2.out).1⟩
              · have dr32 : decide (e < b) = false := by simpa using r2
                obtain ⟨g2, hgE⟩ : ∃ t, t = g1 := ⟨_, rfl⟩
                have HM2 : Aside0 (Merged pr g1 g2 mid b) := ⟨by rw [hgE]; exact HH2.out.same (fun h => r2 h.2) (by have := HBd.out; omega) (by have := HBd.out; omega)⟩
                have HF3 : Aside0 (DatF B g c n w wi g2) := ⟨by rw [hgE]; exact HF2.out⟩
                clear hgE r1 r2
                go_wp2
                go_end0
                exact ⟨rfl, g2, HF3.out, (sym_merge (cf := cf) HS.out HLim.out.1 HLim.out.2.1 HMid.out.1 HL.out HR.out HCut.out HEe.out HM1.out HM2.out).1⟩
            · have dr31 : decide (mid < e) = false := by simpa using r1
              obtain ⟨g2, hgE⟩ : ∃ t, t = g1 := ⟨_, rfl⟩
              have HM2 : Aside0 (Merged pr g1 g2 mid b) := ⟨by rw [hgE]; exact HH2.out.same (fun h => r1 h.1) (by have := HBd.out; omega) (by have := HBd.out; omega)⟩
              have HF3 : Aside0 (DatF B g c n w wi g2) := ⟨by rw [hgE]; exact HF2.out⟩
              clear hgE r1
              go_wp2
              go_end0
              exact ⟨rfl, g2, HF3.out, (sym_merge (cf := cf) HS.out HLim.out.1 HLim.out.2.1 HMid.out.1 HL.out HR.out HCut.out HEe.out HM1.out HM2.out).1⟩
      · have dq1 : decide (i < m) = false := by simpa using q1
        have HF1 : Aside0 (DatF B g c n w wi (rotF (fun j => xs.getD j 0) i m e)) := ⟨xs, HM.out, HN.out, fun j => (rot_nop (f := (fun j => xs.getD j 0)) (fun h => q1 h.1) HBd.out.2.1 HBd.out.2.2.1 j).symm⟩
        clear q1
        by_cases r1 : a < i
        · have dr21 : decide (a < i) = true := by simpa using r1
          by_cases r2 : i < mid
          · have dr22 : decide (i < mid) = true := by simpa using r2
            have HCs : Aside0 (∃ zs, DatM B g c w wi zs ∧ (∀ j, zs.getD j 0 = (rotF (fun j => xs.getD j 0) i m e) j) ∧ Calls Tryd.prog 75 #[.slice (some ⟨g, 0, none⟩) n c, .int .i64 (a : Int), .int .i64 (i : Int), .int .i64 (mid : Int), .func (.func fid) fa lb] wi fun en w' => en = .returned (.tuple #[]) ∧ MergeEnd pr B g c n a mid (rotF (fun j => xs.getD j 0) i m e) wi w') := ⟨by
              obtain ⟨zs, z1, z2, z3⟩ := HF1.out
              have hfe : (fun j => zs.getD j 0) = (rotF (fun j => xs.getD j 0) i m e) := funext z3
              have := HBd.out
              have := HLim.out
              have hc := HIh.out a i mid zs wi (by omega) (HCmp.out.later z1) z1.dat z2 (AllF.list HA1.out z2 z3) HB.out r1 r2 (by omega) (by omega) (by rw [hfe]; exact HH1.out.l) (by rw [hfe]; exact HH1.out.r) (by rw [hfe]; exact HH1.out.t)
              rw [hfe] at hc
              exact ⟨zs, z1, z3, hc⟩⟩
            obtain ⟨zs2, hz2⟩ := HCs.out
            have HZ2 := Aside0.mk hz2
            clear r1 r2 hz2 HCs
            go_wp2_with (fail)
            refine HZ2.out.2.2.mono ?_
            rintro e2 w3 ⟨rfl, hd⟩
            obtain ⟨g1, hg1, hm1⟩ := hd
            have HF2 : Aside0 (DatF B g c n w w3 g1) := ⟨by
              obtain ⟨ts, t1, t2, t3⟩ := hg1
              exact ⟨ts, HZ2.out.1.trans t1, t2, t3⟩⟩
            have HM1 := Aside0.mk hm1
            clear hg1 hm1
            have HH2 : Aside0 (Halves pr cf g1 mid e b) := ⟨halves2 HL.out HR.out HT.out HBd.out.1 HBd.out.2.1 HBd.out.2.2.1 HBd.out.2.2.2.1 HBd.out.2.2.2.2.1 HBd.out.2.2.2.2.2.1 HBd.out.2.2.2.2.2.2.1 (fun j hj => HM1.out.off j (.inr hj))⟩
            have HA2 : Aside0 (AllF D n g1) := ⟨HA1.out.from_ HM1.out.from_ HM1.out.off (by have := HBd.out; have := HLim.out; omega)⟩
            by_cases r1 : mid < e
            · have dr31 : decide (mid < e) = true := by simpa using r1
              by_cases r2 : e < b
              · have dr32 : decide (e < b) = true := by simpa using r2
                have HCs : Aside0 (∃ zs, DatM B g c w w3 zs ∧ (∀ j, zs.getD j 0 = g1 j) ∧ Calls Tryd.prog 75 #[.slice (some ⟨g, 0, none⟩) n c, .int .i64 (mid : Int), .int .i64 (e : Int), .int .i64 (b : Int), .func (.func fid) fa lb] w3 fun en w' => en = .returned (.tuple #[]) ∧ MergeEnd pr B g c n mid b g1 w3 w') := ⟨by
                  obtain ⟨zs, z1, z2, z3⟩ := HF2.out
                  have hfe : (fun j => zs.getD j 0) = g1 := funext z3
                  have := HBd.out
                  have := HLim.out
                  have hc := HIh.out mid e b zs w3 (by omega) (HCmp.out.later z1) z1.dat z2 (AllF.list HA2.out z2 z3) HB.out r1 r2 (by omega) (by omega) (by rw [hfe]; exact HH2.out.l) (by rw [hfe]; exact HH2.out.r) (by rw [hfe]; exact HH2.out.t)
                  rw [hfe] at hc
                  exact ⟨zs, z1, z3, hc⟩⟩
                obtain ⟨zs3, hz3⟩ := HCs.out
                have HZ3 := Aside0.mk hz3
                clear r1 r2 hz3 HCs
                go_wp2_with (fail)
                refine HZ3.out.2.2.mono ?_
                rintro e3 w4 ⟨rfl, hd⟩
                obtain ⟨g2, hg1, hm1⟩ := hd
                have HF3 : Aside0 (DatF B g c n w w4 g2) := ⟨by
                  obtain ⟨ts, t1, t2, t3⟩ := hg1
                  exact ⟨ts, HZ3.out.1.trans t1, t2, t3⟩⟩
                have HM2 := Aside0.mk hm1
                clear hg1 hm1
                go_wp2
                go_end0
                exact ⟨rfl, g2, HF3.out, (sym_merge (cf := cf) HS.out HLim.out.1 HLim.out.2.1 HMid.out.1 HL.out HR.out HCut.out HEe.out HM1.out HM2.out).1⟩
              · have dr32 : decide (e < b) = false := by simpa using r2
                obtain ⟨g2, hgE⟩ : ∃ t, t = g1 := ⟨_, rfl⟩
                have HM2 : Aside0 (Merged pr g1 g2 mid b) := ⟨by rw [hgE]; exact HH2.out.same (fun h => r2 h.2) (by have := HBd.out; omega) (by have := HBd.out; omega)⟩
                have HF3 : Aside0 (DatF B g c n w w3 g2) := ⟨by rw [hgE]; exact HF2.out⟩
                clear hgE r1 r2
                go_wp2
                go_end0
                exact ⟨rfl, g2, HF3.out, (sym_merge (cf := cf) HS.out HLim.out.1 HLim.out.2.1 HMid.out.1 HL.out HR.out HCut.out HEe.out HM1.out HM2.out).1⟩
            · have dr31 : decide (mid < e) = false := by simpa using r1
              obtain ⟨g2, hgE⟩ : ∃ t, t = g1 := ⟨_, rfl⟩
              have HM2 : Aside0 (Merged pr g1 g2 mid b) := ⟨by rw [hgE]; exact HH2.out.same (fun h => r1 h.1) (by have := HBd.out; omega) (by have := HBd.out; omega)⟩
              have HF3 : Aside0 (DatF B g c n w w3 g2) := ⟨by rw [hgE]; exact HF2.out⟩
              clear hgE r1
              go_wp2
              go_end0
              exact ⟨rfl, g2, HF3.out, (sym_merge (cf := cf) HS.out HLim.out.1 HLim.out.2.1 HMid.out.1 HL.out HR.out HCut.out HEe.out HM1.out HM2.out).1⟩
          · have dr22 : decide (i < mid) = false := by simpa using r2
            obtain ⟨g1, hgE⟩ : ∃ t, t = (rotF (fun j => xs.getD j 0) i m e) := ⟨_, rfl⟩
            have HM1 : Aside0 (Merged pr (rotF (fun j => xs.getD j 0) i m e) g1 a mid) := ⟨by rw [hgE]; exact HH1.out.same (fun h => r2 h.2) (by have := HBd.out; omega) (by have := HBd.out; omega)⟩
            have HF2 : Aside0 (DatF B g c n w wi g1) := ⟨by rw [hgE]; exact HF1.out⟩
            clear hgE r1 r2
            have HH2 : Aside0 (Halves pr cf g1 mid e b) := ⟨halves2 HL.out HR.out HT.out HBd.out.1 HBd.out.2.1 HBd.out.2.2.1 HBd.out.2.2.2.1 HBd.out.2.2.2.2.1 HBd.out.2.2.2.2.2.1 HBd.out.2.2.2.2.2.2.1 (fun j hj => HM1.out.off j (.inr hj))⟩
            have HA2 : Aside0 (AllF D n g1) := ⟨HA1.out.from_ HM1.out.from_ HM1.out.off (by have := HBd.out; have := HLim.out; omega)⟩
            by_cases r1 : mid < e
            · have dr31 : decide (mid < e) = true := by simpa using r1
              by_cases r2 : e < b
              · have dr32 : decide (e < b) = true := by simpa using r2
                have HCs : Aside0 (∃ zs, DatM B g c w wi zs ∧ (∀ j, zs.getD j 0 = g1 j) ∧ Calls Tryd.prog 75 #[.slice (some ⟨g, 0, none⟩) n c, .int .i64 (mid : Int), .int .i64 (e : Int), .int .i64 (b : Int), .func (.func fid) fa lb] wi fun en w' => en = .returned (.tuple #[]) ∧ MergeEnd pr B g c n mid b g1 wi w') := ⟨by
                  obtain ⟨zs, z1, z2, z3⟩ := HF2.out
                  have hfe : (fun j => zs.getD j 0) = g1 := funext z3
                  have := HBd.out
                  have := HLim.out
                  have hc := HIh.out mid e b zs wi (by omega) (HCmp.out.later z1) z1.dat z2 (AllF.list HA2.out z2 z3) HB.out r1 r2 (by omega) (by omega) (by rw [hfe]; exact HH2.out.l) (by rw [hfe]; exact HH2.out.r) (by rw [hfe]; exact HH2.out.t)
                  rw [hfe] at hc
                  exact ⟨zs, z1, z3, hc⟩⟩
                obtain ⟨zs3, hz3⟩ := HCs.out
                have HZ3 := Aside0.mk hz3
                clear r1 r2 hz3 HCs
                go_wp2_with (fail)
                refine HZ3.out.2.2.mono ?_
                rintro e3 w4 ⟨rfl, hd⟩
                obtain ⟨g2, hg1, hm1⟩ := hd
                have HF3 : Aside0 (DatF B g c n w w4 g2) := ⟨by
                  obtain ⟨ts, t1, t2, t3⟩ := hg1
                  exact ⟨ts, HZ3.out.1.trans t1, t2, t3⟩⟩
                have HM2 := Aside0.mk hm1
                clear hg1 hm1
                go_wp2
                go_end0
                exact ⟨rfl, g2, HF3.out, (sym_merge (cf := cf) HS.out HLim.out.1 HLim.out.2.1 HMid.out.1 HL.out HR.out HCut.out HEe.out HM1.out HM2.out).1⟩
              · have dr32 : decide (e < b) = false := by simpa using r2
                obtain ⟨g2, hgE⟩ : ∃ t, t = g1 := ⟨_, rfl⟩
                have HM2 : Aside0 (Merged pr g1 g2 mid b) := ⟨by rw [hgE]; exact HH2.out.same (fun h => r2 h.2) (by have := HBd.out; omega) (by have := HBd.out; omega)⟩
                have HF3 : Aside0 (DatF B g c n w wi g2) := ⟨by rw [hgE]; exact HF2.out⟩
                clear hgE r1 r2
                go_wp2
                go_end0
                exact ⟨rfl, g2, HF3.out, (sym_merge (cf := cf) HS.out HLim.out.1 HLim.out.2.1 HMid.out.1 HL.out HR.out HCut.out HEe.out HM1.out HM2.out).1⟩
            · have dr31 : decide (mid < e) = false := by simpa using r1
              obtain ⟨g2, hgE⟩ : ∃ t, t = g1 := ⟨_, rfl⟩
              have HM2 : Aside0 (Merged pr g1 g2 mid b) := ⟨by rw [hgE]; exact HH2.out.same (fun h => r1 h.1) (by have := HBd.out; omega) (by have := HBd.out; omega)⟩
              have HF3 : Aside0 (DatF B g c n w wi g2) := ⟨by rw [hgE]; exact HF2.out⟩
              clear hgE r1
              go_wp2
              go_end0
              exact ⟨rfl, g2, HF3.out, (sym_merge (cf := cf) HS.out HLim.out.1 HLim.out.2.1 HMid.out.1 HL.out HR.out HCut.out HEe.out HM1.out HM2.out).1⟩
        · have dr21 : decide (a < i) = false := by simpa using r1
          obtain ⟨g1, hgE⟩ : ∃ t, t = (rotF (fun j => xs.getD j 0) i m e) := ⟨_, rfl⟩
          have HM1 : Aside0 (Merged pr (rotF (fun j => xs.getD j 0) i m e) g1 a mid) := ⟨by rw [hgE]; exact HH1.out.same (fun h => r1 h.1) (by have := HBd.out; omega) (by have := HBd.out; omega)⟩
          have HF2 : Aside0 (DatF B g c n w wi g1) := ⟨by rw [hgE]; exact HF1.out⟩
          clear hgE r1
          have HH2 : Aside0 (Halves pr cf g1 mid e b) := ⟨halves2 HL.out HR.out HT.out HBd.out.1 HBd.out.2.1 HBd.out.2.2.1 HBd.out.2.2.2.1 HBd.out.2.2.2.2.1 HBd.out.2.2.2.2.2.1 HBd.out.2.2.2.2.2.2.1 (fun j hj => HM1.out.off j (.inr hj))⟩
          have HA2 : Aside0 (AllF D n g1) := ⟨HA1.out.from_ HM1.out.from_ HM1.out.off (by have := HBd.out; have := HLim.out; omega)⟩
          by_cases r1 : mid < e
          · have dr31 : decide (mid < e) = true := by simpa using r1
            by_cases r2 : e < b
            · have dr32 : decide (e < b) = true := by simpa using r2
              have HCs : Aside0 (∃ zs, DatM B g c w wi zs ∧ (∀ j, zs.getD j 0 = g1 j) ∧ Calls Tryd.prog 75 #[.slice (some ⟨g, 0, none⟩) n c, .int .i64 (mid : Int), .int .i64 (e : Int), .int .i64 (b : Int), .func (.func fid) fa lb] wi fun en w' => en = .returned (.tuple #[]) ∧ MergeEnd pr B g c n mid b g1 wi w') := ⟨by
                obtain ⟨zs, z1, z2, z3⟩ := HF2.out
                have hfe : (fun j => zs.getD j 0) = g1 := funext z3
                have := HBd.out
                have := HLim.out
                have hc := HIh.out mid e b zs wi (by omega) (HCmp.out.later z1) z1.dat z2 (AllF.list HA2.out z2 z3) HB.out r1 r2 (by omega) (by omega) (by rw [hfe]; exact HH2.out.l) (by rw [hfe]; exact HH2.out.r) (by rw [hfe]; exact HH2.out.t)
                rw [hfe] at hc
                exact ⟨zs, z1, z3, hc⟩⟩
              obtain ⟨zs3, hz3⟩ := HCs.out
              have HZ3 := Aside0.mk hz3
              clear r1 r2 hz3 HCs
              go_wp2_with (fail)
              refine HZ3.out.2.2.mono ?_
              rintro e3 w4 ⟨rfl, hd⟩
              obtain ⟨g2, hg1, hm1⟩ := hd
              have HF3 : Aside0 (DatF B g c n w w4 g2) := ⟨by
                obtain ⟨ts, t1, t2, t3⟩ := hg1
                exact ⟨ts, HZ3.out.1.trans t1, t2, t3⟩⟩
              have HM2 := Aside0.mk hm1
              clear hg1 hm1
              go_wp2
              go_end0
              exact ⟨rfl, g2, HF3.out, (sym_merge (cf := cf) HS.out HLim.out.1 HLim.out.2.1 HMid.out.1 HL.out HR.out HCut.out HEe.out HM1.out HM2.out).1⟩
            · have dr32 : decide (e < b) = false := by simpa using r2
              obtain ⟨g2, hgE⟩ : ∃ t, t = g1 := ⟨_, rfl⟩
              have HM2 : Aside0 (Merged pr g1 g2 mid b) := ⟨by rw [hgE]; exact HH2.out.same (fun h => r2 h.2) (by have := HBd.out; omega) (by have := HBd.out; omega)⟩
              have HF3 : Aside0 (DatF B g c n w wi g2) := ⟨by rw [hgE]; exact HF2.out⟩
              clear hgE r1 r2
              go_wp2
              go_end0
              exact ⟨rfl, g2, HF3.out, (sym_merge (cf := cf) HS.out HLim.out.1 HLim.out.2.1 HMid.out.1 HL.out HR.out HCut.out HEe.out HM1.out HM2.out).1⟩
          · have dr31 : decide (mid < e) = false := by simpa using r1
            obtain ⟨g2, hgE⟩ : ∃ t, t = g1 := ⟨_, rfl⟩
            have HM2 : Aside0 (Merged pr g1 g2 mid b) := ⟨by rw [hgE]; exact HH2.out.same (fun h => r1 h.1) (by have := HBd.out; omega) (by have := HBd.out; omega)⟩
            have HF3 : Aside0 (DatF B g c n w wi g2) := ⟨by rw [hgE]; exact HF2.out⟩
            clear hgE r1
            go_wp2
            go_end0
            exact ⟨rfl, g2, HF3.out, (sym_merge (cf := cf) HS.out HLim.out.1 HLim.out.2.1 HMid.out.1 HL.out HR.out HCut.out HEe.out HM1.out HM2.out).1⟩
end Go.Proofs.YtdmeocoehahopaaDoor.Sort
namespace Go.Proofs.YtdmeocoehahopaaDoor.Sort
open Go.RowKit Go.Proofs.YtdmeocoehahopaaDoorW.PrintWords Go.Proofs.YtdmeocoehahopaaDoorW.PrintLast Go.Proofs.YtdmeocoehahopaaDoorW.PrintMore Go.Proofs.YtdmeocoehahopaaDoor.K Go.Proofs.YtdmeocoehahopaaDoor.RI
set_option linter.unusedVariables false
set_option linter.unusedSimpArgs false
theorem sym_ok {pr : Int → Int → Prop} (hS : Strict pr) (fid : Nat) (fa lb : Array Value) (cf : Int → Int → Int) (D : Int → Prop) (g n c B : Nat) : ∀ L, SymOk pr fid fa lb cf D g n c B L
  | 0 => fun a m b xs w h => by omega
  | L + 1 => fun a m b xs w h hCmp hxs hn hD hB ham hmb hbn hm9 hL hR hT => by
    have ih : SymOk pr fid fa lb cf D g n c B (b - a) := fun a' m' b' xs' w' h' => sym_ok hS fid fa lb cf D g n c B L a' m' b' xs' w' (by omega)
    by_cases h1 : m = a + 1
    · exact sym_left_calls hS fid fa lb cf D g n c B a m b xs w hCmp hxs hn hD hB ham hmb hbn hm9 hL hR hT h1
    · by_cases h2 : b = m + 1
      · exact sym_right_calls hS fid fa lb cf D g n c B a m b xs w hCmp hxs hn hD hB ham hmb hbn hm9 hL hR hT h2 h1
      · by_cases hmm : (a + b) / 2 < m
        · exact sym_low_calls hS fid fa lb cf D g n c B a m b xs w hCmp hxs hn hD hB ham hmb hbn hm9 hL hR hT ih h1 h2 _ rfl hmm
        · exact sym_high_calls hS fid fa lb cf D g n c B a m b xs w hCmp hxs hn hD hB ham hmb hbn hm9 hL hR hT ih h1 h2 _ rfl hmm
end Go.Proofs.YtdmeocoehahopaaDoor.Sort
namespace Go.Proofs.YtdmeocoehahopaaDoor.Sort
open Go.RowKit
set_option linter.unusedVariables false
set_option linter.unusedSimpArgs false
theorem swp_getD {xs : List Int} {j : Nat} (h : j + 1 < xs.length) (t : Nat) : (swp xs j).getD t 0 = if t = j then xs.getD (j + 1) 0 else if t = j + 1 then xs.getD j 0 else xs.getD t 0 := by
  unfold swp
  exact getD_set2 _ _ h (by omega) t
theorem insIn_rot {pr : Int → Int → Prop} {cf : Int → Int → Int} (hS : Strict pr) (a : Nat) : ∀ (j : Nat) (xs : List Int), a ≤ j → j < xs.length → SortedOn pr (fun t => xs.getD t 0) a j →
    (∀ p, a ≤ p → p < j → xs.getD p 0 ≠ xs.getD j 0 ∧ (cf (xs.getD j 0) (xs.getD p 0) < 0 ↔ pr (xs.getD j 0) (xs.getD p 0))) →
    ∃ i, a ≤ i ∧ i ≤ j ∧ (∀ t, (insIn (ltOf cf) a j xs).getD t 0 = rotF (fun t => xs.getD t 0) i j (j + 1) t) ∧ (∀ h, a ≤ h → h < i → pr (xs.getD h 0) (xs.getD j 0)) ∧ (∀ h, i ≤ h → h < j → pr (xs.getD j 0) (xs.getD h 0))
  | 0, xs, haj, hj, hs, ht => ⟨0, haj, Nat.le_refl _, fun t => (rot_id' (fun t => xs.getD t 0) 0 t).symm, fun h h1 h2 => by omega, fun h h1 h2 => by omega⟩
  | j + 1, xs, haj, hj, hs, ht => by
    rcases Nat.lt_or_ge j a with hlt | hge
    · have e : a = j + 1 := by omega
      subst e
      refine ⟨j + 1, Nat.le_refl _, Nat.le_refl _, fun t => ?_, fun h h1 h2 => by omega, fun h h1 h2 => by omega⟩
      rw [insIn_self]
      exact (rot_id' (fun t => xs.getD t 0) (j + 1) t).symm
    · have h0 := ht j hge (by omega)
      by_cases hc : cf (xs.getD (j + 1) 0) (xs.getD j 0) < 0
      · have hins : insIn (ltOf cf) a (j + 1) xs = insIn (ltOf cf) a j (swp xs j) := by
          show (if a < j + 1 ∧ ltOf cf (xs.getD (j + 1) 0) (xs.getD j 0) = true then insIn (ltOf cf) a j (swp xs j) else xs) = _
          rw [if_pos ⟨by omega, by unfold ltOf; simpa using hc⟩]
        have g1 : ∀ t, t < j → (swp xs j).getD t 0 = xs.getD t 0 := fun t h => by rw [swp_getD hj, if_neg (by omega), if_neg (by omega)]
        have g2 : (swp xs j).getD j 0 = xs.getD (j + 1) 0 := by rw [swp_getD hj, if_pos rfl]
        have g3 : (swp xs j).getD (j + 1) 0 = xs.getD j 0 := by rw [swp_getD hj, if_neg (by omega), if_pos rfl]
        have g4 : ∀ t, j + 1 < t → (swp xs j).getD t 0 = xs.getD t 0 := fun t h => by rw [swp_getD hj, if_neg (by omega), if_neg (by omega)]
        obtain ⟨i, i1, i2, i3, i4, i5⟩ := insIn_rot hS a j (swp xs j) hge (by rw [swp_length]; omega) (fun p q hp hpq hq => by
          show pr ((swp xs j).getD p 0) ((swp xs j).getD q 0)
          rw [g1 p (by omega), g1 q hq]
          exact hs p q hp hpq (by omega)) (fun p hp1 hp2 => by
          rw [g1 p hp2, g2]
          exact ht p hp1 (by omega))
        refine ⟨i, i1, by omega, fun t => ?_, fun h h1 h2 => ?_, fun h h1 h2 => ?_⟩
        · rw [hins, i3 t]
          unfold rotF
          rcases Nat.lt_or_ge t i with c1 | c1
          · rw [if_neg (by omega), if_neg (by omega), if_neg (by omega), if_neg (by omega)]
            exact g1 t (by omega)
          · rcases Nat.lt_or_ge i t with c2 | c2
            · rcases Nat.lt_or_ge j t with c3 | c3
              · rcases Nat.lt_or_ge (j + 1) t with c4 | c4
                · rw [if_neg (by omega), if_neg (by omega), if_neg (by omega), if_neg (by omega)]
                  exact g4 t c4
                · obtain rfl : t = j + 1 := by omega
                  rw [if_neg (by omega), if_neg (by omega), if_neg (by omega), if_pos (by omega)]
                  show (swp xs j).getD (j + 1) 0 = _
                  rw [g3]
                  congr 1 <;> omega
              · rw [if_neg (by omega), if_pos (by omega), if_neg (by omega), if_pos (by omega)]
                show (swp xs j).getD _ 0 = xs.getD _ 0
                rw [g1 _ (by omega)]
                congr 1 <;> omega
            · obtain rfl : t = i := by omega
              rw [if_pos (by omega), if_pos (by omega)]
              show (swp xs j).getD _ 0 = xs.getD _ 0
              rw [show j + (t - t) = j by omega, g2]
              congr 1 <;> omega
        · have := i4 h h1 h2
          rwa [g1 h (by omega), g2] at this
        · rcases Nat.lt_or_ge h j with c | c
          · have := i5 h h1 c
            rwa [g1 h c, g2] at this
          · obtain rfl : h = j := by omega
            exact h0.2.1 hc
      · have hins : insIn (ltOf cf) a (j + 1) xs = xs := by
          show (if a < j + 1 ∧ ltOf cf (xs.getD (j + 1) 0) (xs.getD j 0) = true then insIn (ltOf cf) a j (swp xs j) else xs) = _
          rw [if_neg (fun h => hc (by simpa [ltOf] using h.2))]
        have hp : pr (xs.getD j 0) (xs.getD (j + 1) 0) := by
          rcases hS.total _ _ h0.1 with h9 | h9
          · exact h9
          · exact absurd (h0.2.2 h9) hc
        refine ⟨j + 1, by omega, Nat.le_refl _, fun t => ?_, fun h h1 h2 => ?_, fun h h1 h2 => by omega⟩
        · rw [hins]
          exact (rot_id' (fun t => xs.getD t 0) (j + 1) t).symm
        · rcases Nat.lt_or_ge h j with c | c
          · exact hS.trans _ _ _ (hs h j h1 c (by omega)) hp
          · obtain rfl : h = j := by omega
            exact hp
theorem ins_block {pr : Int → Int → Prop} {cf : Int → Int → Int} (hS : Strict pr) (xs : List Int) (a : Nat) : ∀ (m : Nat), a + m < xs.length →
    (∀ p q, a ≤ p → p < q → q ≤ a + m → xs.getD p 0 ≠ xs.getD q 0 ∧ (cf (xs.getD q 0) (xs.getD p 0) < 0 ↔ pr (xs.getD q 0) (xs.getD p 0))) →
    Merged pr (fun t => xs.getD t 0) (fun t => (insOut (ltOf cf) a m xs).getD t 0) a (a + 1 + m)
  | 0, hl, ht => ⟨fun i j hi hij hj => by omega, fun i h1 h2 => ⟨i, h1, h2, rfl⟩, fun _ _ => rfl⟩
  | m + 1, hl, ht => by
    have ih := ins_block hS xs a m (by omega) (fun p q h1 h2 h3 => ht p q h1 h2 (by omega))
    have hoff : (insOut (ltOf cf) a m xs).getD (a + 1 + m) 0 = xs.getD (a + 1 + m) 0 := ih.off _ (.inr (Nat.le_refl _))
    obtain ⟨i, i1, i2, i3, i4, i5⟩ := insIn_rot (cf := cf) hS a (a + 1 + m) (insOut (ltOf cf) a m xs) (by omega) (by rw [insOut_length]; omega) ih.sorted (fun p p1 p2 => by
      obtain ⟨q, q1, q2, q3⟩ := ih.from_ p p1 p2
      replace q3 : (insOut (ltOf cf) a m xs).getD p 0 = xs.getD q 0 := q3
      rw [q3, hoff]
      exact ht q _ q1 q2 (by omega))
    have hm := OneRt.merged (f := fun t => (insOut (ltOf cf) a m xs).getD t 0) (i := i) hS ih.sorted ⟨i1, Nat.le_refl _, i2, i4, i5⟩
    have he : (fun t => (insOut (ltOf cf) a (m + 1) xs).getD t 0) = rotF (fun t => (insOut (ltOf cf) a m xs).getD t 0) i (a + 1 + m) (a + 1 + m + 1) := funext i3
    rw [he]
    have h1 : FromOn (fun t => xs.getD t 0) (fun t => (insOut (ltOf cf) a m xs).getD t 0) a (a + 1 + m + 1) := fun i hi1 hi2 => by
      rcases Nat.lt_or_ge i (a + 1 + m) with c | c
      · obtain ⟨q, q1, q2, q3⟩ := ih.from_ i hi1 c
        exact ⟨q, q1, by omega, q3⟩
      · exact ⟨i, hi1, hi2, ih.off i (.inr c)⟩
    have h2 : SameOff (fun t => xs.getD t 0) (fun t => (insOut (ltOf cf) a m xs).getD t 0) a (a + 1 + m + 1) := fun i hi => ih.off i (by omega)
    exact Merged.comp h1 h2 hm
def Good (pr : Int → Int → Prop) (f0 h : Nat → Int) (a b : Nat) : Prop := SortedOn pr h a b ∧ FromOn f0 h a b
theorem Good.congr {pr : Int → Int → Prop} {f0 h g : Nat → Int} {a b : Nat} (k : Good pr f0 h a b) (he : ∀ j, a ≤ j → j < b → g j = h j) : Good pr f0 g a b :=
  ⟨fun i j hi hij hj => by rw [he i hi (by omega), he j (by omega) hj]; exact k.1 i j hi hij hj, fun i h1 h2 => by rw [he i h1 h2]; exact k.2 i h1 h2⟩
inductive Front (G : Nat → Nat → Prop) (s : Nat) : Nat → Prop
  | nil : Front G s 0
  | snoc {a : Nat} : Front G s a → G a (a + s) → Front G s (a + s)
inductive Tail (G : Nat → Nat → Prop) (s n : Nat) : Nat → Prop
  | last {a : Nat} : a ≤ n → n - a < s → G a n → Tail G s n a
  | more {a : Nat} : a + s ≤ n → G a (a + s) → Tail G s n (a + s) → Tail G s n a
theorem Front.congr {pr : Int → Int → Prop} {f0 h g : Nat → Int} {s a : Nat} (k : Front (Good pr f0 h) s a) : (∀ j, j < a → g j = h j) → Front (Good pr f0 g) s a := by
  induction k with
  | nil => exact fun _ => .nil
  | snoc k1 k2 ih => exact fun he => .snoc (ih fun j hj => he j (by omega)) (k2.congr fun j _ hj => he j hj)
theorem Tail.congr {pr : Int → Int → Prop} {f0 h g : Nat → Int} {s n a : Nat} (k : Tail (Good pr f0 h) s n a) : (∀ j, a ≤ j → j < n → g j = h j) → Tail (Good pr f0 g) s n a := by
  induction k with
  | last h1 h2 h3 => exact fun he => .last h1 h2 (h3.congr he)
  | more h1 h2 h3 ih => exact fun he => .more h1 (h2.congr fun j hj1 hj2 => he j hj1 (by omega)) (ih fun j hj1 hj2 => he j (by omega) hj2)
theorem Front.tail {G : Nat → Nat → Prop} {s n a : Nat} (k : Front G s a) : Tail G s n a → a ≤ n → Tail G s n 0 := by
  induction k with
  | nil => exact fun h _ => h
  | snoc k1 k2 ih => exact fun h hn => ih (.more hn k2 h) (by omega)
theorem Tail.two {G : Nat → Nat → Prop} {s n a : Nat} (k : Tail G s n a) (h : a + 2 * s ≤ n) (hs : 0 < s) : G a (a + s) ∧ G (a + s) (a + 2 * s) ∧ Tail G s n (a + 2 * s) := by
  cases k with
  | last h1 h2 h3 => omega
  | more h1 h2 h3 =>
    cases h3 with
    | last g1 g2 g3 => omega
    | more g1 g2 g3 =>
      rw [show a + s + s = a + 2 * s by omega] at g2 g3
      exact ⟨h2, g2, g3⟩
theorem Tail.end_ {G : Nat → Nat → Prop} {s n a : Nat} (k : Tail G s n a) (h : n < a + 2 * s) (hn : a ≤ n) : (a + s < n ∧ G a (a + s) ∧ G (a + s) n) ∨ (n ≤ a + s ∧ G a n) := by
  cases k with
  | last h1 h2 h3 => exact .inr ⟨by omega, h3⟩
  | more h1 h2 h3 =>
    rcases Nat.lt_or_ge (a + s) n with c | c
    · cases h3 with
      | last g1 g2 g3 => exact .inl ⟨c, h2, g3⟩
      | more g1 g2 g3 => omega
    · obtain rfl : n = a + s := by omega
      exact .inr ⟨Nat.le_refl _, h2⟩
theorem Tail.whole {G : Nat → Nat → Prop} {s n : Nat} (k : Tail G s n 0) (h : n ≤ s) (hn : 0 < s) : G 0 n := by
  cases k with
  | last h1 h2 h3 => exact h3
  | more h1 h2 h3 =>
    obtain rfl : n = 0 + s := by omega
    exact h2
/-- What the comparison tells of what stood ahead. -/
def Ord0 (pr : Int → Int → Prop) (cf : Int → Int → Int) (f0 : Nat → Int) (n : Nat) : Prop := ∀ p q, p < q → q < n → f0 p ≠ f0 q ∧ (cf (f0 q) (f0 p) < 0 ↔ pr (f0 q) (f0 p))
theorem good_tells {pr : Int → Int → Prop} {cf : Int → Int → Int} {f0 h : Nat → Int} {a m b n : Nat} (hO : Ord0 pr cf f0 n) (hl : Good pr f0 h a m) (hr : Good pr f0 h m b) (hb : b ≤ n) : Tells2 pr cf h a m b := fun p q p1 p2 q1 q2 => by
  obtain ⟨p', p1', p2', p3'⟩ := hl.2 p p1 p2
  obtain ⟨q', q1', q2', q3'⟩ := hr.2 q q1 q2
  rw [p3', q3']
  exact hO p' q' (by omega) (by omega)
theorem good_merged {pr : Int → Int → Prop} {f0 h g : Nat → Int} {a m b : Nat} (ham : a ≤ m) (hmb : m ≤ b) (hl : Good pr f0 h a m) (hr : Good pr f0 h m b) (hm : Merged pr h g a b) : Good pr f0 g a b :=
  ⟨hm.sorted, fun i h1 h2 => by
    obtain ⟨j, j1, j2, j3⟩ := hm.from_ i h1 h2
    rw [j3]
    rcases Nat.lt_or_ge j m with c | c
    · obtain ⟨t, t1, t2, t3⟩ := hl.2 j j1 c
      exact ⟨t, t1, by omega, t3⟩
    · obtain ⟨t, t1, t2, t3⟩ := hr.2 j c j2
      exact ⟨t, by omega, t2, t3⟩⟩
theorem good_block {pr : Int → Int → Prop} {cf : Int → Int → Int} {f0 : Nat → Int} {ys : List Int} {a b n : Nat} (hS : Strict pr) (hO : Ord0 pr cf f0 n) (hl : ys.length = n) (hb : b ≤ n) (hab : a ≤ b) (he : ∀ j, a ≤ j → ys.getD j 0 = f0 j) :
    Good pr f0 (fun t => (insOut (ltOf cf) a (b - (a + 1)) ys).getD t 0) a b ∧ SameOff (fun t => ys.getD t 0) (fun t => (insOut (ltOf cf) a (b - (a + 1)) ys).getD t 0) a b := by
  rcases Nat.lt_or_ge a b with c | c
  · have hm := ins_block (cf := cf) hS ys a (b - (a + 1)) (by omega) (fun p q h1 h2 h3 => by
      rw [he p h1, he q (by omega)]
      exact hO p q h2 (by omega))
    rw [show a + 1 + (b - (a + 1)) = b by omega] at hm
    refine ⟨⟨hm.sorted, fun i h1 h2 => ?_⟩, hm.off⟩
    obtain ⟨j, j1, j2, j3⟩ := hm.from_ i h1 h2
    exact ⟨j, j1, j2, by rw [j3]; exact he j j1⟩
  · have e : b - (a + 1) = 0 := by omega
    rw [e]
    exact ⟨⟨fun i j _ _ _ => by omega, fun i _ _ => by omega⟩, fun _ _ => rfl⟩
end Go.Proofs.YtdmeocoehahopaaDoor.Sort
namespace Go.Proofs.YtdmeocoehahopaaDoor.Sort
open Go.RowKit Go.Proofs.YtdmeocoehahopaaDoorW.PrintWords Go.Proofs.YtdmeocoehahopaaDoorW.PrintLast Go.Proofs.YtdmeocoehahopaaDoorW.PrintMore Go.Proofs.YtdmeocoehahopaaDoor.K Go.Proofs.YtdmeocoehahopaaDoor.RI
set_option linter.unusedVariables false
set_option linter.unusedSimpArgs false
set_option maxHeartbeats 16000000 in
set_option maxRecDepth 100000 in
theorem stable_calls {pr : Int → Int → Prop} (hS : Strict pr) (fid : Nat) (fa lb : Array Value) (cf : Int → Int → Int) (D : Int → Prop) (g n c B : Nat) (xs : List Int) (w : World) (hCmp : Cmp fid fa lb cf D B g w) (hxs : Dat w g c xs) (hn : xs.length = n) (hD : ∀ x ∈ xs, D x) (hB : B ≤ g) (hm9 : n ≤ 1000000) (hO : Ord0 pr cf (fun j => xs.getD j 0) n) :
    Calls Tryd.prog 69 #[.slice (some ⟨g, 0, none⟩) n c, .int .i64 (n : Int), .func (.func fid) fa lb] w fun e w' => e = .returned (.tuple #[]) ∧ ∃ h, DatF B g c n w w' h ∧ Good pr (fun j => xs.getD j 0) h 0 n := by
  have hent := hCmp.enters
  have HCmp := Aside0.mk hCmp
  have HX := Aside0.mk (DatM.refl (B := B) hxs)
  have HD := Aside0.mk hD
  have HB := Aside0.mk hB
  have HN := Aside0.mk hn
  have HO := Aside0.mk hO
  have HS := Aside0.mk hS
  have HM9 := Aside0.mk hm9
  have HA0 : Aside0 (AllF D n (fun j => xs.getD j 0)) := ⟨by have h9 := list_allF hD; rwa [hn] at h9⟩
  have HFr : Aside0 (∀ h a b, FromOn (fun j => xs.getD j 0) h a b → ∀ i, a ≤ i → i < b → b ≤ n → D (h i)) := ⟨fun h a b hf i h1 h2 h3 => by
    obtain ⟨j, j1, j2, j3⟩ := hf i h1 h2
    rw [j3]
    exact HA0.out j (by omega)⟩
  obtain ⟨f0, hf0⟩ : ∃ f0, f0 = (fun j => xs.getD j 0) := ⟨_, rfl⟩
  rw [← hf0] at HO HA0 HFr ⊢
  have HF0 := Aside0.mk hf0
  clear hCmp hxs hn hD hB hO hm9 hS hf0
  go_enter Tryd.func69, Tryd.ntmps69
  go_wp2_with (fail)
  go_loopw [7, 8] (fun s t wr => ∃ a b : Nat, s = .int .i64 (a : Int) ∧ t = .int .i64 (b : Int) ∧ Aside0 (b = a + 20 ∧ a ≤ n ∧ ∃ ys, DatM B g c w wr ys ∧ ys.length = n ∧ AllF D n (fun j => ys.getD j 0) ∧ Front (Good pr f0 (fun j => ys.getD j 0)) 20 a ∧ ∀ j, a ≤ j → ys.getD j 0 = f0 j)) (fun s _ _ => n + 1 - (intOf s).toNat)
  case atStart => exact ⟨0, 20, rfl, rfl, ⟨rfl, Nat.zero_le _, xs, HX.out, HN.out, by rw [← HF0.out]; exact HA0.out, .nil, fun j _ => by rw [HF0.out]⟩⟩
  case round =>
    obtain ⟨a, b, rfl, rfl, HR⟩ := hrel
    obtain ⟨hb, han, ys, y1, y2, y3, y4, y5⟩ := HR.out
    have hm9 := HM9.out
    by_cases hbn : b ≤ n
    · have d1 : decide ((b : Int) ≤ (n : Int)) = true := by simp; omega
      have d2 : decide (b ≤ n) = true := by simpa using hbn
      have hwb : IntKind.i64.wrap ((b : Int) + 20) = (b : Int) + 20 := w_i64 _ (by omega) (by omega)
      have HC := Aside0.mk (insertion_calls fid fa lb cf D g n c B a b ys wr (HCmp.out.later y1) y1.dat y2 (y3.list y2 (fun _ => rfl)) HB.out (by omega) hbn hm9)
      have HG := Aside0.mk (good_block (ys := ys) HS.out HO.out y2 hbn (show a ≤ b by omega) y5)
      have HY := Aside0.mk (And.intro y1 (And.intro y2 (And.intro y3 (And.intro y4 y5))))
      have HAb := Aside0.mk (And.intro hb hbn)
      clear hb han y1 y2 y3 y4 y5 hm9 hbn HR
      go_wp2_with (fail)
      refine HC.out.mono ?_
      rintro e w2 ⟨rfl, hm⟩
      have HM := Aside0.mk hm
      clear hm
      go_wp2
      refine ⟨⟨b, b + 20, rfl, by go_num, ⟨rfl, HAb.out.2, insOut (ltOf cf) a (b - (a + 1)) ys, HY.out.1.trans HM.out, by rw [insOut_length]; exact HY.out.2.1, ?_, ?_, ?_⟩⟩, by have := HAb.out; simp [intOf]; omega⟩
      · intro j hj
        by_cases hi : a ≤ j ∧ j < b
        · exact HFr.out _ a b HG.out.1.2 j hi.1 hi.2 HAb.out.2
        · have h9 := HG.out.2 j (by omega)
          exact h9 ▸ HY.out.2.2.1 j hj
      · have h8 : Front (Good pr f0 (fun t => (insOut (ltOf cf) a (b - (a + 1)) ys).getD t 0)) 20 a := HY.out.2.2.2.1.congr fun j hj => HG.out.2 j (.inl hj)
        have h9 := HG.out.1
        rw [HAb.out.1] at h9 h8 ⊢
        exact .snoc h8 h9
      · intro j hj
        have h9 := HG.out.2 j (.inr hj)
        exact h9.trans (HY.out.2.2.2.2 j (by have := HAb.out; omega))
    · have d1 : decide ((b : Int) ≤ (n : Int)) = false := by simp; omega
      have d2 : decide (b ≤ n) = false := by simpa using hbn
      have HC := Aside0.mk (insertion_calls fid fa lb cf D g n c B a n ys wr (HCmp.out.later y1) y1.dat y2 (y3.list y2 (fun _ => rfl)) HB.out han (Nat.le_refl _) hm9)
      have HG := Aside0.mk (good_block (ys := ys) HS.out HO.out y2 (Nat.le_refl _) han y5)
      have HY := Aside0.mk (And.intro y1 (And.intro y2 (And.intro y3 (And.intro y4 y5))))
      have HAb := Aside0.mk (And.intro hb (And.intro hbn han))
      clear hb han y1 y2 y3 y4 y5 hm9 hbn HR
      go_wp2_with (fail)
      refine HC.out.mono ?_
      rintro e w2 ⟨rfl, hm⟩
      have HM2 : Aside0 (∃ h, DatF B g c n w w2 h ∧ AllF D n h ∧ Tail (Good pr f0 h) 20 n 0) := ⟨by
        refine ⟨(fun t => (insOut (ltOf cf) a (n - (a + 1)) ys).getD t 0), ⟨_, HY.out.1.trans hm, by rw [insOut_length]; exact HY.out.2.1, fun _ => rfl⟩, ?_, ?_⟩
        · intro j hj
          by_cases hi : a ≤ j ∧ j < n
          · exact HFr.out _ a n HG.out.1.2 j hi.1 hi.2 (Nat.le_refl _)
          · have h9 := HG.out.2 j (by omega)
            exact h9 ▸ HY.out.2.2.1 j hj
        · have h8 : Front (Good pr f0 (fun t => (insOut (ltOf cf) a (n - (a + 1)) ys).getD t 0)) 20 a := HY.out.2.2.2.1.congr fun j hj => HG.out.2 j (.inl hj)
          exact h8.tail (.last HAb.out.2.2 (by have := HAb.out; omega) HG.out.1) HAb.out.2.2⟩
      clear hm
      go_wp2_with (fail)
      go_loopw [6] (fun s wr => ∃ s' : Nat, s = .int .i64 (s' : Int) ∧ Aside0 (20 ≤ s' ∧ s' ≤ 2000000 ∧ ∃ h, DatF B g c n w wr h ∧ AllF D n h ∧ Tail (Good pr f0 h) s' n 0)) (fun s _ => n - (intOf s).toNat)
      case atStart => exact ⟨20, rfl, ⟨Nat.le_refl _, by decide, HM2.out⟩⟩
      case round =>
        obtain ⟨s, rfl, HT⟩ := hrel
        obtain ⟨wo, rfl⟩ : ∃ wo : World, wo = wr := ⟨_, rfl⟩
        have hs1 := HT.out.1
        have hm9 := HM9.out
        by_cases hlt : s < n
        · have d3 : decide ((s : Int) < (n : Int)) = true := by simp; omega
          have d4 : decide (s < n) = true := by simpa using hlt
          obtain ⟨s2, hs2⟩ : ∃ s2, s2 = 2 * s := ⟨_, rfl⟩
          have hws : IntKind.i64.wrap (2 * (s : Int)) = (s2 : Int) := (w_i64 _ (by omega) (by omega)).trans (by omega)
          have hws' : IntKind.i64.wrap ((s : Int) * 2) = (s2 : Int) := (w_i64 _ (by omega) (by omega)).trans (by omega)
          have HSs := Aside0.mk (And.intro hs2 (And.intro hs1 hlt))
          clear hs2 hs1 hlt hm9
          go_wp2_with (fail)
          go_loopw [7, 8] (fun x y wr => ∃ a b : Nat, x = .int .i64 (a : Int) ∧ y = .int .i64 (b : Int) ∧ Aside0 (b = a + s2 ∧ a ≤ n ∧ ∃ h, DatF B g c n w wr h ∧ AllF D n h ∧ Front (Good pr f0 h) s2 a ∧ Tail (Good pr f0 h) s n a)) (fun x _ _ => n + 1 - (intOf x).toNat)
          case atStart => exact ⟨0, s2, rfl, rfl, ⟨by omega, Nat.zero_le _, by
            obtain ⟨h, h1, h2, h3⟩ := HT.out.2.2
            exact ⟨h, h1, h2, .nil, h3⟩⟩⟩
          case round =>
            obtain ⟨a, b, rfl, rfl, HR⟩ := hrel
            obtain ⟨hb, han, h, k1, k2, k3, k4⟩ := HR.out
            have hm9 := HM9.out
            have hss := HSs.out
            obtain ⟨m, hm⟩ : ∃ m, m = a + s := ⟨_, rfl⟩
            have hwm : IntKind.i64.wrap ((a : Int) + (s : Int)) = (m : Int) := (w_i64 _ (by omega) (by omega)).trans (by omega)
            by_cases hbn : b ≤ n
            · have d5 : decide ((b : Int) ≤ (n : Int)) = true := by simp; omega
              have d6 : decide (b ≤ n) = true := by simpa using hbn
              obtain ⟨b2, hb2⟩ : ∃ b2, b2 = b + s2 := ⟨_, rfl⟩
              have hwb : IntKind.i64.wrap ((b : Int) + (s2 : Int)) = (b2 : Int) := (w_i64 _ (by omega) (by omega)).trans (by omega)
              obtain ⟨t1, t2, t3⟩ := k4.two (by omega) (by omega)
              rw [← hm] at t1 t2
              rw [show a + 2 * s = b by omega] at t2 t3
              have HC : Aside0 (∃ ys, DatM B g c w wr ys ∧ Calls Tryd.prog 75 #[.slice (some ⟨g, 0, none⟩) n c, .int .i64 (a : Int), .int .i64 (m : Int), .int .i64 (b : Int), .func (.func fid) fa lb] wr fun e w' => e = .returned (.tuple #[]) ∧ MergeEnd pr B g c n a b h wr w') := ⟨by
                obtain ⟨ys, y1, y2, y3⟩ := k1
                have hfe : (fun j => ys.getD j 0) = h := funext y3
                have hc := sym_ok HS.out fid fa lb cf D g n c B (b - a + 1) a m b ys wr (by omega) (HCmp.out.later y1) y1.dat y2 (AllF.list k2 y2 y3) HB.out (by omega) (by omega) hbn hm9 (by rw [hfe]; exact t1.1) (by rw [hfe]; exact t2.1) (by rw [hfe]; exact good_tells HO.out t1 t2 hbn)
                rw [hfe] at hc
                exact ⟨ys, y1, hc⟩⟩
              obtain ⟨ys, hys⟩ := HC.out
              have HYs := Aside0.mk hys
              have HK := Aside0.mk (And.intro k2 (And.intro k3 (And.intro t1 (And.intro t2 t3))))
              have HAb := Aside0.mk (And.intro hb (And.intro hbn (And.intro hm (And.intro hb2 (And.intro hss hm9)))))
              clear hb han k1 k2 k3 k4 t1 t2 t3 hbn hm hb2 hss hm9 HR HC hys
              go_wp2_with (fail)
              refine HYs.out.2.mono ?_
              rintro e w3 ⟨rfl, hd⟩
              have HDd := Aside0.mk hd
              clear hd
              go_wp2
              refine ⟨⟨b, b2, rfl, rfl, ⟨HAb.out.2.2.2.1, HAb.out.2.1, ?_⟩⟩, by have := HAb.out; simp [intOf]; omega⟩
              obtain ⟨g2, q1, q2⟩ := HDd.out
              obtain ⟨u2, u3, u4, u5, u6⟩ := HK.out
              have hGd := good_merged (by have := HAb.out; omega) (by have := HAb.out; omega) u4 u5 q2
              refine ⟨g2, ?_, ?_, ?_, ?_⟩
              · obtain ⟨zs, z1, z2, z3⟩ := q1
                exact ⟨zs, HYs.out.1.trans z1, z2, z3⟩
              · exact u2.from_ q2.from_ q2.off HAb.out.2.1
              · have h8 : Front (Good pr f0 g2) s2 a := u3.congr fun j hj => q2.off j (.inl hj)
                have h9 := Front.snoc h8 (by rw [← HAb.out.1]; exact hGd)
                rwa [← HAb.out.1] at h9
              · exact u6.congr fun j hj _ => q2.off j (.inr hj)
            · have d5 : decide ((b : Int) ≤ (n : Int)) = false := by simp; omega
              have d6 : decide (b ≤ n) = false := by simpa using hbn
              rcases k4.end_ (by omega) han with ⟨c1, c2, c3⟩ | ⟨c1, c2⟩
              · rw [← hm] at c1 c2 c3
                have d7 : decide ((m : Int) < (n : Int)) = true := by simp; omega
                have d8 : decide (m < n) = true := by simpa using c1
                have HC : Aside0 (∃ ys, DatM B g c w wr ys ∧ Calls Tryd.prog 75 #[.slice (some ⟨g, 0, none⟩) n c, .int .i64 (a : Int), .int .i64 (m : Int), .int .i64 (n : Int), .func (.func fid) fa lb] wr fun e w' => e = .returned (.tuple #[]) ∧ MergeEnd pr B g c n a n h wr w') := ⟨by
                  obtain ⟨ys, y1, y2, y3⟩ := k1
                  have hfe : (fun j => ys.getD j 0) = h := funext y3
                  have hc := sym_ok HS.out fid fa lb cf D g n c B (n - a + 1) a m n ys wr (by omega) (HCmp.out.later y1) y1.dat y2 (AllF.list k2 y2 y3) HB.out (by omega) (by omega) (Nat.le_refl _) hm9 (by rw [hfe]; exact c2.1) (by rw [hfe]; exact c3.1) (by rw [hfe]; exact good_tells HO.out c2 c3 (Nat.le_refl _))
                  rw [hfe] at hc
                  exact ⟨ys, y1, hc⟩⟩
                obtain ⟨ys, hys⟩ := HC.out
                have HYs := Aside0.mk hys
                have HK := Aside0.mk (And.intro k2 (And.intro k3 (And.intro c2 c3)))
                have HAb := Aside0.mk (And.intro hb (And.intro hbn (And.intro hm (And.intro c1 (And.intro hss (And.intro hm9 han))))))
                clear hb han k1 k2 k3 k4 c1 c2 c3 hbn hm hss hm9 HR HC hys
                go_wp2_with (fail)
                refine HYs.out.2.mono ?_
                rintro e w3 ⟨rfl, hd⟩
                have HDd := Aside0.mk hd
                clear hd
                go_wp2
                refine ⟨⟨s2, rfl, ⟨by have := HAb.out; omega, by have := HAb.out; omega, ?_⟩⟩, by have := HAb.out; simp [intOf]; omega⟩
                obtain ⟨g2, q1, q2⟩ := HDd.out
                obtain ⟨u2, u3, u4, u5⟩ := HK.out
                have hGd := good_merged (by have := HAb.out; omega) (by have := HAb.out; omega) u4 u5 q2
                refine ⟨g2, ?_, ?_, ?_⟩
                · obtain ⟨zs, z1, z2, z3⟩ := q1
                  exact ⟨zs, HYs.out.1.trans z1, z2, z3⟩
                · exact u2.from_ q2.from_ q2.off (Nat.le_refl _)
                · have h8 : Front (Good pr f0 g2) s2 a := u3.congr fun j hj => q2.off j (.inl hj)
                  exact h8.tail (.last (by have := HAb.out; omega) (by have := HAb.out; omega) hGd) (by have := HAb.out; omega)
              · rw [← hm] at c1
                have d7 : decide ((m : Int) < (n : Int)) = false := by simp; omega
                have d8 : decide (m < n) = false := by simp; omega
                have HNew : Aside0 (∃ h, DatF B g c n w wr h ∧ AllF D n h ∧ Tail (Good pr f0 h) s2 n 0) := ⟨h, k1, k2, k3.tail (.last han (by omega) c2) han⟩
                have HAb := Aside0.mk (And.intro hss hm9)
                clear hb han k1 k2 k3 k4 c1 c2 hbn hm hss hm9 HR
                go_wp2
                refine ⟨⟨s2, rfl, ⟨by have := HAb.out; omega, by have := HAb.out; omega, HNew.out⟩⟩, by have := HAb.out; simp [intOf]; omega⟩
        · have d3 : decide ((s : Int) < (n : Int)) = false := by simp; omega
          have d4 : decide (s < n) = false := by simpa using hlt
          have HE : Aside0 (∃ h, DatF B g c n w wo h ∧ Good pr f0 h 0 n) := ⟨by
            obtain ⟨h, h1, h2, h3⟩ := HT.out.2.2
            exact ⟨h, h1, h3.whole (by omega) (by omega)⟩⟩
          clear hlt hs1 hm9
          go_wp2
          go_end0
          exact ⟨rfl, HE.out⟩
set_option maxHeartbeats 4000000 in
theorem sortstable_calls {pr : Int → Int → Prop} (hS : Strict pr) (fid : Nat) (fa lb : Array Value) (cf : Int → Int → Int) (D : Int → Prop) (g n c B : Nat) (xs : List Int) (w : World) (hCmp : Cmp fid fa lb cf D B g w) (hxs : Dat w g c xs) (hn : xs.length = n) (hD : ∀ x ∈ xs, D x) (hB : B ≤ g) (hm9 : n ≤ 1000000) (hO : Ord0 pr cf (fun j => xs.getD j 0) n) :
    Calls Tryd.prog 60 #[.slice (some ⟨g, 0, none⟩) n c, .func (.func fid) fa lb] w fun e w' => e = .returned (.tuple #[]) ∧ ∃ h, DatF B g c n w w' h ∧ Good pr (fun j => xs.getD j 0) h 0 n := by
  have HC := Aside0.mk (stable_calls hS fid fa lb cf D g n c B xs w hCmp hxs hn hD hB hm9 hO)
  clear hCmp hxs hn hD hB hO hm9
  go_enter Tryd.func60, Tryd.ntmps60
  go_wp2_with (fail)
  refine HC.out.mono ?_
  rintro e w' ⟨rfl, hm⟩
  have HM := Aside0.mk hm
  clear hm
  go_wp2_with (fail)
  go_end0
  exact ⟨rfl, HM.out⟩
end Go.Proofs.YtdmeocoehahopaaDoor.Sort
namespace Go.Proofs.YtdmeocoehahopaaDoor.Top
open Go.RowKit Go.Proofs.YtdmeocoehahopaaDoorW.PrintWords Go.Proofs.YtdmeocoehahopaaDoorW.PrintLast Go.Proofs.YtdmeocoehahopaaDoorW.PrintMore Go.Proofs.YtdmeocoehahopaaDoor.K Go.Proofs.YtdmeocoehahopaaDoor.RI Go.Proofs.YtdmeocoehahopaaDoor.Sort Go.Proofs.YtdmeocoehahopaaDoor.Ten Go.Proofs.YtdmeocoehahopaaDoor.Fixed
set_option linter.unusedVariables false
set_option linter.unusedSimpArgs false
theorem pigeon : ∀ (n : Nat) (f : Nat → Nat), (∀ i, i < n → f i < n) → (∀ i j, i < n → j < n → f i = f j → i = j) → ∀ y, y < n → ∃ i, i < n ∧ f i = y
  | 0, f, hf, inj, y, hy => by omega
  | m + 1, f, hf, inj, y, hy => by
    have key := pigeon m (fun i => if f i = m then f m else f i) (fun i hi => by
      show (if f i = m then f m else f i) < m
      have h1 := hf i (by omega)
      by_cases e : f i = m
      · rw [if_pos e]
        have h2 := hf m (by omega)
        rcases Nat.lt_or_ge (f m) m with c | c
        · exact c
        · have := inj i m (by omega) (by omega) (by omega)
          omega
      · rw [if_neg e]; omega) (fun i j hi hj h => by
      replace h : (if f i = m then f m else f i) = (if f j = m then f m else f j) := h
      by_cases e : f i = m
      · by_cases e2 : f j = m
        · exact inj i j (by omega) (by omega) (by omega)
        · rw [if_pos e, if_neg e2] at h
          have := inj m j (by omega) (by omega) h
          omega
      · by_cases e2 : f j = m
        · rw [if_neg e, if_pos e2] at h
          have := inj i m (by omega) (by omega) h
          omega
        · rw [if_neg e, if_neg e2] at h
          exact inj i j (by omega) (by omega) h)
    by_cases hc : f m = y
    · exact ⟨m, by omega, hc⟩
    · rcases Nat.lt_or_ge y m with hy2 | hy2
      · obtain ⟨i, hi, h⟩ := key y hy2
        replace h : (if f i = m then f m else f i) = y := h
        by_cases e : f i = m
        · rw [if_pos e] at h; exact absurd h hc
        · rw [if_neg e] at h; exact ⟨i, by omega, h⟩
      · have h2 := hf m (by omega)
        obtain ⟨i, hi, h⟩ := key (f m) (by omega)
        replace h : (if f i = m then f m else f i) = f m := h
        by_cases e : f i = m
        · exact ⟨i, by omega, by omega⟩
        · rw [if_neg e] at h
          have := inj i m (by omega) (by omega) h
          omega
/-- Ahead: a greater number, or the same one at a place ahead. -/
def prV (l : List Int) (x y : Int) : Prop := cfV l x y < 0 ∨ (cfV l x y = 0 ∧ x < y)
theorem prV_strict (l : List Int) : Strict (prV l) :=
  ⟨fun x h => by unfold prV cfV at h; omega, fun x y z h1 h2 => by unfold prV cfV at *; omega, fun x y h => by unfold prV cfV; omega⟩
theorem places_getD {n j : Nat} (h : j < n) : (places n).getD j 0 = (j : Int) := by
  simp [places, List.getD_eq_getElem?_getD, h]
theorem prV_ord (l : List Int) (n : Nat) : Ord0 (prV l) (cfV l) (fun j => (places n).getD j 0) n := fun p q h1 h2 => by
  show (places n).getD p 0 ≠ (places n).getD q 0 ∧ (cfV l ((places n).getD q 0) ((places n).getD p 0) < 0 ↔ prV l ((places n).getD q 0) ((places n).getD p 0))
  rw [places_getD h2, places_getD (show p < n by omega)]
  unfold prV
  refine ⟨by omega, fun h => .inl h, fun h => ?_⟩
  rcases h with h | h
  · exact h
  · omega
/-- All of a sorted row of places stand there. -/
theorem good_onto {l : List Int} {n : Nat} {h : Nat → Int} (k : Sort.Good (prV l) (fun j => (places n).getD j 0) h 0 n) (y : Nat) (hy : y < n) : ∃ i, i < n ∧ h i = (y : Int) := by
  have hv : ∀ i, i < n → ∃ t : Nat, t < n ∧ h i = (t : Int) := fun i hi => by
    obtain ⟨j, _, j2, j3⟩ := k.2 i (Nat.zero_le _) hi
    replace j3 : h i = (places n).getD j 0 := j3
    rw [places_getD j2] at j3
    exact ⟨j, j2, j3⟩
  obtain ⟨i, hi, h1⟩ := pigeon n (fun i => (h i).toNat) (fun i hi => by
    obtain ⟨t, t1, t2⟩ := hv i hi
    show (h i).toNat < n
    omega) (fun i j hi hj he => by
    replace he : (h i).toNat = (h j).toNat := he
    obtain ⟨t, t1, t2⟩ := hv i hi
    obtain ⟨s, s1, s2⟩ := hv j hj
    have e : h i = h j := by omega
    rcases Nat.lt_trichotomy i j with c | c | c
    · have := k.1 i j (Nat.zero_le _) c hj
      rw [e] at this
      exact absurd this ((prV_strict l).irrefl _)
    · exact c
    · have := k.1 j i (Nat.zero_le _) c hi
      rw [e] at this
      exact absurd this ((prV_strict l).irrefl _)) y hy
  replace h1 : (h i).toNat = y := h1
  obtain ⟨t, t1, t2⟩ := hv i hi
  exact ⟨i, hi, by omega⟩
theorem good_unique {l : List Int} {n : Nat} {h h' : Nat → Int} (k : Sort.Good (prV l) (fun j => (places n).getD j 0) h 0 n) (k' : Sort.Good (prV l) (fun j => (places n).getD j 0) h' 0 n) (i : Nat) (hi : i < n) : h i = h' i := by
  have ir := (prV_strict l).irrefl
  have tr := (prV_strict l).trans
  have val : ∀ {h : Nat → Int}, Sort.Good (prV l) (fun j => (places n).getD j 0) h 0 n → ∀ i, i < n → ∃ t : Nat, t < n ∧ h i = (t : Int) := fun {h} k i hi => by
    obtain ⟨j, _, j2, j3⟩ := k.2 i (Nat.zero_le _) hi
    replace j3 : h i = (places n).getD j 0 := j3
    rw [places_getD j2] at j3
    exact ⟨j, j2, j3⟩
  induction i using Nat.strongRecOn with
  | ind i ih =>
    obtain ⟨t, t1, t2⟩ := val k i hi
    obtain ⟨s, s1, s2⟩ := val k' i hi
    obtain ⟨j, j1, j2⟩ := good_onto k' t t1
    obtain ⟨m, m1, m2⟩ := good_onto k s s1
    have e1 : h' j = h i := by rw [j2, t2]
    have e2 : h m = h' i := by rw [m2, s2]
    rcases Nat.lt_trichotomy j i with c | c | c
    · have := ih j c (by omega)
      rw [e1] at this
      have h9 := k.1 j i (Nat.zero_le _) c hi
      rw [this] at h9
      exact absurd h9 (ir _)
    · subst c; exact e1.symm
    · rcases Nat.lt_trichotomy m i with d | d | d
      · have := ih m d (by omega)
        rw [e2] at this
        have h9 := k'.1 m i (Nat.zero_le _) d hi
        rw [← this] at h9
        exact absurd h9 (ir _)
      · subst d; exact e2
      · have p1 := k'.1 i j (Nat.zero_le _) c (by omega)
        have p2 := k.1 i m (Nat.zero_le _) d (by omega)
        rw [e1] at p1
        rw [e2] at p2
        exact absurd (tr _ _ _ p1 p2) (ir _)
/-- The places of numbers, the greatest one's first. -/
def ordL (l : List Int) : List Int := insOut (ltOf (cfV l)) 0 (l.length - 1) (places l.length)
theorem ordL_length (l : List Int) : (ordL l).length = l.length := by unfold ordL; rw [insOut_length, places_length]
theorem ordL_good (l : List Int) : Sort.Good (prV l) (fun j => (places l.length).getD j 0) (fun j => (ordL l).getD j 0) 0 l.length :=
  (good_block (ys := places l.length) (prV_strict l) (prV_ord l l.length) (places_length _) (Nat.le_refl _) (Nat.zero_le _) (fun j _ => rfl)).1
theorem getD_ext {a b : List Int} (hl : a.length = b.length) (h : ∀ j, j < a.length → a.getD j 0 = b.getD j 0) : a = b := by
  apply List.ext_getElem hl
  intro i h1 h2
  have := h i h1
  rwa [List.getD_eq_getElem?_getD, List.getD_eq_getElem?_getD, List.getElem?_eq_getElem h1, List.getElem?_eq_getElem h2] at this
theorem sorts_all (l : List Int) (hl : l.length ≤ 1000000) (fid : Nat) (fa lb : Array Value) (B : Nat) : Sorts fid fa lb (cfV l) (Top.Place l.length) B (places l.length) (ordL l) := fun g c w hc hd hB => by
  have hp := places_length l.length
  have h1 := sortstable_calls (prV_strict l) fid fa lb (cfV l) (Top.Place l.length) g l.length c B (places l.length) w hc hd hp (places_in _) hB hl (prV_ord l l.length)
  rw [← hp] at h1
  refine h1.mono ?_
  rintro e w' ⟨rfl, h, ⟨ys, y1, y2, y3⟩, hg⟩
  rw [hp] at y2 hg
  have e : ys = ordL l := getD_ext (by rw [y2, ordL_length]) fun j hj => by
    rw [y3 j]
    exact good_unique hg (ordL_good l) j (by omega)
  rw [← e]
  exact ⟨rfl, y1⟩
end Go.Proofs.YtdmeocoehahopaaDoor.Top
