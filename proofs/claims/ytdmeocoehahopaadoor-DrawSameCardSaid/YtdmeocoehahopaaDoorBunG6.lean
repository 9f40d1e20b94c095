/- Texts put together: Sort5. -/
import Derived.Test.YtdmeocoehahopaaDoorBunG5
set_option linter.unusedVariables false
set_option linter.unusedSimpArgs false
namespace Go.Proofs.YtdmeocoehahopaaDoor.Sort
open Go.RowKit Go.Proofs.YtdmeocoehahopaaDoorW.PrintWords Go.Proofs.YtdmeocoehahopaaDoorW.PrintLast Go.Proofs.YtdmeocoehahopaaDoorW.PrintMore Go.Proofs.YtdmeocoehahopaaDoor.K Go.Proofs.YtdmeocoehahopaaDoor.RI
set_option linter.unusedVariables false
set_option linter.unusedSimpArgs false
set_option maxHeartbeats 16000000 in
set_option maxRecDepth 100000 in
theorem sym_low_calls {pr : Int → Int → Prop} (hS : Strict pr) (fid : Nat) (fa lb : Array Value) (cf : Int → Int → Int) (D : Int → Prop) (g n c B a m b : Nat) (xs : List Int) (w : World) (hCmp : Cmp fid fa lb cf D B g w) (hxs : Dat w g c xs) (hn : xs.length = n) (hD : ∀ x ∈ xs, D x) (hB : B ≤ g) (ham : a < m) (hmb : m < b) (hbn : b ≤ n) (hm9 : n ≤ 1000000)
    (hL : SortedOn pr (fun j => xs.getD j 0) a m) (hR : SortedOn pr (fun j => xs.getD j 0) m b) (hT : Tells2 pr cf (fun j => xs.getD j 0) a m b) (ih : SymOk pr fid fa lb cf D g n c B (b - a)) (h1 : m ≠ a + 1) (h2 : b ≠ m + 1) (mid : Nat) (hmid : mid = (a + b) / 2) (hmm : mid < m) :
    Calls Tryd.prog 75 #[.slice (some ⟨g, 0, none⟩) n c, .int .i64 (a : Int), .int .i64 (m : Int), .int .i64 (b : Int), .func (.func fid) fa lb] w fun e w' => e = .returned (.tuple #[]) ∧ MergeEnd pr B g c n a b (fun j => xs.getD j 0) w w' := by
  have hent := hCmp.enters
  have HCmp := Aside0.mk hCmp
  have HX := Aside0.mk (DatM.refl (B := B) hxs)
  have HD := Aside0.mk hD
  have HB := Aside0.mk hB
  have HN := Aside0.mk hn
  have HL := Aside0.mk hL
  have HR := Aside0.mk hR
  have HT := Aside0.mk hT
  have HS := Aside0.mk hS
  have HIh := Aside0.mk ih
  have HLim : Aside0 (a < m ∧ m < b ∧ b ≤ n ∧ n ≤ 1000000 ∧ xs.length = n) := ⟨by omega⟩
  obtain ⟨d, hd⟩ : ∃ d, d = m - a := ⟨_, rfl⟩
  have hwm : IntKind.i64.wrap ((m : Int) - (a : Int)) = (d : Int) := (w_i64 _ (by omega) (by omega)).trans (by omega)
  have hd1 : ((d : Int) == 1) = false := by rw [beq_eq_false_iff_ne]; omega
  have hd2 : (d == 1) = false := by rw [beq_eq_false_iff_ne]; omega
  obtain ⟨d', hd'⟩ : ∃ d, d = b - m := ⟨_, rfl⟩
  have hwm' : IntKind.i64.wrap ((b : Int) - (m : Int)) = (d' : Int) := (w_i64 _ (by omega) (by omega)).trans (by omega)
  have hd1' : ((d' : Int) == 1) = false := by rw [beq_eq_false_iff_ne]; omega
  have hd2' : (d' == 1) = false := by rw [beq_eq_false_iff_ne]; omega
  obtain ⟨ab, hab⟩ : ∃ t, t = a + b := ⟨_, rfl⟩
  have hv1 : IntKind.i64.wrap ((a : Int) + (b : Int)) = (ab : Int) := (w_i64 _ (by omega) (by omega)).trans (by omega)
  have hv2 : IntKind.u64.wrap (ab : Int) = (ab : Int) := (w_u64 _ (by omega) (by omega)).trans (by omega)
  have hv3 : (ab : Int) / 2 = (mid : Int) := by rw [hmid, hab]; omega
  have hv4 : IntKind.i64.wrap (mid : Int) = (mid : Int) := (w_i64 _ (by omega) (by omega)).trans (by omega)
  have hv5 : IntKind.u64.wrap (mid : Int) = (mid : Int) := (w_u64 _ (by omega) (by omega)).trans (by omega)
  obtain ⟨np, hnp⟩ : ∃ t, t = mid + m := ⟨_, rfl⟩
  have hv6 : IntKind.i64.wrap ((mid : Int) + (m : Int)) = (np : Int) := (w_i64 _ (by omega) (by omega)).trans (by omega)
  obtain ⟨p, hp⟩ : ∃ t, t = np - 1 := ⟨_, rfl⟩
  have hv7 : IntKind.i64.wrap ((np : Int) - 1) = (p : Int) := (w_i64 _ (by omega) (by omega)).trans (by omega)
  have HMid := Aside0.mk (And.intro hmid (And.intro hnp hp))
  obtain ⟨lo, hlo⟩ : ∃ t, t = np - b := ⟨_, rfl⟩
  have hv8 : IntKind.i64.wrap ((np : Int) - (b : Int)) = (lo : Int) := (w_i64 _ (by omega) (by omega)).trans (by omega)
  have HLo : Aside0 (lo = mid + m - b ∧ mid < m) := ⟨by omega⟩
  have dmm : decide (mid < m) = true := by simpa using hmm
  have HOk : Aside0 (CutOk pr cf (fun j => xs.getD j 0) a m b lo mid np) := ⟨⟨hS, hL, hR, hT, by omega, by omega, fun c c1 c2 => by omega⟩⟩
  have HStart : Aside0 (CutInv pr (fun j => xs.getD j 0) lo mid np lo mid) := ⟨CutInv.start (by omega)⟩
  clear hlo
  clear hCmp hxs hn hD hB ham hmb hL hR hT hS hbn hm9 hd hd' h1 h2 hab hnp hp hmid hmm ih
  go_enter Tryd.func75, Tryd.ntmps75
  go_wp2_with (fail)
  clear hv1 hv2 hv3 hv4 hv5 hv6 hv7 hwm hwm' hd1 hd2 hd1' hd2' dmm hv8
  go_loopw [20, 21] (fun s t wr => ∃ i j : Nat, s = .int .i64 (i : Int) ∧ t = .int .i64 (j : Int) ∧ Aside0 (CutInv pr (fun j => xs.getD j 0) lo mid np i j ∧ Drawn0 w wr)) (fun s t _ => (intOf t).toNat - (intOf s).toNat)
  case atStart => exact ⟨_, _, rfl, rfl, ⟨HStart.out, ⟨⟨0, rfl⟩⟩⟩⟩
  case round =>
    obtain ⟨i, j, rfl, rfl, HI⟩ := hrel
    obtain ⟨wi, rfl⟩ : ∃ wi : World, wi = wr := ⟨_, rfl⟩
    have hb := HI.out.1
    have hb1 := hb.h1
    have hb2 := hb.h2
    have hb3 := hb.h3
    have hlim := HLim.out
    have HM : Aside0 (DatM B g c w wi xs) := ⟨HX.out.drawn HI.out.2⟩
    by_cases hlt : i < j
    · have dlt : decide (i < j) = true := by simpa using hlt
      have dlt2 : decide ((i : Int) < (j : Int)) = true := by simp; omega
      have hhi := HOk.out.hi_
      obtain ⟨sr, hsr⟩ : ∃ t, t = i + j := ⟨_, rfl⟩
      obtain ⟨h, hh⟩ : ∃ t, t = sr / 2 := ⟨_, rfl⟩
      have hh1 : i ≤ h ∧ h < j := by omega
      have hw1 : IntKind.i64.wrap ((i : Int) + (j : Int)) = (sr : Int) := by rw [hsr, IntKind.wrap_i64]; omega
      have hw2 : IntKind.u64.wrap (sr : Int) = (sr : Int) := by rw [IntKind.wrap_u64]; omega
      have hw3 : (sr : Int) / 2 = (h : Int) := by rw [hh]; omega
      have hw4 : IntKind.i64.wrap (h : Int) = (h : Int) := by rw [IntKind.wrap_i64]; omega
      have hw5 : IntKind.u64.wrap (h : Int) = (h : Int) := by rw [IntKind.wrap_u64]; omega
      have hw6 : IntKind.i64.wrap ((h : Int) + 1) = (h : Int) + 1 := by rw [IntKind.wrap_i64]; omega
      clear hsr hh
      have hin := HOk.out.in_ h (by omega) (by omega)
      have hmdd := HMid.out
      obtain ⟨ph, hph⟩ : ∃ t, t = np - 1 - h := ⟨_, rfl⟩
      have hwp : IntKind.i64.wrap ((p : Int) - (h : Int)) = (ph : Int) := (w_i64 _ (by omega) (by omega)).trans (by omega)
      have hc1 := (HM.out.dat.at_ ph (by have := HN.out; omega)).1
      have hc2 := (HM.out.dat.at_ h (by have := HN.out; omega)).1
      have HDx : Aside0 (D (xs.getD ph 0) ∧ D (xs.getD h 0)) := ⟨getD_all HD.out (by have := HN.out; omega), getD_all HD.out (by have := HN.out; omega)⟩
      have hnn : ph < n ∧ h < n := by have := HN.out; omega
      have hn1 := hnn.1
      have hn2 := hnn.2
      have hdc : ∀ x1 x2 : Int, x1 = xs.getD ph 0 → x2 = xs.getD h 0 → (cf x1 x2 < 0 → CutInv pr (fun j => xs.getD j 0) lo mid np i h) ∧ (¬ cf x1 x2 < 0 → CutInv pr (fun j => xs.getD j 0) lo mid np (h + 1) j) := fun x1 x2 h1 h2 => by
        subst h1 h2
        exact ⟨fun ht => HOk.out.down hb hh1.1 hh1.2 (by rw [hph] at ht; exact ht), fun ht => HOk.out.up hb hh1.1 hh1.2 (by rw [hph] at ht; exact ht)⟩
      have HDc := Aside0.mk hdc
      obtain ⟨x1, hx1⟩ : ∃ x, x = xs.getD ph 0 := ⟨_, rfl⟩
      obtain ⟨x2, hx2⟩ : ∃ x, x = xs.getD h 0 := ⟨_, rfl⟩
      rw [← hx1] at hc1 HDx
      rw [← hx2] at hc2 HDx
      have HG := Aside0.mk (And.intro hh1 (And.intro hb1 (And.intro hb2 hb3)))
      by_cases ht : cf x1 x2 < 0
      · have hdec : decide (cf x1 x2 < 0) = true := by simpa using ht
        have HNew := Aside0.mk ((HDc.out x1 x2 hx1 hx2).1 ht)
        clear hx1 hx2 hb hb1 hb2 hb3 hlim hlt hh1 hdc hnn ht hin hhi hmdd hph
        go_upto_region 35 with (fail)
        refine wp_region_fin [false, false, false, false, false, false, false, false, false, false, false, false, false, false, false, false, false, false, false, false, false, false, false, false, false, false, false, false, false, false, false, false, false, false, false, false, false, false, false, false, false, false, false, false, false, false, false, false, false, false, false, false, false, false, false, false, false, false, false, false, false, false, false, false, false, false, false, false, false, false, false, false, false, false, false, false, false, false, false, false, false, false, false, false, false, false, false, false, false, false, false, false, false, false, false, false, false, false, false, false, false, false, false, false, false, false, false, false, false, false, false, false, false, false, false, false, false, false, false, false, false, false, false, false, false, false, false, false, false, false, false, false, false, false, false, false, false, false, false, false, false, false, false, false, false, false, false, false, false, false, false, false, false, false, false, false, false, false, true, true, true, true, true, true, true, true, true, true, true, true, true, true] (by kernel_rfl) (by kernel_rfl) (fun W => Drawn0 wi W) (fun W W' => True) (fun iv xv _ => Sm35F fid fa lb g n c p h ph x1 x2 (cf x1 x2) iv xv) (fun _ _ _ _ _ _ h => h) ⟨⟨1, rfl⟩⟩ ?_ ?_
        · refine ⟨?_, ?_, ?_, ?_, ?_, ?_, ?_, ?_, ?_, ?_, ?_, ?_, ?_, ?_, trivial⟩
          · intro v W hb hd
            obtain ⟨⟨nd, rfl⟩⟩ := hb
            refine step_list fun K hK => ?_
            simp only [fill_lit, fillL, Act.put, List.setIfInBounds_toArray, List.set_cons_zero, List.set_cons_succ, Nat.reduceAdd] at hK ⊢
            clear hd
            go_wp2
            (first | exact ⟨⟨⟨nd, rfl⟩⟩, trivial, rfl⟩ | exact ⟨⟨⟨nd, rfl⟩⟩, rfl⟩ | exact ⟨⟨⟨nd, rfl⟩⟩, by show Value.bool _ = Value.bool _; simp [hdec]⟩)
          · intro v W hb hd
            obtain ⟨⟨nd, rfl⟩⟩ := hb
            refine step_list fun K hK => ?_
            simp only [fill_lit, fillL, Act.put, List.setIfInBounds_toArray, List.set_cons_zero, List.set_cons_succ, Nat.reduceAdd] at hK ⊢
            clear hd
            go_wp2
            (first | exact ⟨⟨⟨nd, rfl⟩⟩, trivial, rfl⟩ | exact ⟨⟨⟨nd, rfl⟩⟩, rfl⟩ | exact ⟨⟨⟨nd, rfl⟩⟩, by show Value.bool _ = Value.bool _; simp [hdec]⟩)
          · intro v W hb hd
            obtain ⟨⟨nd, rfl⟩⟩ := hb
            refine step_list fun K hK => ?_
            simp only [fill_lit, fillL, Act.put, List.setIfInBounds_toArray, List.set_cons_zero, List.set_cons_succ, Nat.reduceAdd] at hK ⊢
            clear hd
            go_wp2
            (first | exact ⟨⟨⟨nd, rfl⟩⟩, trivial, rfl⟩ | exact ⟨⟨⟨nd, rfl⟩⟩, rfl⟩ | exact ⟨⟨⟨nd, rfl⟩⟩, by show Value.bool _ = Value.bool _; simp [hdec]⟩)
          · intro v W hb hd
            obtain ⟨⟨nd, rfl⟩⟩ := hb
            refine step_list fun K hK => ?_
            simp only [fill_lit, fillL, Act.put, List.setIfInBounds_toArray, List.set_cons_zero, List.set_cons_succ, Nat.reduceAdd] at hK ⊢
            clear hd
            go_wp2
            (first | exact ⟨⟨⟨nd, rfl⟩⟩, trivial, rfl⟩ | exact ⟨⟨⟨nd, rfl⟩⟩, rfl⟩ | exact ⟨⟨⟨nd, rfl⟩⟩, by show Value.bool _ = Value.bool _; simp [hdec]⟩)
          · intro v W hb hd
            obtain ⟨⟨nd, rfl⟩⟩ := hb
            have h2 : v 160 = .int .i64 (p : Int) := hd 2 (by kernel_rfl)
            have h3 : v 161 = .int .i64 (h : Int) := hd 3 (by kernel_rfl)
            refine step_list fun K hK => ?_
            simp only [fill_lit, fillL, Act.put, List.setIfInBounds_toArray, List.set_cons_zero, List.set_cons_succ, Nat.reduceAdd] at hK ⊢
            rw [h2, h3] at hK ⊢
            clear hd h2 h3
            go_wp2
            (first | exact ⟨⟨⟨nd, rfl⟩⟩, trivial, rfl⟩ | exact ⟨⟨⟨nd, rfl⟩⟩, rfl⟩ | exact ⟨⟨⟨nd, rfl⟩⟩, by show Value.bool _ = Value.bool _; simp [hdec]⟩)
          · intro v W hb hd
            obtain ⟨⟨nd, rfl⟩⟩ := hb
            have h1 : v 159 = .slice (some ⟨g, 0, none⟩) n c := hd 1 (by kernel_rfl)
            have h4 : v 162 = .int .i64 (ph : Int) := hd 4 (by kernel_rfl)
            refine step_list fun K hK => ?_
            simp only [fill_lit, fillL, Act.put, List.setIfInBounds_toArray, List.set_cons_zero, List.set_cons_succ, Nat.reduceAdd] at hK ⊢
            rw [h1, h4] at hK ⊢
            clear hd h1 h4
            go_wp2
            (first | exact ⟨⟨⟨nd, rfl⟩⟩, trivial, rfl⟩ | exact ⟨⟨⟨nd, rfl⟩⟩, rfl⟩ | exact ⟨⟨⟨nd, rfl⟩⟩, by show Value.bool _ = Value.bool _; simp [hdec]⟩)
          · intro v W hb hd
            obtain ⟨⟨nd, rfl⟩⟩ := hb
            have hx1 : (wi.drewN nd).cell? ⟨g, ph, none⟩ = some (.int .i64 x1) := hc1
            have h5 : v 163 = .pointer (some ⟨g, ph, none⟩) := hd 5 (by kernel_rfl)
            refine step_list fun K hK => ?_
            simp only [fill_lit, fillL, Act.put, List.setIfInBounds_toArray, List.set_cons_zero, List.set_cons_succ, Nat.reduceAdd] at hK ⊢
            rw [h5] at hK ⊢
            clear hd h5
            go_wp2
            (first | exact ⟨⟨⟨nd, rfl⟩⟩, trivial, rfl⟩ | exact ⟨⟨⟨nd, rfl⟩⟩, rfl⟩ | exact ⟨⟨⟨nd, rfl⟩⟩, by show Value.bool _ = Value.bool _; simp [hdec]⟩)
          · intro v W hb hd
            obtain ⟨⟨nd, rfl⟩⟩ := hb
            refine step_list fun K hK => ?_
            simp only [fill_lit, fillL, Act.put, List.setIfInBounds_toArray, List.set_cons_zero, List.set_cons_succ, Nat.reduceAdd] at hK ⊢
            clear hd
            go_wp2
            (first | exact ⟨⟨⟨nd, rfl⟩⟩, trivial, rfl⟩ | exact ⟨⟨⟨nd, rfl⟩⟩, rfl⟩ | exact ⟨⟨⟨nd, rfl⟩⟩, by show Value.bool _ = Value.bool _; simp [hdec]⟩)
          · intro v W hb hd
            obtain ⟨⟨nd, rfl⟩⟩ := hb
            refine step_list fun K hK => ?_
            simp only [fill_lit, fillL, Act.put, List.setIfInBounds_toArray, List.set_cons_zero, List.set_cons_succ, Nat.reduceAdd] at hK ⊢
            clear hd
            go_wp2
            (first | exact ⟨⟨⟨nd, rfl⟩⟩, trivial, rfl⟩ | exact ⟨⟨⟨nd, rfl⟩⟩, rfl⟩ | exact ⟨⟨⟨nd, rfl⟩⟩, by show Value.bool _ = Value.bool _; simp [hdec]⟩)
          · intro v W hb hd
            obtain ⟨⟨nd, rfl⟩⟩ := hb
            have h7 : v 165 = .slice (some ⟨g, 0, none⟩) n c := hd 7 (by kernel_rfl)
            have h8 : v 166 = .int .i64 (h : Int) := hd 8 (by kernel_rfl)
            refine step_list fun K hK => ?_
            simp only [fill_lit, fillL, Act.put, List.setIfInBounds_toArray, List.set_cons_zero, List.set_cons_succ, Nat.reduceAdd] at hK ⊢
            rw [h7, h8] at hK ⊢
            clear hd h7 h8
            go_wp2
            (first | exact ⟨⟨⟨nd, rfl⟩⟩, trivial, rfl⟩ | exact ⟨⟨⟨nd, rfl⟩⟩, rfl⟩ | exact ⟨⟨⟨nd, rfl⟩⟩, by show Value.bool _ = Value.bool _; simp [hdec]⟩)
          · intro v W hb hd
            obtain ⟨⟨nd, rfl⟩⟩ := hb
            have hx2 : (wi.drewN nd).cell? ⟨g, h, none⟩ = some (.int .i64 x2) := hc2
            have h9 : v 167 = .pointer (some ⟨g, h, none⟩) := hd 9 (by kernel_rfl)
            refine step_list fun K hK => ?_
            simp only [fill_lit, fillL, Act.put, List.setIfInBounds_toArray, List.set_cons_zero, List.set_cons_succ, Nat.reduceAdd] at hK ⊢
            rw [h9] at hK ⊢
            clear hd h9
            go_wp2
            (first | exact ⟨⟨⟨nd, rfl⟩⟩, trivial, rfl⟩ | exact ⟨⟨⟨nd, rfl⟩⟩, rfl⟩ | exact ⟨⟨⟨nd, rfl⟩⟩, by show Value.bool _ = Value.bool _; simp [hdec]⟩)
          · intro v W hb hd
            obtain ⟨⟨nd, rfl⟩⟩ := hb
            have h4 : v 158 = .func (.func fid) fa lb := hd 0 (by kernel_rfl)
            have h8 : v 164 = .int .i64 x1 := hd 6 (by kernel_rfl)
            have h13 : v 168 = .int .i64 x2 := hd 10 (by kernel_rfl)
            refine step_list fun K hK => ?_
            simp only [fill_lit, fillL, Act.put, List.setIfInBounds_toArray, List.set_cons_zero, List.set_cons_succ, Nat.reduceAdd] at hK ⊢
            rw [h4, h8, h13] at hK ⊢
            clear hd h4 h8 h13
            go_wp2_with (fail)
            refine (HCmp.out.calls x1 x2 _ HDx.out.1 HDx.out.2 (HM.out.drawn ⟨⟨nd, rfl⟩⟩).keep (HM.out.drawn ⟨⟨nd, rfl⟩⟩).bel).mono ?_
            rintro e W' ⟨rfl, hb'⟩
            obtain ⟨⟨ne, rfl⟩⟩ := hb'
            go_wp2_with (fail)
            (first | exact ⟨⟨⟨nd + ne, rfl⟩⟩, trivial, rfl⟩ | exact ⟨⟨⟨nd + ne, rfl⟩⟩, rfl⟩)
          · intro v W hb hd
            obtain ⟨⟨nd, rfl⟩⟩ := hb
            have h11 : v 169 = .int .i64 (cf x1 x2) := hd 11 (by kernel_rfl)
            refine step_list fun K hK => ?_
            simp only [fill_lit, fillL, Act.put, List.setIfInBounds_toArray, List.set_cons_zero, List.set_cons_succ, Nat.reduceAdd] at hK ⊢
            rw [h11] at hK ⊢
            clear hd h11
            go_wp2
            (first | exact ⟨⟨⟨nd, rfl⟩⟩, trivial, rfl⟩ | exact ⟨⟨⟨nd, rfl⟩⟩, rfl⟩ | exact ⟨⟨⟨nd, rfl⟩⟩, by show Value.bool _ = Value.bool _; simp [hdec]⟩)
          · intro v W hb hd
            obtain ⟨⟨nd, rfl⟩⟩ := hb
            have h12 : v 170 = .bool (decide (cf x1 x2 < 0)) := hd 12 (by kernel_rfl)
            refine step_list fun K hK => ?_
            simp only [fill_lit, fillL, Act.put, List.setIfInBounds_toArray, List.set_cons_zero, List.set_cons_succ, Nat.reduceAdd] at hK ⊢
            rw [h12] at hK ⊢
            clear hd h12
            go_wp2
            (first | exact ⟨⟨⟨nd, rfl⟩⟩, trivial, rfl⟩ | exact ⟨⟨⟨nd, rfl⟩⟩, rfl⟩ | exact ⟨⟨⟨nd, rfl⟩⟩, by show Value.bool _ = Value.bool _; simp [hdec]⟩)
        · intro v W hb hF
          have h16 : v 171 = .bool (!decide (cf x1 x2 < 0)) := hF 13 (of_decide_eq_true (by kernel_rfl))
          simp only [fill_lit, fillL, Nat.reduceAdd]
          rw [h16, hdec]
          clear hF h16
          go_wp2
          go_roundw
          case rel => exact ⟨i, h, rfl, rfl, ⟨HNew.out, K.Drawn0.trans_ HI.out.2 hb⟩⟩
          case measure => have := HG.out; simp [intOf]; omega
      · have hdec : decide (cf x1 x2 < 0) = false := by simpa using ht
        have HNew := Aside0.mk ((HDc.out x1 x2 hx1 hx2).2 ht)
        clear hx1 hx2 hb hb1 hb2 hb3 hlim hlt hh1 hdc hnn ht hin hhi hmdd hph
        go_upto_region 35 with (fail)
        refine wp_region_fin [false, false, false, false, false, false, false, false, false, false, false, false, false, false, false, false, false, false, false, false, false, false, false, false, false, false, false, false, false, false, false, false, false, false, false, false, false, false, false, false, false, false, false, false, false, false, false, false, false, false, false, false, false, false, false, false, false, false, false, false, false, false, false, false, false, false, false, false, false, false, false, false, false, false, false, false, false, false, false, false, false, false, false, false, false, false, false, false, false, false, false, false, false, false, false, false, false, false, false, false, false, false, false, false, false, false, false, false, false, false, false, false, false, false, false, false, false, false, false, false, false, false, false, false, false, false, false, false, false, false, false, false, false, false, false, false, false, false, false, false, false, false, false, false, false, false, false, false, false, false, false, false, false, false, false, false, false, false, true, true, true, true, true, true, true, true, true, true, true, true, true, true] (by kernel_rfl) (by kernel_rfl) (fun W => Drawn0 wi W) (fun W W' => True) (fun iv xv _ => Sm35F fid fa lb g n c p h ph x1 x2 (cf x1 x2) iv xv) (fun _ _ _ _ _ _ h => h) ⟨⟨1, rfl⟩⟩ ?_ ?_
        · refine ⟨?_, ?_, ?_, ?_, ?_, ?_, ?_, ?_, ?_, ?_, ?_, ?_, ?_, ?_, trivial⟩
          · intro v W hb hd
            obtain ⟨⟨nd, rfl⟩⟩ := hb
            refine step_list fun K hK => ?_
            simp only [fill_lit, fillL, Act.put, List.setIfInBounds_toArray, List.set_cons_zero, List.set_cons_succ, Nat.reduceAdd] at hK ⊢
            clear hd
            go_wp2
            (first | exact ⟨⟨⟨nd, rfl⟩⟩, trivial, rfl⟩ | exact ⟨⟨⟨nd, rfl⟩⟩, rfl⟩ | exact ⟨⟨⟨nd, rfl⟩⟩, by show Value.bool _ = Value.bool _; simp [hdec]⟩)
          · intro v W hb hd
            obtain ⟨⟨nd, rfl⟩⟩ := hb
            refine step_list fun K hK => ?_
            simp only [fill_lit, fillL, Act.put, List.setIfInBounds_toArray, List.set_cons_zero, List.set_cons_succ, Nat.reduceAdd] at hK ⊢
            clear hd
            go_wp2
            (first | exact ⟨⟨⟨nd, rfl⟩⟩, trivial, rfl⟩ | exact ⟨⟨⟨nd, rfl⟩⟩, rfl⟩ | exact ⟨⟨⟨nd, rfl⟩⟩, by show Value.bool _ = Value.bool _; simp [hdec]⟩)
          · intro v W hb hd
            obtain ⟨⟨nd, rfl⟩⟩ := hb
            refine step_list fun K hK => ?_
            simp only [fill_lit, fillL, Act.put, List.setIfInBounds_toArray, List.set_cons_zero, List.set_cons_succ, Nat.reduceAdd] at hK ⊢
            clear hd
            go_wp2
            (first | exact ⟨⟨⟨nd, rfl⟩⟩, trivial, rfl⟩ | exact ⟨⟨⟨nd, rfl⟩⟩, rfl⟩ | exact ⟨⟨⟨nd, rfl⟩⟩, by show Value.bool _ = Value.bool _; simp [hdec]⟩)
          · intro v W hb hd
            obtain ⟨⟨nd, rfl⟩⟩ := hb
            refine step_list fun K hK => ?_
            simp only [fill_lit, fillL, Act.put, List.setIfInBounds_toArray, List.set_cons_zero, List.set_cons_succ, Nat.reduceAdd] at hK ⊢
            clear hd
            go_wp2
            (first | exact ⟨⟨⟨nd, rfl⟩⟩, trivial, rfl⟩ | exact ⟨⟨⟨nd, rfl⟩⟩, rfl⟩ | exact ⟨⟨⟨nd, rfl⟩⟩, by show Value.bool _ = Value.bool _; simp [hdec]⟩)
          · intro v W hb hd
            obtain ⟨⟨nd, rfl⟩⟩ := hb
            have h2 : v 160 = .int .i64 (p : Int) := hd 2 (by kernel_rfl)
            have h3 : v 161 = .int .i64 (h : Int) := hd 3 (by kernel_rfl)
            refine step_list fun K hK => ?_
            simp only [fill_lit, fillL, Act.put, List.setIfInBounds_toArray, List.set_cons_zero, List.set_cons_succ, Nat.reduceAdd] at hK ⊢
            rw [h2, h3] at hK ⊢
            clear hd h2 h3
            go_wp2
            (first | exact ⟨⟨⟨nd, rfl⟩⟩, trivial, rfl⟩ | exact ⟨⟨⟨nd, rfl⟩⟩, rfl⟩ | exact ⟨⟨⟨nd, rfl⟩⟩, by show Value.bool _ = Value.bool _; simp [hdec]⟩)
          · intro v W hb hd
            obtain ⟨⟨nd, rfl⟩⟩ := hb
            have h1 : v 159 = .slice (some ⟨g, 0, none⟩) n c := hd 1 (by kernel_rfl)
            have h4 : v 162 = .int .i64 (ph : Int) := hd 4 (by kernel_rfl)
            refine step_list fun K hK => ?_
            simp only [fill_lit, fillL, Act.put, List.setIfInBounds_toArray, List.set_cons_zero, List.set_cons_succ, Nat.reduceAdd] at hK ⊢
            rw [h1, h4] at hK ⊢
            clear hd h1 h4
            go_wp2
            (first | exact ⟨⟨⟨nd, rfl⟩⟩, trivial, rfl⟩ | exact ⟨⟨⟨nd, rfl⟩⟩, rfl⟩ | exact ⟨⟨⟨nd, rfl⟩⟩, by show Value.bool _ = Value.bool _; simp [hdec]⟩)
          · intro v W hb hd
            obtain ⟨⟨nd, rfl⟩⟩ := hb
            have hx1 : (wi.drewN nd).cell? ⟨g, ph, none⟩ = some (.int .i64 x1) := hc1
            have h5 : v 163 = .pointer (some ⟨g, ph, none⟩) := hd 5 (by kernel_rfl)
            refine step_list fun K hK => ?_
            simp only [fill_lit, fillL, Act.put, List.setIfInBounds_toArray, List.set_cons_zero, List.set_cons_succ, Nat.reduceAdd] at hK ⊢
            rw [h5] at hK ⊢
            clear hd h5
            go_wp2
            (first | exact ⟨⟨⟨nd, rfl⟩⟩, trivial, rfl⟩ | exact ⟨⟨⟨nd, rfl⟩⟩, rfl⟩ | exact ⟨⟨⟨nd, rfl⟩⟩, by show Value.bool _ = Value.bool _; simp [hdec]⟩)
          · intro v W hb hd
            obtain ⟨⟨nd, rfl⟩⟩ := hb
            refine step_list fun K hK => ?_
            simp only [fill_lit, fillL, Act.put, List.setIfInBounds_toArray, List.set_cons_zero, List.set_cons_succ, Nat.reduceAdd] at hK ⊢
            clear hd
            go_wp2
            (first | exact ⟨⟨⟨nd, rfl⟩⟩, trivial, rfl⟩ | exact ⟨⟨⟨nd, rfl⟩⟩, rfl⟩ | exact ⟨⟨⟨nd, rfl⟩⟩, by show Value.bool _ = Value.bool _; simp [hdec]⟩)
          · intro v W hb hd
            obtain ⟨⟨nd, rfl⟩⟩ := hb
            refine step_list fun K hK => ?_
            simp only [fill_lit, fillL, Act.put, List.setIfInBounds_toArray, List.set_cons_zero, List.set_cons_succ, Nat.reduceAdd] at hK ⊢
            clear hd
            go_wp2
            (first | exact ⟨⟨⟨nd, rfl⟩⟩, trivial, rfl⟩ | exact ⟨⟨⟨nd, rfl⟩⟩, rfl⟩ | exact ⟨⟨⟨nd, rfl⟩⟩, by show Value.bool _ = Value.bool _; simp [hdec]⟩)
          · intro v W hb hd
            obtain ⟨⟨nd, rfl⟩⟩ := hb
            have h7 : v 165 = .slice (some ⟨g, 0, none⟩) n c := hd 7 (by kernel_rfl)
            have h8 : v 166 = .int .i64 (h : Int) := hd 8 (by kernel_rfl)
            refine step_list fun K hK => ?_
            simp only [fill_lit, fillL, Act.put, List.setIfInBounds_toArray, List.set_cons_zero, List.set_cons_succ, Nat.reduceAdd] at hK ⊢
            rw [h7, h8] at hK ⊢
            clear hd h7 h8
            go_wp2
            (first | exact ⟨⟨⟨nd, rfl⟩⟩, trivial, rfl⟩ | exact ⟨⟨⟨nd, rfl⟩⟩, rfl⟩ | exact ⟨⟨⟨nd, rfl⟩⟩, by show Value.bool _ = Value.bool _; simp [hdec]⟩)
          · intro v W hb hd
            obtain ⟨⟨nd, rfl⟩⟩ := hb
            have hx2 : (wi.drewN nd).cell? ⟨g, h, none⟩ = some (.int .i64 x2) := hc2
            have h9 : v 167 = .pointer (some ⟨g, h, none⟩) := hd 9 (by kernel_rfl)
            refine step_list fun K hK => ?_
            simp only [fill_lit, fillL, Act.put, List.setIfInBounds_toArray, List.set_cons_zero, List.set_cons_succ, Nat.reduceAdd] at hK ⊢
            rw [h9] at hK ⊢
            clear hd h9
            go_wp2
            (first | exact ⟨⟨⟨nd, rfl⟩⟩, trivial, rfl⟩ | exact ⟨⟨⟨nd, rfl⟩⟩, rfl⟩ | exact ⟨⟨⟨nd, rfl⟩⟩, by show Value.bool _ = Value.bool _; simp [hdec]⟩)
          · intro v W hb hd
            obtain ⟨⟨nd, rfl⟩⟩ := hb
            have h4 : v 158 = .func (.func fid) fa lb := hd 0 (by kernel_rfl)
            have h8 : v 164 = .int .i64 x1 := hd 6 (by kernel_rfl)
            have h13 : v 168 = .int .i64 x2 := hd 10 (by kernel_rfl)
            refine step_list fun K hK => ?_
            simp only [fill_lit, fillL, Act.put, List.setIfInBounds_toArray, List.set_cons_zero, List.set_cons_succ, Nat.reduceAdd] at hK ⊢
            rw [h4, h8, h13] at hK ⊢
            clear hd h4 h8 h13
            go_wp2_with (fail)
            refine (HCmp.out.calls x1 x2 _ HDx.out.1 HDx.out.2 (HM.out.drawn ⟨⟨nd, rfl⟩⟩).keep (HM.out.drawn ⟨⟨nd, rfl⟩⟩).bel).mono ?_
            rintro e W' ⟨rfl, hb'⟩
            obtain ⟨⟨ne, rfl⟩⟩ := hb'
            go_wp2_with (fail)
            (first | exact ⟨⟨⟨nd + ne, rfl⟩⟩, trivial, rfl⟩ | exact ⟨⟨⟨nd + ne, rfl⟩⟩, rfl⟩)
          · intro v W hb hd
            obtain ⟨⟨nd, rfl⟩⟩ := hb
            have h11 : v 169 = .int .i64 (cf x1 x2) := hd 11 (by kernel_rfl)
            refine step_list fun K hK => ?_
            simp only [fill_lit, fillL, Act.put, List.setIfInBounds_toArray, List.set_cons_zero, List.set_cons_succ, Nat.reduceAdd] at hK ⊢
            rw [h11] at hK ⊢
            clear hd h11
            go_wp2
            (first | exact ⟨⟨⟨nd, rfl⟩⟩, trivial, rfl⟩ | exact ⟨⟨⟨nd, rfl⟩⟩, rfl⟩ | exact ⟨⟨⟨nd, rfl⟩⟩, by show Value.bool _ = Value.bool _; simp [hdec]⟩)
          · intro v W hb hd
            obtain ⟨⟨nd, rfl⟩⟩ := hb
            have h12 : v 170 = .bool (decide (cf x1 x2 < 0)) := hd 12 (by kernel_rfl)
            refine step_list fun K hK => ?_
            simp only [fill_lit, fillL, Act.put, List.setIfInBounds_toArray, List.set_cons_zero, List.set_cons_succ, Nat.reduceAdd] at hK ⊢
            rw [h12] at hK ⊢
            clear hd h12
            go_wp2
            (first | exact ⟨⟨⟨nd, rfl⟩⟩, trivial, rfl⟩ | exact ⟨⟨⟨nd, rfl⟩⟩, rfl⟩ | exact ⟨⟨⟨nd, rfl⟩⟩, by show Value.bool _ = Value.bool _; simp [hdec]⟩)
        · intro v W hb hF
          have h16 : v 171 = .bool (!decide (cf x1 x2 < 0)) := hF 13 (of_decide_eq_true (by kernel_rfl))
          simp only [fill_lit, fillL, Nat.reduceAdd]
          rw [h16, hdec]
          clear hF h16
          go_wp2
          go_roundw
          case rel => exact ⟨h + 1, j, by go_num, rfl, ⟨HNew.out, K.Drawn0.trans_ HI.out.2 hb⟩⟩
          case measure => have := HG.out; simp [intOf]; omega
    · obtain rfl : i = j := by omega
      have hrt := HI.out.1
      clear hb hlt
      have hmdd := HMid.out
      have hlo := HLo.out
      have HCut : Aside0 (CutAt pr (fun j => xs.getD j 0) (if mid < m then mid + m - b else a) (if mid < m then mid else m) (mid + m) i) := ⟨by
        rw [if_pos hlo.2, if_pos hlo.2, ← hlo.1]
        rw [← hmdd.2.1]
        exact hrt.done⟩
      obtain ⟨e, he⟩ : ∃ t, t = np - i := ⟨_, rfl⟩
      have hwe : IntKind.i64.wrap ((np : Int) - (i : Int)) = (e : Int) := (w_i64 _ (by omega) (by omega)).trans (by omega)
      have HEe : Aside0 (e = mid + m - i) := ⟨by omega⟩
      have HBd : Aside0 (a ≤ i ∧ i ≤ m ∧ m ≤ e ∧ e ≤ b ∧ i ≤ mid ∧ mid ≤ e ∧ e = mid + m - i ∧ a < mid ∧ mid < b) := ⟨by omega⟩
      have HH1 : Aside0 (Halves pr cf (rotF (fun j => xs.getD j 0) i m e) a i mid) := ⟨halves1 HL.out HR.out HT.out HBd.out.1 HBd.out.2.1 HBd.out.2.2.1 HBd.out.2.2.2.1 HBd.out.2.2.2.2.1 HEe.out⟩
      have HA1 : Aside0 (AllF D n (rotF (fun j => xs.getD j 0) i m e)) := ⟨by
        have h9 := list_allF HD.out
        rw [HN.out] at h9
        exact h9.from_ (rot_from _ i i m e e (Nat.le_refl _) HBd.out.2.1 HBd.out.2.2.1 (Nat.le_refl _)) (rot_off _ i i m e e (Nat.le_refl _) HBd.out.2.1 HBd.out.2.2.1 (Nat.le_refl _)) (by have := HBd.out; omega)⟩
      clear hrt hb1 hb2 hb3 hlim he hmdd hlo
      by_cases q1 : i < m
      · have dq1 : decide (i < m) = true := by simpa using q1
        by_cases q2 : m < e
        · have dq2 : decide (m < e) = true := by simpa using q2
          have HCr := Aside0.mk (rotate_calls g n c B i m e xs (.func (.func fid) fa lb) wi HM.out.dat HN.out HB.out q1 q2 (by have := HBd.out; have := HLim.out; omega) HLim.out.2.2.2.1)
          clear q1 q2
          go_wp2_with (fail)
          refine HCr.out.mono ?_
          rintro e1 w2 ⟨rfl, hd⟩
          have HF1 : Aside0 (DatF B g c n w w2 (rotF (fun j => xs.getD j 0) i m e)) := ⟨by
            obtain ⟨zs, z1, z2, z3⟩ := hd
            exact ⟨zs, HM.out.trans z1, z2, z3⟩⟩
          clear hd
          by_cases r1 : a < i
          · have dr21 : decide (a < i) = true := by simpa using r1
            by_cases r2 : i < mid
            · have dr22 : decide (i < mid) = true := by simpa using r2
              have HCs : Aside0 (∃ zs, DatM B g c w w2 zs ∧ (∀ j, zs.getD j 0 = (rotF (fun j => xs.getD j 0) i m e) j) ∧ Calls Tryd.prog 75 #[.slice (some ⟨g, 0, none⟩) n c, .int .i64 (a : Int), .int .i64 (i : Int), .int .i64 (mid : Int), .func (.func fid) fa lb] w2 fun en w' => en = .returned (.tuple #[]) ∧ MergeEnd pr B g c n a mid (rotF (fun j => xs.getD j 0) i m e) w2 w') := ⟨by
                obtain ⟨zs, z1, z2, z3⟩ := HF1.out
                have hfe : (fun j => zs.getD j 0) = (rotF (fun j => xs.getD j 0) i m e) := funext z3
                have := HBd.out
                have := HLim.out
                have hc := HIh.out a i mid zs w2 (by omega) (HCmp.out.later z1) z1.dat z2 (AllF.list HA1.out z2 z3) HB.out r1 r2 (by omega) (by omega) (by rw [hfe]; exact HH1.out.l) (by rw [hfe]; exact HH1.out.r) (by rw [hfe]; exact HH1.out.t)
                rw [hfe] at hc
                exact ⟨zs, z1, z3, hc⟩⟩
              obtain ⟨zs2, hz2⟩ := HCs.out
              have HZ2 := Aside0.mk hz2
              clear r1 r2 hz2 HCs
              go_wp2_with (fail)
              refine HZ2.out.2.2.mono ?_
              rintro e2 w3 ⟨rfl, hd⟩
              obtain ⟨g1, hg1, hm1⟩ := hd
              have HF2 : Aside0 (DatF B g c n w w3 g1) := ⟨by
                obtain ⟨ts, t1, t2, t3⟩ := hg1
                exact ⟨ts, HZ2.out.1.trans t1, t2, t3⟩⟩
              have HM1 := Aside0.mk hm1
              clear hg1 hm1
              have HH2 : Aside0 (Halves pr cf g1 mid e b) := ⟨halves2 HL.out HR.out HT.out HBd.out.1 HBd.out.2.1 HBd.out.2.2.1 HBd.out.2.2.2.1 HBd.out.2.2.2.2.1 HBd.out.2.2.2.2.2.1 HBd.out.2.2.2.2.2.2.1 (fun j hj => HM1.out.off j (.inr hj))⟩
              have HA2 : Aside0 (AllF D n g1) := ⟨HA1.out.from_ HM1.out.from_ HM1.out.off (by have := HBd.out; have := HLim.out; omega)⟩
              by_cases r1 : mid < e
              · have dr31 : decide (mid < e) = true := by simpa using r1
                by_cases r2 : e < b
                · have dr32 : decide (e < b) = true := by simpa using r2
                  have HCs : Aside0 (∃ zs, DatM B g c w w3 zs ∧ (∀ j, zs.getD j 0 = g1 j) ∧ Calls Tryd.prog 75 #[.slice (some ⟨g, 0, none⟩) n c, .int .i64 (mid : Int), .int .i64 (e : Int), .int .i64 (b : Int), .func (.func fid) fa lb] w3 fun en w' => en = .returned (.tuple #[]) ∧ MergeEnd pr B g c n mid b g1 w3 w') := ⟨by
                    obtain ⟨zs, z1, z2, z3⟩ := HF2.out
                    have hfe : (fun j => zs.getD j 0) = g1 := funext z3
                    have := HBd.out
                    have := HLim.out
                    have hc := HIh.out mid e b zs w3 (by omega) (HCmp.out.later z1) z1.dat z2 (AllF.list HA2.out z2 z3) HB.out r1 r2 (by omega) (by omega) (by rw [hfe]; exact HH2.out.l) (by rw [hfe]; exact HH2.out.r) (by rw [hfe]; exact HH2.out.t)
                    rw [hfe] at hc
                    exact ⟨zs, z1, z3, hc⟩⟩
                  obtain ⟨zs3, hz3⟩ := HCs.out
                  have HZ3 := Aside0.mk hz3
                  clear r1 r2 hz3 HCs
                  go_wp2_with (fail)
                  refine HZ3.out.2.2.mono ?_
                  rintro e3 w4 ⟨rfl, hd⟩
                  obtain ⟨g2, hg1, hm1⟩ := hd
                  have HF3 : Aside0 (DatF B g c n w w4 g2) := ⟨by
                    obtain ⟨ts, t1, t2, t3⟩ := hg1
                    exact ⟨ts, HZ3.out.1.trans t1, t2, t3⟩⟩
                  have HM2 := Aside0.mk hm1
                  clear hg1 hm1
                  go_wp2
                  go_end0
                  exact ⟨rfl, g2, HF3.out, (sym_merge (cf := cf) HS.out HLim.out.1 HLim.out.2.1 HMid.out.1 HL.out HR.out HCut.out HEe.out HM1.out HM2.out).1⟩
                · have dr32 : decide (e < b) = false := by simpa using r2
                  obtain ⟨g2, hgE⟩ : ∃ t, t = g1 := ⟨_, rfl⟩
                  have HM2 : Aside0 (Merged pr g1 g2 mid b) := ⟨by rw [hgE]; exact HH2.out.same (fun h => r2 h.2) (by have := HBd.out; omega) (by have := HBd.out; omega)⟩
                  have HF3 : Aside0 (DatF B g c n w w3 g2) := ⟨by rw [hgE]; exact HF2.out⟩
                  clear hgE r1 r2
                  go_wp2
                  go_end0
                  exact ⟨rfl, g2, HF3.out, (sym_merge (cf := cf) HS.out HLim.out.1 HLim.out.2.1 HMid.out.1 HL.out HR.out HCut.out HEe.out HM1.out HM2.out).1⟩
              · have dr31 : decide (mid < e) = false := by simpa using r1
                obtain ⟨g2, hgE⟩ : ∃ t, t = g1 := ⟨_, rfl⟩
                have HM2 : Aside0 (Merged pr g1 g2 mid b) := ⟨by rw [hgE]; exact HH2.out.same (fun h => r1 h.1) (by have := HBd.out; omega) (by have := HBd.out; omega)⟩
                have HF3 : Aside0 (DatF B g c n w w3 g2) := ⟨by rw [hgE]; exact HF2.out⟩
                clear hgE r1
                go_wp2
                go_end0
                exact ⟨rfl, g2, HF3.out, (sym_merge (cf := cf) HS.out HLim.out.1 HLim.out.2.1 HMid.out.1 HL.out HR.out HCut.out HEe.out HM1.out HM2.out).1⟩
            · have dr22 : decide (i < mid) = false := by simpa using r2
              obtain ⟨g1, hgE⟩ : ∃ t, t = (rotF (fun j => xs.getD j 0) i m e) := ⟨_, rfl⟩
              have HM1 : Aside0 (Merged pr (rotF (fun j => xs.getD j 0) i m e) g1 a mid) := ⟨by rw [hgE]; exact HH1.out.same (fun h => r2 h.2) (by have := HBd.out; omega) (by have := HBd.out; omega)⟩
              have HF2 : Aside0 (DatF B g c n w w2 g1) := ⟨by rw [hgE]; exact HF1.out⟩
              clear hgE r1 r2
              have HH2 : Aside0 (Halves pr cf g1 mid e b) := ⟨halves2 HL.out HR.out HT.out HBd.out.1 HBd.out.2.1 HBd.out.2.2.1 HBd.out.2.2.2.1 HBd.out.2.2.2.2.1 HBd.out.2.2.2.2.2.1 HBd.out.2.2.2.2.2.2.1 (fun j hj => HM1.out.off j (.inr hj))⟩
              have HA2 : Aside0 (AllF D n g1) := ⟨HA1.out.from_ HM1.out.from_ HM1.out.off (by have := HBd.out; have := HLim.out; omega)⟩
              by_cases r1 : mid < e
              · have dr31 : decide (mid < e) = true := by simpa using r1
                by_cases r2 : e < b
                · have dr32 : decide (e < b) = true := by simpa using r2
                  have HCs : Aside0 (∃ zs, DatM B g c w w2 zs ∧ (∀ j, zs.getD j 0 = g1 j) ∧ Calls Tryd.prog 75 #[.slice (some ⟨g, 0, none⟩) n c, .int .i64 (mid : Int), .int .i64 (e : Int), .int .i64 (b : Int), .func (.func fid) fa lb] w2 fun en w' => en = .returned (.tuple #[]) ∧ MergeEnd pr B g c n mid b g1 w2 w') := ⟨by
                    obtain ⟨zs, z1, z2, z3⟩ := HF2.out
                    have hfe : (fun j => zs.getD j 0) = g1 := funext z3
                    have := HBd.out
                    have := HLim.out
                    have hc := HIh.out mid e b zs w2 (by omega) (HCmp.out.later z1) z1.dat z2 (AllF.list HA2.out z2 z3) HB.out r1 r2 (by omega) (by omega) (by rw [hfe]; exact HH2.out.l) (by rw [hfe]; exact HH2.out.r) (by rw [hfe]; exact HH2.out.t)
                    rw [hfe] at hc
                    exact ⟨zs, z1, z3, hc⟩⟩
                  obtain ⟨zs3, hz3⟩ := HCs.out
                  have HZ3 := Aside0.mk hz3
                  clear r1 r2 hz3 HCs
                  go_wp2_with (fail)
                  refine HZ3.out.2.2.mono ?_
                  rintro e3 w4 ⟨rfl, hd⟩
                  obtain ⟨g2, hg1, hm1⟩ := hd
                  have HF3 : Aside0 (DatF B g c n w w4 g2) := ⟨by
                    obtain ⟨ts, t1, t2, t3⟩ := hg1
                    exact ⟨ts, HZ3.out.1.trans t1, t2, t3⟩⟩
                  have HM2 := Aside0.mk hm1
                  clear hg1 hm1
                  go_wp2
                  go_end0
                  exact ⟨rfl, g2, HF3.out, (sym_merge (cf := cf) HS.out HLim.out.1 HLim.out.2.1 HMid.out.1 HL.out HR.out HCut.out HEe.out HM1.out HM2.out).1⟩
                · have dr32 : decide (e < b) = false := by simpa using r2
                  obtain ⟨g2, hgE⟩ : ∃ t, t = g1 := ⟨_, rfl⟩
                  have HM2 : Aside0 (Merged pr g1 g2 mid b) := ⟨by rw [hgE]; exact HH2.out.same (fun h => r2 h.2) (by have := HBd.out; omega) (by have := HBd.out; omega)⟩
                  have HF3 : Aside0 (DatF B g c n w w2 g2) := ⟨by rw [hgE]; exact HF2.out⟩
                  clear hgE r1 r2
                  go_wp2
                  go_end0
                  exact ⟨rfl, g2, HF3.out, (sym_merge (cf := cf) HS.out HLim.out.1 HLim.out.2.1 HMid.out.1 HL.out HR.out HCut.out HEe.out HM1.out HM2.out).1⟩
              · have dr31 : decide (mid < e) = false := by simpa using r1
                obtain ⟨g2, hgE⟩ : ∃ t, t = g1 := ⟨_, rfl⟩
                have HM2 : Aside0 (Merged pr g1 g2 mid b) := ⟨by rw [hgE]; exact HH2.out.same (fun h => r1 h.1) (by have := HBd.out; omega) (by have := HBd.out; omega)⟩
                have HF3 : Aside0 (DatF B g c n w w2 g2) := ⟨by rw [hgE]; exact HF2.out⟩
                clear hgE r1
                go_wp2
                go_end0
                exact ⟨rfl, g2, HF3.out, (sym_merge (cf := cf) HS.out HLim.out.1 HLim.out.2.1 HMid.out.1 HL.out HR.out HCut.out HEe.out HM1.out HM2.out).1⟩
          · have dr21 : decide (a < i) = false := by simpa using r1
            obtain ⟨g1, hgE⟩ : ∃ t, t = (rotF (fun j => xs.getD j 0) i m e) := ⟨_, rfl⟩
            have HM1 : Aside0 (Merged pr (rotF (fun j => xs.getD j 0) i m e) g1 a mid) := ⟨by rw [hgE]; exact HH1.out.same (fun h => r1 h.1) (by have := HBd.out; omega) (by have := HBd.out; omega)⟩
            have HF2 : Aside0 (DatF B g c n w w2 g1) := ⟨by rw [hgE]; exact HF1.out⟩
            clear hgE r1
            have HH2 : Aside0 (Halves pr cf g1 mid e b) := ⟨halves2 HL.out HR.out HT.out HBd.out.1 HBd.out.2.1 HBd.out.2.2.1 HBd.out.2.2.2.1 HBd.out.2.2.2.2.1 HBd.out.2.2.2.2.2.1 HBd.out.2.2.2.2.2.2.1 (fun j hj => HM1.out.off j (.inr hj))⟩
            have HA2 : Aside0 (AllF D n g1) := ⟨HA1.out.from_ HM1.out.from_ HM1.out.off (by have := HBd.out; have := HLim.out; omega)⟩
            by_cases r1 : mid < e
            · have dr31 : decide (mid < e) = true := by simpa using r1
              by_cases r2 : e < b
              · have dr32 : decide (e < b) = true := by simpa using r2
                have HCs : Aside0 (∃ zs, DatM B g c w w2 zs ∧ (∀ j, zs.getD j 0 = g1 j) ∧ Calls Tryd.prog 75 #[.slice (some ⟨g, 0, none⟩) n c, .int .i64 (mid : Int), .int .i64 (e : Int), .int .i64 (b : Int), .func (.func fid) fa lb] w2 fun en w' => en = .returned (.tuple #[]) ∧ MergeEnd pr B g c n mid b g1 w2 w') := ⟨by
                  obtain ⟨zs, z1, z2, z3⟩ := HF2.out
                  have hfe : (fun j => zs.getD j 0) = g1 := funext z3
                  have := HBd.out
                  have := HLim.out
                  have hc := HIh.out mid e b zs w2 (by omega) (HCmp.out.later z1) z1.dat z2 (AllF.list HA2.out z2 z3) HB.out r1 r2 (by omega) (by omega) (by rw [hfe]; exact HH2.out.l) (by rw [hfe]; exact HH2.out.r) (by rw [hfe]; exact HH2.out.t)
                  rw [hfe] at hc
                  exact ⟨zs, z1, z3, hc⟩⟩
                obtain ⟨zs3, hz3⟩ := HCs.out
                have HZ3 := Aside0.mk hz3
                clear r1 r2 hz3 HCs
                go_wp2_with (fail)
                refine HZ3.out.2.2.mono ?_
                rintro e3 w4 ⟨rfl, hd⟩
                obtain ⟨g2, hg1, hm1⟩ := hd
                have HF3 : Aside0 (DatF B g c n w w4 g2) := ⟨by
                  obtain ⟨ts, t1, t2, t3⟩ := hg1
                  exact ⟨ts, HZ3.out.1.trans t1, t2, t3⟩⟩
                have HM2 := Aside0.mk hm1
                clear hg1 hm1
                go_wp2
                go_end0
                exact ⟨rfl, g2, HF3.out, (sym_merge (cf := cf) HS.out HLim.out.1 HLim.out.2.1 HMid.out.1 HL.out HR.out HCut.out HEe.out HM1.out HM2.out).1⟩
              · have dr32 : decide (e < b) = false := by simpa using r2
                obtain ⟨g2, hgE⟩ : ∃ t, t = g1 := ⟨_, rfl⟩
                have HM2 : Aside0 (Merged pr g1 g2 mid b) := ⟨by rw [hgE]; exact HH2.out.same (fun h => r2 h.2) (by have := HBd.out; omega) (by have := HBd.out; omega)⟩
                have HF3 : Aside0 (DatF B g c n w w2 g2) := ⟨by rw [hgE]; exact HF2.out⟩
                clear hgE r1 r2
                go_wp2
                go_end0
                exact ⟨rfl, g2, HF3.out, (sym_merge (cf := cf) HS.out HLim.out.1 HLim.out.2.1 HMid.out.1 HL.out HR.out HCut.out HEe.out HM1.out HM2.out).1⟩
            · have dr31 : decide (mid < e) = false := by simpa using r1
              obtain ⟨g2, hgE⟩ : ∃ t, t = g1 := ⟨_, rfl⟩
              have HM2 : Aside0 (Merged pr g1 g2 mid b) := ⟨by rw [hgE]; exact HH2.out.same (fun h => r1 h.1) (by have := HBd.out; omega) (by have := HBd.out; omega)⟩
              have HF3 : Aside0 (DatF B g c n w w2 g2) := ⟨by rw [hgE]; exact HF2.out⟩
              clear hgE r1
              go_wp2
              go_end0
              exact ⟨rfl, g2, HF3.out, (sym_merge (cf := cf) HS.out HLim.out.1 HLim.out.2.1 HMid.out.1 HL.out HR.out HCut.out HEe.out HM1.out HM2.out).1⟩
        · have dq2 : decide (m < e) = false := by simpa using q2
          have HF1 : Aside0 (DatF B g c n w wi (rotF (fun j => xs.getD j 0) i m e)) := ⟨xs, HM.out, HN.out, fun j => (rot_nop (f := (fun j => xs.getD j 0)) (fun h => q2 h.2) HBd.out.2.1 HBd.out.2.2.1 j).symm⟩
          clear q1 q2
          by_cases r1 : a < i
          · have dr21 : decide (a < i) = true := by simpa using r1
            by_cases r2 : i < mid
            · have dr22 : decide (i < mid) = true := by simpa using r2
              have HCs : Aside0 (∃ zs, DatM B g c w wi zs ∧ (∀ j, zs.getD j 0 = (rotF (fun j => xs.getD j 0) i m e) j) ∧ Calls Tryd.prog 75 #[.slice (some ⟨g, 0, none⟩) n c, .int .i64 (a : Int), .int .i64 (i : Int), .int .i64 (mid : Int), .func (.func fid) fa lb] wi fun en w' => en = .returned (.tuple #[]) ∧ MergeEnd pr B g c n a mid (rotF (fun j => xs.getD j 0) i m e) wi w') := ⟨by
                obtain ⟨zs, z1, z2, z3⟩ := HF1.out
                have hfe : (fun j => zs.getD j 0) = (rotF (fun j => xs.getD j 0) i m e) := funext z3
                have := HBd.out
                have := HLim.out
                have hc := HIh.out a i mid zs wi (by omega) (HCmp.out.later z1) z1.dat z2 (AllF.list HA1.out z2 z3) HB.out r1 r2 (by omega) (by omega) (by rw [hfe]; exact HH1.out.l) (by rw [hfe]; exact HH1.out.r) (by rw [hfe]; exact HH1.out.t)
                rw [hfe] at hc
                exact ⟨zs, z1, z3, hc⟩⟩
              obtain ⟨zs2, hz2⟩ := HCs.out
              have HZ2 := Aside0.mk hz2
              clear r1 r2 hz2 HCs
              go_wp2_with (fail)
              refine HZ2.out.2.2.mono ?_
              rintro e2 w3 ⟨rfl, hd⟩
              obtain ⟨g1, hg1, hm1⟩ := hd
              have HF2 : Aside0 (DatF B g c n w w3 g1) := ⟨by
                obtain ⟨ts, t1, t2, t3⟩ := hg1
                exact ⟨ts, HZ2.out.1.trans t1, t2, t3⟩⟩
              have HM1 := Aside0.mk hm1
              clear hg1 hm1
              have HH2 : Aside0 (Halves pr cf g1 mid e b) := ⟨halves2 HL.out HR.out HT.out HBd.out.1 HBd.out.2.1 HBd.out.2.2.1 HBd.out.2.2.2.1 HBd.out.2.2.2.2.1 HBd.out.2.2.2.2.2.1 HBd.out.2.2.2.2.2.2.1 (fun j hj => HM1.out.off j (.inr hj))⟩
              have HA2 : Aside0 (AllF D n g1) := ⟨HA1.out.from_ HM1.out.from_ HM1.out.off (by have := HBd.out; have := HLim.out; omega)⟩
              by_cases r1 : mid < e
              · have dr31 : decide (mid < e) = true := by simpa using r1
                by_cases r2 : e < b
                · have dr32 : decide (e < b) = true := by simpa using r2
                  have HCs : Aside0 (∃ zs, DatM B g c w w3 zs ∧ (∀ j, zs.getD j 0 = g1 j) ∧ Calls Tryd.prog 75 #[.slice (some ⟨g, 0, none⟩) n c, .int .i64 (mid : Int), .int .i64 (e : Int), .int .i64 (b : Int), .func (.func fid) fa lb] w3 fun en w' => en = .returned (.tuple #[]) ∧ MergeEnd pr B g c n mid b g1 w3 w') := ⟨by
                    obtain ⟨zs, z1, z2, z3⟩ := HF2.out
                    have hfe : (fun j => zs.getD j 0) = g1 := funext z3
                    have := HBd.out
                    have := HLim.out
                    have hc := HIh.out mid e b zs w3 (by omega) (HCmp.out.later z1) z1.dat z2 (AllF.list HA2.out z2 z3) HB.out r1 r2 (by omega) (by omega) (by rw [hfe]; exact HH2.out.l) (by rw [hfe]; exact HH2.out.r) (by rw [hfe]; exact HH2.out.t)
                    rw [hfe] at hc
                    exact ⟨zs, z1, z3, hc⟩⟩
                  obtain ⟨zs3, hz3⟩ := HCs.out
                  have HZ3 := Aside0.mk hz3
                  clear r1 r2 hz3 HCs
                  go_wp2_with (fail)
                  refine HZ3.out.2.2.mono ?_
                  rintro e3 w4 ⟨rfl, hd⟩
                  obtain ⟨g2, hg1, hm1⟩ := hd
                  have HF3 : Aside0 (DatF B g c n w w4 g2) := ⟨by
                    obtain ⟨ts, t1, t2, t3⟩ := hg1
                    exact ⟨ts, HZ3.out.1.trans t1, t2, t3⟩⟩
                  have HM2 := Aside0.mk hm1
                  clear hg1 hm1
                  go_wp2
                  go_end0
                  exact ⟨rfl, g2, HF3.out, (sym_merge (cf := cf) HS.out HLim.out.1 HLim.out.2.1 HMid.out.1 HL.out HR.out HCut.out HEe.out HM1.out HM2.out).1⟩
                · have dr32 : decide (e < b) = false := by simpa using r2
                  obtain ⟨g2, hgE⟩ : ∃ t, t = g1 := ⟨_, rfl⟩
                  have HM2 : Aside0 (Merged pr g1 g2 mid b) := ⟨by rw [hgE]; exact HH2.out.same (fun h => r2 h.2) (by have := HBd.out; omega) (by have := HBd.out; omega)⟩
                  have HF3 : Aside0 (DatF B g c n w w3 g2) := ⟨by rw [hgE]; exact HF2.out⟩
                  clear hgE r1 r2
                  go_wp2
                  go_end0
                  exact ⟨rfl, g2, HF3.out, (sym_merge (cf := cf) HS.out HLim.out.1 HLim.out.2.1 HMid.out.1 HL.out HR.out HCut.out HEe.out HM1.out HM2.out).1⟩
              · have dr31 : decide (mid < e) = false := by simpa using r1
                obtain ⟨g2, hgE⟩ : ∃ t, t = g1 := ⟨_, rfl⟩
                have HM2 : Aside0 (Merged pr g1 g2 mid b) := ⟨by rw [hgE]; exact HH2.out.same (fun h => r1 h.1) (by have := HBd.out; omega) (by have := HBd.out; omega)⟩
                have HF3 : Aside0 (DatF B g c n w w3 g2) := ⟨by rw [hgE]; exact HF2.out⟩
                clear hgE r1
                go_wp2
                go_end0
                exact ⟨rfl, g2, HF3.out, (sym_merge (cf := cf) HS.out HLim.out.1 HLim.out.2.1 HMid.out.1 HL.out HR.out HCut.out HEe.out HM1.out HM2.out).1⟩
            · have dr22 : decide (i < mid) = false := by simpa using r2
              obtain ⟨g1, hgE⟩ : ∃ t, t = (rotF (fun j => xs.getD j 0) i m e) := ⟨_, rfl⟩
              have HM1 : Aside0 (Merged pr (rotF (fun j => xs.getD j 0) i m e) g1 a mid) := ⟨by rw [hgE]; exact HH1.out.same (fun h => r2 h.2) (by have := HBd.out; omega) (by have := HBd.out; omega)⟩
              have HF2 : Aside0 (DatF B g c n w wi g1) := ⟨by rw [hgE]; exact HF1.out⟩
              clear hgE r1 r2
              have HH2 : Aside0 (Halves pr cf g1 mid e b) := ⟨halves2 HL.out HR.out HT.out HBd.out.1 HBd.out.2.1 HBd.out.2.2.1 HBd.out.2.2.2.1 HBd.out.2.2.2.2.1 HBd.out.2.2.2.2.2.1 HBd.out.2.2.2.2.2.2.1 (fun j hj => HM1.out.off j (.inr hj))⟩
              have HA2 : Aside0 (AllF D n g1) := ⟨HA1.out.from_ HM1.out.from_ HM1.out.off (by have := HBd.out; have := HLim.out; omega)⟩
              by_cases r1 : mid < e
              · have dr31 : decide (mid < e) = true := by simpa using r1
                by_cases r2 : e < b
                · have dr32 : decide (e < b) = true := by simpa using r2
                  have HCs : Aside0 (∃ zs, DatM B g c w wi zs ∧ (∀ j, zs.getD j 0 = g1 j) ∧ Calls Tryd.prog 75 #[.slice (some ⟨g, 0, none⟩) n c, .int .i64 (mid : Int), .int .i64 (e : Int), .int .i64 (b : Int), .func (.func fid) fa lb] wi fun en w' => en = .returned (.tuple #[]) ∧ MergeEnd pr B g c n mid b g1 wi w') := ⟨by
                    obtain ⟨zs, z1, z2, z3⟩ := HF2.out
                    have hfe : (fun j => zs.getD j 0) = g1 := funext z3
                    have := HBd.out
                    have := HLim.out
                    have hc := HIh.out mid e b zs wi (by omega) (HCmp.out.later z1) z1.dat z2 (AllF.list HA2.out z2 z3) HB.out r1 r2 (by omega) (by omega) (by rw [hfe]; exact HH2.out.l) (by rw [hfe]; exact HH2.out.r) (by rw [hfe]; exact HH2.out.t)
                    rw [hfe] at hc
                    exact ⟨zs, z1, z3, hc⟩⟩
                  obtain ⟨zs3, hz3⟩ := HCs.out
                  have HZ3 := Aside0.mk hz3
                  clear r1 r2 hz3 HCs
                  go_wp2_with (fail)
                  refine HZ3.out.2.2.mono ?_
                  rintro e3 w4 ⟨rfl, hd⟩
                  obtain ⟨g2, hg1, hm1⟩ := hd
                  have HF3 : Aside0 (DatF B g c n w w4 g2) := ⟨by
                    obtain ⟨ts, t1, t2, t3⟩ := hg1
                    exact ⟨ts, HZ3.out.1.trans t1, t2, t3⟩⟩
                  have HM2 := Aside0.mk hm1
                  clear hg1 hm1
                  go_wp2
                  go_end0
                  exact ⟨rfl, g2, HF3.out, (sym_merge (cf := cf) HS.out HLim.out.1 HLim.out.2.1 HMid.out.1 HL.out HR.out HCut.out HEe.out HM1.out HM2.out).1⟩
                · have dr32 : decide (e < b) = false := by simpa using r2
                  obtain ⟨g2, hgE⟩ : ∃ t, t = g1 := ⟨_, rfl⟩
                  have HM2 : Aside0 (Merged pr g1 g2 mid b) := ⟨by rw [hgE]; exact HH2.out.same (fun h => r2 h.2) (by have := HBd.out; omega) (by have := HBd.out; omega)⟩
                  have HF3 : Aside0 (DatF B g c n w wi g2) := ⟨by rw [hgE]; exact HF2.out⟩
                  clear hgE r1 r2
                  go_wp2
                  go_end0
                  exact ⟨rfl, g2, HF3.out, (sym_merge (cf := cf) HS.out HLim.out.1 HLim.out.2.1 HMid.out.1 HL.out HR.out HCut.out HEe.out HM1.out HM2.out).1⟩
              · have dr31 : decide (mid < e) = false := by simpa using r1
                obtain ⟨g2, hgE⟩ : ∃ t, t = g1 := ⟨_, rfl⟩
                have HM2 : Aside0 (Merged pr g1 g2 mid b) := ⟨by rw [hgE]; exact HH2.out.same (fun h => r1 h.1) (by have := HBd.out; omega) (by have := HBd.out; omega)⟩
                have HF3 : Aside0 (DatF B g c n w wi g2) := ⟨by rw [hgE]; exact HF2.out⟩
                clear hgE r1
                go_wp2
                go_end0
                exact ⟨rfl, g2, HF3.out, (sym_merge (cf := cf) HS.out HLim.out.1 HLim.out.2.1 HMid.out.1 HL.out HR.out HCut.out HEe.out HM1.out HM2.out).1⟩
          · have dr21 : decide (a < i) = false := by simpa using r1
            obtain ⟨g1, hgE⟩ : ∃ t, t = (rotF (fun j => xs.getD j 0) i m e) := ⟨_, rfl⟩
            have HM1 : Aside0 (Merged pr (rotF (fun j => xs.getD j 0) i m e) g1 a mid) := ⟨by rw [hgE]; exact HH1.out.same (fun h => r1 h.1) (by have := HBd.out; omega) (by have := HBd.out; omega)⟩
            have HF2 : Aside0 (DatF B g c n w wi g1) := ⟨by rw [hgE]; exact HF1.out⟩
            clear hgE r1
            have HH2 : Aside0 (Halves pr cf g1 mid e b) := ⟨halves2 HL.out HR.out HT.out HBd.out.1 HBd.out.2.1 HBd.out.2.2.1 HBd.out.2.2.2.1 HBd.out.2.2.2.2.1 HBd.out.2.2.2.2.2.1 HBd.out.2.2.2.2.2.2.1 (fun j hj => HM1.out.off j (.inr hj))⟩
            have HA2 : Aside0 (AllF D n g1) := ⟨HA1.out.from_ HM1.out.from_ HM1.out.off (by have := HBd.out; have := HLim.out; omega)⟩
            by_cases r1 : mid < e
            · have dr31 : decide (mid < e) = true := by simpa using r1
              by_cases r2 : e < b
              · have dr32 : decide (e < b) = true := by simpa using r2
                have HCs : Aside0 (∃ zs, DatM B g c w wi zs ∧ (∀ j, zs.getD j 0 = g1 j) ∧ Calls Tryd.prog 75 #[.slice (some ⟨g, 0, none⟩) n c, .int .i64 (mid : Int), .int .i64 (e : Int), .int .i64 (b : Int), .func (.func fid) fa lb] wi fun en w' => en = .returned (.tuple #[]) ∧ MergeEnd pr B g c n mid b g1 wi w') := ⟨by
                  obtain ⟨zs, z1, z2, z3⟩ := HF2.out
                  have hfe : (fun j => zs.getD j 0) = g1 := funext z3
                  have := HBd.out
                  have := HLim.out
                  have hc := HIh.out mid e b zs wi (by omega) (HCmp.out.later z1) z1.dat z2 (AllF.list HA2.out z2 z3) HB.out r1 r2 (by omega) (by omega) (by rw [hfe]; exact HH2.out.l) (by rw [hfe]; exact HH2.out.r) (by rw [hfe]; exact HH2.out.t)
                  rw [hfe] at hc
                  exact ⟨zs, z1, z3, hc⟩⟩
                obtain ⟨zs3, hz3⟩ := HCs.out
                have HZ3 := Aside0.mk hz3
                clear r1 r2 hz3 HCs
                go_wp2_with (fail)
                refine HZ3.out.2.2.mono ?_
                rintro e3 w4 ⟨rfl, hd⟩
                obtain ⟨g2, hg1, hm1⟩ := hd
                have HF3 : Aside0 (DatF B g c n w w4 g2) := ⟨by
                  obtain ⟨ts, t1, t2, t3⟩ := hg1
                  exact ⟨ts, HZ3.out.1.trans t1, t2, t3⟩⟩
                have HM2 := Aside0.mk hm1
                clear hg1 hm1
                go_wp2
                go_end0
                exact ⟨rfl, g2, HF3.out, (sym_merge (cf := cf) HS.out HLim.out.1 HLim.out.2.1 HMid.out.1 HL.out HR.out HCut.out HEe.out HM1.out HM2.out).1⟩
              · have dr32 : decide (e < b) = false := by simpa using r2
                obtain ⟨g2, hgE⟩ : ∃ t, t = g1 := ⟨_, rfl⟩
                have HM2 : Aside0 (Merged pr g1 g2 mid b) := ⟨by rw [hgE]; exact HH2.out.same (fun h => r2 h.2) (by have := HBd.out; omega) (by have := HBd.out; omega)⟩
                have HF3 : Aside0 (DatF B g c n w wi g2) := ⟨by rw [hgE]; exact HF2.out⟩
                clear hgE r1 r2
                go_wp2
                go_end0
                exact ⟨rfl, g2, HF3.out, (sym_merge (cf := cf) HS.out HLim.out.1 HLim.out.2.1 HMid.out.1 HL.out HR.out HCut.out HEe.out HM1.out HM2.out).1⟩
            · have dr31 : decide (mid < e) = false := by simpa using r1
              obtain ⟨g2, hgE⟩ : ∃ t, t = g1 := ⟨_, rfl⟩
              have HM2 : Aside0 (Merged pr g1 g2 mid b) := ⟨by rw [hgE]; exact HH2.out.same (fun h => r1 h.1) (by have := HBd.out; omega) (by have := HBd.out; omega)⟩
              have HF3 : Aside0 (DatF B g c n w wi g2) := ⟨by rw [hgE]; exact HF2.out⟩
              clear hgE r1
              go_wp2
              go_end0
              exact ⟨rfl, g2, HF3.out, (sym_merge (cf := cf) HS.out HLim.out.1 HLim.out.2.1 HMid.out.1 HL.out HR.out HCut.out HEe.out HM1.out HM2.out).1⟩
      · have dq1 : decide (i < m) = false := by simpa using q1
        have HF1 : Aside0 (DatF B g c n w wi (rotF (fun j => xs.getD j 0) i m e)) := ⟨xs, HM.out, HN.out, fun j => (rot_nop (f := (fun j => xs.getD j 0)) (fun h => q1 h.1) HBd.out.2.1 HBd.out.2.2.1 j).symm⟩
        clear q1
        by_cases r1 : a < i
        · have dr21 : decide (a < i) = true := by simpa using r1
          by_cases r2 : i < mid
          · have dr22 : decide (i < mid) = true := by simpa using r2
            have HCs : Aside0 (∃ zs, DatM B g c w wi zs ∧ (∀ j, zs.getD j 0 = (rotF (fun j => xs.getD j 0) i m e) j) ∧ Calls Tryd.prog 75 #[.slice (some ⟨g, 0, none⟩) n c, .int .i64 (a : Int), .int .i64 (i : Int), .int .i64 (mid : Int), .func (.func fid) fa lb] wi fun en w' => en = .returned (.tuple #[]) ∧ MergeEnd pr B g c n a mid (rotF (fun j => xs.getD j 0) i m e) wi w') := ⟨by
              obtain ⟨zs, z1, z2, z3⟩ := HF1.out
              have hfe : (fun j => zs.getD j 0) = (rotF (fun j => xs.getD j 0) i m e) := funext z3
              have := HBd.out
              have := HLim.out
              have hc := HIh.out a i mid zs wi (by omega) (HCmp.out.later z1) z1.dat z2 (AllF.list HA1.out z2 z3) HB.out r1 r2 (by omega) (by omega) (by rw [hfe]; exact HH1.out.l) (by rw [hfe]; exact HH1.out.r) (by rw [hfe]; exact HH1.out.t)
              rw [hfe] at hc
              exact ⟨zs, z1, z3, hc⟩⟩
            obtain ⟨zs2, hz2⟩ := HCs.out
            have HZ2 := Aside0.mk hz2
            clear r1 r2 hz2 HCs
            go_wp2_with (fail)
            refine HZ2.out.2.2.mono ?_
            rintro e2 w3 ⟨rfl, hd⟩
            obtain ⟨g1, hg1, hm1⟩ := hd
            have HF2 : Aside0 (DatF B g c n w w3 g1) := ⟨by
              obtain ⟨ts, t1, t2, t3⟩ := hg1
              exact ⟨ts, HZ2.out.1.trans t1, t2, t3⟩⟩
            have HM1 := Aside0.mk hm1
            clear hg1 hm1
            have HH2 : Aside0 (Halves pr cf g1 mid e b) := ⟨halves2 HL.out HR.out HT.out HBd.out.1 HBd.out.2.1 HBd.out.2.2.1 HBd.out.2.2.2.1 HBd.out.2.2.2.2.1 HBd.out.2.2.2.2.2.1 HBd.out.2.2.2.2.2.2.1 (fun j hj => HM1.out.off j (.inr hj))⟩
            have HA2 : Aside0 (AllF D n g1) := ⟨HA1.out.from_ HM1.out.from_ HM1.out.off (by have := HBd.out; have := HLim.out; omega)⟩
            by_cases r1 : mid < e
            · have dr31 : decide (mid < e) = true := by simpa using r1
              by_cases r2 : e < b
              · have dr32 : decide (e < b) = true := by simpa using r2
                have HCs : Aside0 (∃ zs, DatM B g c w w3 zs ∧ (∀ j, zs.getD j 0 = g1 j) ∧ Calls Tryd.prog 75 #[.slice (some ⟨g, 0, none⟩) n c, .int .i64 (mid : Int), .int .i64 (e : Int), .int .i64 (b : Int), .func (.func fid) fa lb] w3 fun en w' => en = .returned (.tuple #[]) ∧ MergeEnd pr B g c n mid b g1 w3 w') := ⟨by
                  obtain ⟨zs, z1, z2, z3⟩ := HF2.out
                  have hfe : (fun j => zs.getD j 0) = g1 := funext z3
                  have := HBd.out
                  have := HLim.out
                  have hc := HIh.out mid e b zs w3 (by omega) (HCmp.out.later z1) z1.dat z2 (AllF.list HA2.out z2 z3) HB.out r1 r2 (by omega) (by omega) (by rw [hfe]; exact HH2.out.l) (by rw [hfe]; exact HH2.out.r) (by rw [hfe]; exact HH2.out.t)
                  rw [hfe] at hc
                  exact ⟨zs, z1, z3, hc⟩⟩
                obtain ⟨zs3, hz3⟩ := HCs.out
                have HZ3 := Aside0.mk hz3
                clear r1 r2 hz3 HCs
                go_wp2_with (fail)
                refine HZ3.out.2.2.mono ?_
                rintro e3 w4 ⟨rfl, hd⟩
                obtain ⟨g2, hg1, hm1⟩ := hd
                have HF3 : Aside0 (DatF B g c n w w4 g2) := ⟨by
                  obtain ⟨ts, t1, t2, t3⟩ := hg1
                  exact ⟨ts, HZ3.out.1.trans t1, t2, t3⟩⟩
                have HM2 := Aside0.mk hm1
                clear hg1 hm1
                go_wp2
                go_end0
                exact ⟨rfl, g2, HF3.out, (sym_merge (cf := cf) HS.out HLim.out.1 HLim.out.2.1 HMid.out.1 HL.out HR.out HCut.out HEe.out HM1.out HM2.out).1⟩
              · have dr32 : decide (e < b) = false := by simpa using r2
                obtain ⟨g2, hgE⟩ : ∃ t, t = g1 := ⟨_, rfl⟩
                have HM2 : Aside0 (Merged pr g1 g2 mid b) := ⟨by rw [hgE]; exact HH2.out.same (fun h => r2 h.2) (by have := HBd.out; omega) (by have := HBd.out; omega)⟩
                have HF3 : Aside0 (DatF B g c n w w3 g2) := ⟨by rw [hgE]; exact HF2.out⟩
                clear hgE r1 r2
                go_wp2
                go_end0
                exact ⟨rfl, g2, HF3.out, (sym_merge (cf := cf) HS.out HLim.out.1 HLim.out.2.1 HMid.out.1 HL.out HR.out HCut.out HEe.out HM1.out HM2.out).1⟩
            · have dr31 : decide (mid < e) = false := by simpa using r1
              obtain ⟨g2, hgE⟩ : ∃ t, t = g1 := ⟨_, rfl⟩
              have HM2 : Aside0 (Merged pr g1 g2 mid b) := ⟨by rw [hgE]; exact HH2.out.same (fun h => r1 h.1) (by have := HBd.out; omega) (by have := HBd.out; omega)⟩
              have HF3 : Aside0 (DatF B g c n w w3 g2) := ⟨by rw [hgE]; exact HF2.out⟩
              clear hgE r1
              go_wp2
              go_end0
              exact ⟨rfl, g2, HF3.out, (sym_merge (cf := cf) HS.out HLim.out.1 HLim.out.2.1 HMid.out.1 HL.out HR.out HCut.out HEe.out HM1.out HM2.out).1⟩
          · have dr22 : decide (i < mid) = false := by simpa using r2
            obtain ⟨g1, hgE⟩ : ∃ t, t = (rotF (fun j => xs.getD j 0) i m e) := ⟨_, rfl⟩
            have HM1 : Aside0 (Merged pr (rotF (fun j => xs.getD j 0) i m e) g1 a mid) := ⟨by rw [hgE]; exact HH1.out.same (fun h => r2 h.2) (by have := HBd.out; omega) (by have := HBd.out; omega)⟩
            have HF2 : Aside0 (DatF B g c n w wi g1) := ⟨by rw [hgE]; exact HF1.out⟩
            clear hgE r1 r2
            have HH2 : Aside0 (Halves pr cf g1 mid e b) := ⟨halves2 HL.out HR.out HT.out HBd.out.1 HBd.out.2.1 HBd.out.2.2.1 HBd.out.2.2.2.1 HBd.out.2.2.2.2.1 HBd.out.2.2.2.2.2.1 HBd.out.2.2.2.2.2.2.1 (fun j hj => HM1.out.off j (.inr hj))⟩
            have HA2 : Aside0 (AllF D n g1) := ⟨HA1.out.from_ HM1.out.from_ HM1.out.off (by have := HBd.out; have := HLim.out; omega)⟩
            by_cases r1 : mid < e
            · have dr31 : decide (mid < e) = true := by simpa using r1
              by_cases r2 : e < b
              · have dr32 : decide (e < b) = true := by simpa using r2
                have HCs : Aside0 (∃ zs, DatM B g c w wi zs ∧ (∀ j, zs.getD j 0 = g1 j) ∧ Calls Tryd.prog 75 #[.slice (some ⟨g, 0, none⟩) n c, .int .i64 (mid : Int), .int .i64 (e : Int), .int .i64 (b : Int), .func (.func fid) fa lb] wi fun en w' => en = .returned (.tuple #[]) ∧ MergeEnd pr B g c n mid b g1 wi w') := ⟨by
                  obtain ⟨zs, z1, z2, z3⟩ := HF2.out
                  have hfe : (fun j => zs.getD j 0) = g1 := funext z3
                  have := HBd.out
                  have := HLim.out
                  have hc := HIh.out mid e b zs wi (by omega) (HCmp.out.later z1) z1.dat z2 (AllF.list HA2.out z2 z3) HB.out r1 r2 (by omega) (by omega) (by rw [hfe]; exact HH2.out.l) (by rw [hfe]; exact HH2.out.r) (by rw [hfe]; exact HH2.out.t)
                  rw [hfe] at hc
                  exact ⟨zs, z1, z3, hc⟩⟩
                obtain ⟨zs3, hz3⟩ := HCs.out
                have HZ3 := Aside0.mk hz3
                clear r1 r2 hz3 HCs
                go_wp2_with (fail)
                refine HZ3.out.2.2.mono ?_
                rintro e3 w4 ⟨rfl, hd⟩
                obtain ⟨g2, hg1, hm1⟩ := hd
                have HF3 : Aside0 (DatF B g c n w w4 g2) := ⟨by
                  obtain ⟨ts, t1, t2, t3⟩ := hg1
                  exact ⟨ts, HZ3.out.1.trans t1, t2, t3⟩⟩
                have HM2 := Aside0.mk hm1
                clear hg1 hm1
                go_wp2
                go_end0
                exact ⟨rfl, g2, HF3.out, (sym_merge (cf := cf) HS.out HLim.out.1 HLim.out.2.1 HMid.out.1 HL.out HR.out HCut.out HEe.out HM1.out HM2.out).1⟩
              · have dr32 : decide (e < b) = false := by simpa using r2
                obtain ⟨g2, hgE⟩ : ∃ t, t = g1 := ⟨_, rfl⟩
                have HM2 : Aside0 (Merged pr g1 g2 mid b) := ⟨by rw [hgE]; exact HH2.out.same (fun h => r2 h.2) (by have := HBd.out; omega) (by have := HBd.out; omega)⟩
                have HF3 : Aside0 (DatF B g c n w wi g2) := ⟨by rw [hgE]; exact HF2.out⟩
                clear hgE r1 r2
                go_wp2
                go_end0
                exact ⟨rfl, g2, HF3.out, (sym_merge (cf := cf) HS.out HLim.out.1 HLim.out.2.1 HMid.out.1 HL.out HR.out HCut.out HEe.out HM1.out HM2.out).1⟩
            · have dr31 : decide (mid < e) = false := by simpa using r1
              obtain ⟨g2, hgE⟩ : ∃ t, t = g1 := ⟨_, rfl⟩
              have HM2 : Aside0 (Merged pr g1 g2 mid b) := ⟨by rw [hgE]; exact HH2.out.same (fun h => r1 h.1) (by have := HBd.out; omega) (by have := HBd.out; omega)⟩
              have HF3 : Aside0 (DatF B g c n w wi g2) := ⟨by rw [hgE]; exact HF2.out⟩
              clear hgE r1
              go_wp2
              go_end0
              exact ⟨rfl, g2, HF3.out, (sym_merge (cf := cf) HS.out HLim.out.1 HLim.out.2.1 HMid.out.1 HL.out HR.out HCut.out HEe.out HM1.out HM2.out).1⟩
        · have dr21 : decide (a < i) = false := by simpa using r1
          obtain ⟨g1, hgE⟩ : ∃ t, t = (rotF (fun j => xs.getD j 0) i m e) := ⟨_, rfl⟩
          have HM1 : Aside0 (Merged pr (rotF (fun j => xs.getD j 0) i m e) g1 a mid) := ⟨by rw [hgE]; exact HH1.out.same (fun h => r1 h.1) (by have := HBd.out; omega) (by have := HBd.out; omega)⟩
          have HF2 : Aside0 (DatF B g c n w wi g1) := ⟨by rw [hgE]; exact HF1.out⟩
          clear hgE r1
          have HH2 : Aside0 (Halves pr cf g1 mid e b) := ⟨halves2 HL.out HR.out HT.out HBd.out.1 HBd.out.2.1 HBd.out.2.2.1 HBd.out.2.2.2.1 HBd.out.2.2.2.2.1 HBd.out.2.2.2.2.2.1 HBd.out.2.2.2.2.2.2.1 (fun j hj => HM1.out.off j (.inr hj))⟩
          have HA2 : Aside0 (AllF D n g1) := ⟨HA1.out.from_ HM1.out.from_ HM1.out.off (by have := HBd.out; have := HLim.out; omega)⟩
          by_cases r1 : mid < e
          · have dr31 : decide (mid < e) = true := by simpa using r1
            by_cases r2 : e < b
            · have dr32 : decide (e < b) = true := by simpa using r2
              have HCs : Aside0 (∃ zs, DatM B g c w wi zs ∧ (∀ j, zs.getD j 0 = g1 j) ∧ Calls Tryd.prog 75 #[.slice (some ⟨g, 0, none⟩) n c, .int .i64 (mid : Int), .int .i64 (e : Int), .int .i64 (b : Int), .func (.func fid) fa lb] wi fun en w' => en = .returned (.tuple #[]) ∧ MergeEnd pr B g c n mid b g1 wi w') := ⟨by
                obtain ⟨zs, z1, z2, z3⟩ := HF2.out
                have hfe : (fun j => zs.getD j 0) = g1 := funext z3
                have := HBd.out
                have := HLim.out
                have hc := HIh.out mid e b zs wi (by omega) (HCmp.out.later z1) z1.dat z2 (AllF.list HA2.out z2 z3) HB.out r1 r2 (by omega) (by omega) (by rw [hfe]; exact HH2.out.l) (by rw [hfe]; exact HH2.out.r) (by rw [hfe]; exact HH2.out.t)
                rw [hfe] at hc
                exact ⟨zs, z1, z3, hc⟩⟩
              obtain ⟨zs3, hz3⟩ := HCs.out
              have HZ3 := Aside0.mk hz3
              clear r1 r2 hz3 HCs
              go_wp2_with (fail)
              refine HZ3.out.2.2.mono ?_
              rintro e3 w4 ⟨rfl, hd⟩
              obtain ⟨g2, hg1, hm1⟩ := hd
              have HF3 : Aside0 (DatF B g c n w w4 g2) := ⟨by
                obtain ⟨ts, t1, t2, t3⟩ := hg1
                exact ⟨ts, HZ3.out.1.trans t1, t2, t3⟩⟩
              have HM2 := Aside0.mk hm1
              clear hg1 hm1
              go_wp2
              go_end0
              exact ⟨rfl, g2, HF3.out, (sym_merge (cf := cf) HS.out HLim.out.1 HLim.out.2.1 HMid.out.1 HL.out HR.out HCut.out HEe.out HM1.out HM2.out).1⟩
            · have dr32 : decide (e < b) = false := by simpa using r2
              obtain ⟨g2, hgE⟩ : ∃ t, t = g1 := ⟨_, rfl⟩
              have HM2 : Aside0 (Merged pr g1 g2 mid b) := ⟨by rw [hgE]; exact HH2.out.same (fun h => r2 h.2) (by have := HBd.out; omega) (by have := HBd.out; omega)⟩
              have HF3 : Aside0 (DatF B g c n w wi g2) := ⟨by rw [hgE]; exact HF2.out⟩
              clear hgE r1 r2
              go_wp2
              go_end0
              exact ⟨rfl, g2, HF3.out, (sym_merge (cf := cf) HS.out HLim.out.1 HLim.out.2.1 HMid.out.1 HL.out HR.out HCut.out HEe.out HM1.out HM2.out).1⟩
          · have dr31 : decide (mid < e) = false := by simpa using r1
            obtain ⟨g2, hgE⟩ : ∃ t, t = g1 := ⟨_, rfl⟩
            have HM2 : Aside0 (Merged pr g1 g2 mid b) := ⟨by rw [hgE]; exact HH2.out.same (fun h => r1 h.1) (by have := HBd.out; omega) (by have := HBd.out; omega)⟩
            have HF3 : Aside0 (DatF B g c n w wi g2) := ⟨by rw [hgE]; exact HF2.out⟩
            clear hgE r1
            go_wp2
            go_end0
            exact ⟨rfl, g2, HF3.out, (sym_merge (cf := cf) HS.out HLim.out.1 HLim.out.2.1 HMid.out.1 HL.out HR.out HCut.out HEe.out HM1.out HM2.out).1⟩
end Go.Proofs.YtdmeocoehahopaaDoor.Sort
