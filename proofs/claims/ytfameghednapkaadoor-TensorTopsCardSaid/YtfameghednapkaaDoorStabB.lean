/- slices.SortStableFunc, of however many. -/
import Derived.Test.YtfameghednapkaaDoorSort7B
import Derived.Test.YtfameghednapkaaDoorStabPB
namespace Go.Proofs.YtfameghednapkaaDoor.Sort
open Go.RowKit Go.Proofs.YtfameghednapkaaDoorW.PrintWords Go.Proofs.YtfameghednapkaaDoorW.PrintLast Go.Proofs.YtfameghednapkaaDoorW.PrintMore Go.Proofs.YtfameghednapkaaDoor.K Go.Proofs.YtfameghednapkaaDoor.RI
set_option linter.unusedVariables false
set_option linter.unusedSimpArgs false
set_option maxHeartbeats 16000000 in
set_option maxRecDepth 100000 in
theorem stable_calls {pr : Int → Int → Prop} (hS : Strict pr) (fid : Nat) (fa lb : Array Value) (cf : Int → Int → Int) (D : Int → Prop) (g n c B : Nat) (xs : List Int) (w : World) (hCmp : Cmp fid fa lb cf D B g w) (hxs : Dat w g c xs) (hn : xs.length = n) (hD : ∀ x ∈ xs, D x) (hB : B ≤ g) (hm9 : n ≤ 1000000) (hO : Ord0 pr cf (fun j => xs.getD j 0) n) :
    Calls Tryd.prog 74 #[.slice (some ⟨g, 0, none⟩) n c, .int .i64 (n : Int), .func (.func fid) fa lb] w fun e w' => e = .returned (.tuple #[]) ∧ ∃ h, DatF B g c n w w' h ∧ Good pr (fun j => xs.getD j 0) h 0 n := by
  have hent := hCmp.enters
  have HCmp := Aside0.mk hCmp
  have HX := Aside0.mk (DatM.refl (B := B) hxs)
  have HD := Aside0.mk hD
  have HB := Aside0.mk hB
  have HN := Aside0.mk hn
  have HO := Aside0.mk hO
  have HS := Aside0.mk hS
  have HM9 := Aside0.mk hm9
  have HA0 : Aside0 (AllF D n (fun j => xs.getD j 0)) := ⟨by have h9 := list_allF hD; rwa [hn] at h9⟩
  have HFr : Aside0 (∀ h a b, FromOn (fun j => xs.getD j 0) h a b → ∀ i, a ≤ i → i < b → b ≤ n → D (h i)) := ⟨fun h a b hf i h1 h2 h3 => by
    obtain ⟨j, j1, j2, j3⟩ := hf i h1 h2
    rw [j3]
    exact HA0.out j (by omega)⟩
  obtain ⟨f0, hf0⟩ : ∃ f0, f0 = (fun j => xs.getD j 0) := ⟨_, rfl⟩
  rw [← hf0] at HO HA0 HFr ⊢
  have HF0 := Aside0.mk hf0
  clear hCmp hxs hn hD hB hO hm9 hS hf0
  go_enter Tryd.func74, Tryd.ntmps74
  go_wp2_with (fail)
  go_loopw [7, 8] (fun s t wr => ∃ a b : Nat, s = .int .i64 (a : Int) ∧ t = .int .i64 (b : Int) ∧ Aside0 (b = a + 20 ∧ a ≤ n ∧ ∃ ys, DatM B g c w wr ys ∧ ys.length = n ∧ AllF D n (fun j => ys.getD j 0) ∧ Front (Good pr f0 (fun j => ys.getD j 0)) 20 a ∧ ∀ j, a ≤ j → ys.getD j 0 = f0 j)) (fun s _ _ => n + 1 - (intOf s).toNat)
  case atStart => exact ⟨0, 20, rfl, rfl, ⟨rfl, Nat.zero_le _, xs, HX.out, HN.out, by rw [← HF0.out]; exact HA0.out, .nil, fun j _ => by rw [HF0.out]⟩⟩
  case round =>
    obtain ⟨a, b, rfl, rfl, HR⟩ := hrel
    obtain ⟨hb, han, ys, y1, y2, y3, y4, y5⟩ := HR.out
    have hm9 := HM9.out
    by_cases hbn : b ≤ n
    · have d1 : decide ((b : Int) ≤ (n : Int)) = true := by simp; omega
      have d2 : decide (b ≤ n) = true := by simpa using hbn
      have hwb : IntKind.i64.wrap ((b : Int) + 20) = (b : Int) + 20 := w_i64 _ (by omega) (by omega)
      have HC := Aside0.mk (insertion_calls fid fa lb cf D g n c B a b ys wr (HCmp.out.later y1) y1.dat y2 (y3.list y2 (fun _ => rfl)) HB.out (by omega) hbn hm9)
      have HG := Aside0.mk (good_block (ys := ys) HS.out HO.out y2 hbn (show a ≤ b by omega) y5)
      have HY := Aside0.mk (And.intro y1 (And.intro y2 (And.intro y3 (And.intro y4 y5))))
      have HAb := Aside0.mk (And.intro hb hbn)
      clear hb han y1 y2 y3 y4 y5 hm9 hbn HR
      go_wp2_with (fail)
      refine HC.out.mono ?_
      rintro e w2 ⟨rfl, hm⟩
      have HM := Aside0.mk hm
      clear hm
      go_wp2
      refine ⟨⟨b, b + 20, rfl, by go_num, ⟨rfl, HAb.out.2, insOut (ltOf cf) a (b - (a + 1)) ys, HY.out.1.trans HM.out, by rw [insOut_length]; exact HY.out.2.1, ?_, ?_, ?_⟩⟩, by have := HAb.out; simp [intOf]; omega⟩
      · intro j hj
        by_cases hi : a ≤ j ∧ j < b
        · exact HFr.out _ a b HG.out.1.2 j hi.1 hi.2 HAb.out.2
        · have h9 := HG.out.2 j (by omega)
          exact h9 ▸ HY.out.2.2.1 j hj
      · have h8 : Front (Good pr f0 (fun t => (insOut (ltOf cf) a (b - (a + 1)) ys).getD t 0)) 20 a := HY.out.2.2.2.1.congr fun j hj => HG.out.2 j (.inl hj)
        have h9 := HG.out.1
        rw [HAb.out.1] at h9 h8 ⊢
        exact .snoc h8 h9
      · intro j hj
        have h9 := HG.out.2 j (.inr hj)
        exact h9.trans (HY.out.2.2.2.2 j (by have := HAb.out; omega))
    · have d1 : decide ((b : Int) ≤ (n : Int)) = false := by simp; omega
      have d2 : decide (b ≤ n) = false := by simpa using hbn
      have HC := Aside0.mk (insertion_calls fid fa lb cf D g n c B a n ys wr (HCmp.out.later y1) y1.dat y2 (y3.list y2 (fun _ => rfl)) HB.out han (Nat.le_refl _) hm9)
      have HG := Aside0.mk (good_block (ys := ys) HS.out HO.out y2 (Nat.le_refl _) han y5)
      have HY := Aside0.mk (And.intro y1 (And.intro y2 (And.intro y3 (And.intro y4 y5))))
      have HAb := Aside0.mk (And.intro hb (And.intro hbn han))
      clear hb han y1 y2 y3 y4 y5 hm9 hbn HR
      go_wp2_with (fail)
      refine HC.out.mono ?_
      rintro e w2 ⟨rfl, hm⟩
      have HM2 : Aside0 (∃ h, DatF B g c n w w2 h ∧ AllF D n h ∧ Tail (Good pr f0 h) 20 n 0) := ⟨by
        refine ⟨(fun t => (insOut (ltOf cf) a (n - (a + 1)) ys).getD t 0), ⟨_, HY.out.1.trans hm, by rw [insOut_length]; exact HY.out.2.1, fun _ => rfl⟩, ?_, ?_⟩
        · intro j hj
          by_cases hi : a ≤ j ∧ j < n
          · exact HFr.out _ a n HG.out.1.2 j hi.1 hi.2 (Nat.le_refl _)
          · have h9 := HG.out.2 j (by omega)
            exact h9 ▸ HY.out.2.2.1 j hj
        · have h8 : Front (Good pr f0 (fun t => (insOut (ltOf cf) a (n - (a + 1)) ys).getD t 0)) 20 a := HY.out.2.2.2.1.congr fun j hj => HG.out.2 j (.inl hj)
          exact h8.tail (.last HAb.out.2.2 (by have := HAb.out; omega) HG.out.1) HAb.out.2.2⟩
      clear hm
      go_wp2_with (fail)
      go_loopw [6] (fun s wr => ∃ s' : Nat, s = .int .i64 (s' : Int) ∧ Aside0 (20 ≤ s' ∧ s' ≤ 2000000 ∧ ∃ h, DatF B g c n w wr h ∧ AllF D n h ∧ Tail (Good pr f0 h) s' n 0)) (fun s _ => n - (intOf s).toNat)
      case atStart => exact ⟨20, rfl, ⟨Nat.le_refl _, by decide, HM2.out⟩⟩
      case round =>
        obtain ⟨s, rfl, HT⟩ := hrel
        obtain ⟨wo, rfl⟩ : ∃ wo : World, wo = wr := ⟨_, rfl⟩
        have hs1 := HT.out.1
        have hm9 := HM9.out
        by_cases hlt : s < n
        · have d3 : decide ((s : Int) < (n : Int)) = true := by simp; omega
          have d4 : decide (s < n) = true := by simpa using hlt
          obtain ⟨s2, hs2⟩ : ∃ s2, s2 = 2 * s := ⟨_, rfl⟩
          have hws : IntKind.i64.wrap (2 * (s : Int)) = (s2 : Int) := (w_i64 _ (by omega) (by omega)).trans (by omega)
          have hws' : IntKind.i64.wrap ((s : Int) * 2) = (s2 : Int) := (w_i64 _ (by omega) (by omega)).trans (by omega)
          have HSs := Aside0.mk (And.intro hs2 (And.intro hs1 hlt))
          clear hs2 hs1 hlt hm9
          go_wp2_with (fail)
          go_loopw [7, 8] (fun x y wr => ∃ a b : Nat, x = .int .i64 (a : Int) ∧ y = .int .i64 (b : Int) ∧ Aside0 (b = a + s2 ∧ a ≤ n ∧ ∃ h, DatF B g c n w wr h ∧ AllF D n h ∧ Front (Good pr f0 h) s2 a ∧ Tail (Good pr f0 h) s n a)) (fun x _ _ => n + 1 - (intOf x).toNat)
          case atStart => exact ⟨0, s2, rfl, rfl, ⟨by omega, Nat.zero_le _, by
            obtain ⟨h, h1, h2, h3⟩ := HT.out.2.2
            exact ⟨h, h1, h2, .nil, h3⟩⟩⟩
          case round =>
            obtain ⟨a, b, rfl, rfl, HR⟩ := hrel
            obtain ⟨hb, han, h, k1, k2, k3, k4⟩ := HR.out
            have hm9 := HM9.out
            have hss := HSs.out
            obtain ⟨m, hm⟩ : ∃ m, m = a + s := ⟨_, rfl⟩
            have hwm : IntKind.i64.wrap ((a : Int) + (s : Int)) = (m : Int) := (w_i64 _ (by omega) (by omega)).trans (by omega)
            by_cases hbn : b ≤ n
            · have d5 : decide ((b : Int) ≤ (n : Int)) = true := by simp; omega
              have d6 : decide (b ≤ n) = true := by simpa using hbn
              obtain ⟨b2, hb2⟩ : ∃ b2, b2 = b + s2 := ⟨_, rfl⟩
              have hwb : IntKind.i64.wrap ((b : Int) + (s2 : Int)) = (b2 : Int) := (w_i64 _ (by omega) (by omega)).trans (by omega)
              obtain ⟨t1, t2, t3⟩ := k4.two (by omega) (by omega)
              rw [← hm] at t1 t2
              rw [show a + 2 * s = b by omega] at t2 t3
              have HC : Aside0 (∃ ys, DatM B g c w wr ys ∧ Calls Tryd.prog 76 #[.slice (some ⟨g, 0, none⟩) n c, .int .i64 (a : Int), .int .i64 (m : Int), .int .i64 (b : Int), .func (.func fid) fa lb] wr fun e w' => e = .returned (.tuple #[]) ∧ MergeEnd pr B g c n a b h wr w') := ⟨by
                obtain ⟨ys, y1, y2, y3⟩ := k1
                have hfe : (fun j => ys.getD j 0) = h := funext y3
                have hc := sym_ok HS.out fid fa lb cf D g n c B (b - a + 1) a m b ys wr (by omega) (HCmp.out.later y1) y1.dat y2 (AllF.list k2 y2 y3) HB.out (by omega) (by omega) hbn hm9 (by rw [hfe]; exact t1.1) (by rw [hfe]; exact t2.1) (by rw [hfe]; exact good_tells HO.out t1 t2 hbn)
                rw [hfe] at hc
                exact ⟨ys, y1, hc⟩⟩
              obtain ⟨ys, hys⟩ := HC.out
              have HYs := Aside0.mk hys
              have HK := Aside0.mk (And.intro k2 (And.intro k3 (And.intro t1 (And.intro t2 t3))))
              have HAb := Aside0.mk (And.intro hb (And.intro hbn (And.intro hm (And.intro hb2 (And.intro hss hm9)))))
              clear hb han k1 k2 k3 k4 t1 t2 t3 hbn hm hb2 hss hm9 HR HC hys
              go_wp2_with (fail)
              refine HYs.out.2.mono ?_
              rintro e w3 ⟨rfl, hd⟩
              have HDd := Aside0.mk hd
              clear hd
              go_wp2
              refine ⟨⟨b, b2, rfl, rfl, ⟨HAb.out.2.2.2.1, HAb.out.2.1, ?_⟩⟩, by have := HAb.out; simp [intOf]; omega⟩
              obtain ⟨g2, q1, q2⟩ := HDd.out
              obtain ⟨u2, u3, u4, u5, u6⟩ := HK.out
              have hGd := good_merged (by have := HAb.out; omega) (by have := HAb.out; omega) u4 u5 q2
              refine ⟨g2, ?_, ?_, ?_, ?_⟩
              · obtain ⟨zs, z1, z2, z3⟩ := q1
                exact ⟨zs, HYs.out.1.trans z1, z2, z3⟩
              · exact u2.from_ q2.from_ q2.off HAb.out.2.1
              · have h8 : Front (Good pr f0 g2) s2 a := u3.congr fun j hj => q2.off j (.inl hj)
                have h9 := Front.snoc h8 (by rw [← HAb.out.1]; exact hGd)
                rwa [← HAb.out.1] at h9
              · exact u6.congr fun j hj _ => q2.off j (.inr hj)
            · have d5 : decide ((b : Int) ≤ (n : Int)) = false := by simp; omega
              have d6 : decide (b ≤ n) = false := by simpa using hbn
              rcases k4.end_ (by omega) han with ⟨c1, c2, c3⟩ | ⟨c1, c2⟩
              · rw [← hm] at c1 c2 c3
                have d7 : decide ((m : Int) < (n : Int)) = true := by simp; omega
                have d8 : decide (m < n) = true := by simpa using c1
                have HC : Aside0 (∃ ys, DatM B g c w wr ys ∧ Calls Tryd.prog 76 #[.slice (some ⟨g, 0, none⟩) n c, .int .i64 (a : Int), .int .i64 (m : Int), .int .i64 (n : Int), .func (.func fid) fa lb] wr fun e w' => e = .returned (.tuple #[]) ∧ MergeEnd pr B g c n a n h wr w') := ⟨by
                  obtain ⟨ys, y1, y2, y3⟩ := k1
                  have hfe : (fun j => ys.getD j 0) = h := funext y3
                  have hc := sym_ok HS.out fid fa lb cf D g n c B (n - a + 1) a m n ys wr (by omega) (HCmp.out.later y1) y1.dat y2 (AllF.list k2 y2 y3) HB.out (by omega) (by omega) (Nat.le_refl _) hm9 (by rw [hfe]; exact c2.1) (by rw [hfe]; exact c3.1) (by rw [hfe]; exact good_tells HO.out c2 c3 (Nat.le_refl _))
                  rw [hfe] at hc
                  exact ⟨ys, y1, hc⟩⟩
                obtain ⟨ys, hys⟩ := HC.out
                have HYs := Aside0.mk hys
                have HK := Aside0.mk (And.intro k2 (And.intro k3 (And.intro c2 c3)))
                have HAb := Aside0.mk (And.intro hb (And.intro hbn (And.intro hm (And.intro c1 (And.intro hss (And.intro hm9 han))))))
                clear hb han k1 k2 k3 k4 c1 c2 c3 hbn hm hss hm9 HR HC hys
                go_wp2_with (fail)
                refine HYs.out.2.mono ?_
                rintro e w3 ⟨rfl, hd⟩
                have HDd := Aside0.mk hd
                clear hd
                go_wp2
                refine ⟨⟨s2, rfl, ⟨by have := HAb.out; omega, by have := HAb.out; omega, ?_⟩⟩, by have := HAb.out; simp [intOf]; omega⟩
                obtain ⟨g2, q1, q2⟩ := HDd.out
                obtain ⟨u2, u3, u4, u5⟩ := HK.out
                have hGd := good_merged (by have := HAb.out; omega) (by have := HAb.out; omega) u4 u5 q2
                refine ⟨g2, ?_, ?_, ?_⟩
                · obtain ⟨zs, z1, z2, z3⟩ := q1
                  exact ⟨zs, HYs.out.1.trans z1, z2, z3⟩
                · exact u2.from_ q2.from_ q2.off (Nat.le_refl _)
                · have h8 : Front (Good pr f0 g2) s2 a := u3.congr fun j hj => q2.off j (.inl hj)
                  exact h8.tail (.last (by have := HAb.out; omega) (by have := HAb.out; omega) hGd) (by have := HAb.out; omega)
              · rw [← hm] at c1
                have d7 : decide ((m : Int) < (n : Int)) = false := by simp; omega
                have d8 : decide (m < n) = false := by simp; omega
                have HNew : Aside0 (∃ h, DatF B g c n w wr h ∧ AllF D n h ∧ Tail (Good pr f0 h) s2 n 0) := ⟨h, k1, k2, k3.tail (.last han (by omega) c2) han⟩
                have HAb := Aside0.mk (And.intro hss hm9)
                clear hb han k1 k2 k3 k4 c1 c2 hbn hm hss hm9 HR
                go_wp2
                refine ⟨⟨s2, rfl, ⟨by have := HAb.out; omega, by have := HAb.out; omega, HNew.out⟩⟩, by have := HAb.out; simp [intOf]; omega⟩
        · have d3 : decide ((s : Int) < (n : Int)) = false := by simp; omega
          have d4 : decide (s < n) = false := by simpa using hlt
          have HE : Aside0 (∃ h, DatF B g c n w wo h ∧ Good pr f0 h 0 n) := ⟨by
            obtain ⟨h, h1, h2, h3⟩ := HT.out.2.2
            exact ⟨h, h1, h3.whole (by omega) (by omega)⟩⟩
          clear hlt hs1 hm9
          go_wp2
          go_end0
          exact ⟨rfl, HE.out⟩
set_option maxHeartbeats 4000000 in
theorem sortstable_calls {pr : Int → Int → Prop} (hS : Strict pr) (fid : Nat) (fa lb : Array Value) (cf : Int → Int → Int) (D : Int → Prop) (g n c B : Nat) (xs : List Int) (w : World) (hCmp : Cmp fid fa lb cf D B g w) (hxs : Dat w g c xs) (hn : xs.length = n) (hD : ∀ x ∈ xs, D x) (hB : B ≤ g) (hm9 : n ≤ 1000000) (hO : Ord0 pr cf (fun j => xs.getD j 0) n) :
    Calls Tryd.prog 66 #[.slice (some ⟨g, 0, none⟩) n c, .func (.func fid) fa lb] w fun e w' => e = .returned (.tuple #[]) ∧ ∃ h, DatF B g c n w w' h ∧ Good pr (fun j => xs.getD j 0) h 0 n := by
  have HC := Aside0.mk (stable_calls hS fid fa lb cf D g n c B xs w hCmp hxs hn hD hB hm9 hO)
  clear hCmp hxs hn hD hB hO hm9
  go_enter Tryd.func66, Tryd.ntmps66
  go_wp2_with (fail)
  refine HC.out.mono ?_
  rintro e w' ⟨rfl, hm⟩
  have HM := Aside0.mk hm
  clear hm
  go_wp2_with (fail)
  go_end0
  exact ⟨rfl, HM.out⟩
end Go.Proofs.YtfameghednapkaaDoor.Sort
