/- tensor: Add: two vectors together. -/
import Derived.Test.YtfameghednapkaaDoorTenMixB
import Derived.Test.YtfameghednapkaaDoorFixedAMB
import Derived.Test.YtfameghednapkaaDoorBunT3
namespace Go.Proofs.YtfameghednapkaaDoor.Ten
open Go.RowKit Go.Proofs.YtfameghednapkaaDoorW.PrintWords Go.Proofs.YtfameghednapkaaDoorW.PrintLast Go.Proofs.YtfameghednapkaaDoorW.PrintMore Go.Proofs.YtfameghednapkaaDoor.K Go.Proofs.YtfameghednapkaaDoor.RI Go.Proofs.YtfameghednapkaaDoor.Fixed
set_option linter.unusedVariables false
set_option linter.unusedSimpArgs false
def addF (a b : List Int) (k : Nat) : Int × Int := addV (a.getD k 0) (b.getD k 0)
def addE (a b : List Int) : Int := if checksV [a, b] = 0 then errF (addF a b) a.length 0 else checksV [a, b]
def addL (a b : List Int) : List Int := outL (addF a b) a.length
def AddF (ada adb : Addr) (na ca nb cb : Nat) (kk : Nat) (xa xb r1 r2 : Int) (iv : Nat) (xv : Value) (W : World) : Prop := match iv with
  | 0 => xv = .slice (some ada) na ca
  | 1 => xv = .int .i64 (kk : Int)
  | 2 => xv = .pointer (some (ada.add kk))
  | 3 => xv = .int .i64 xa
  | 4 => xv = .slice (some adb) nb cb
  | 5 => xv = .int .i64 (kk : Int)
  | 6 => xv = .pointer (some (adb.add kk))
  | 7 => xv = .int .i64 xb
  | 8 => xv = .tuple #[.int .i64 r1, .int .i64 r2]
  | 9 => xv = .int .i64 r1
  | 10 => xv = .int .i64 r2
  | 11 => xv = .int .i64 r1
  | 12 => xv = .int .i64 r2
  | _ => True
theorem AddF.step (ada adb : Addr) (na ca nb cb : Nat) (kk : Nat) (xa xb r1 r2 : Int) (i : Nat) (x : Value) (W W' : World) (hb : Below W.heap.size W W') (h : AddF ada adb na ca nb cb kk xa xb r1 r2 i x W) : AddF ada adb na ca nb cb kk xa xb r1 r2 i x W' := by
  unfold AddF at *
  split <;> simp only at h ⊢
  · exact h
  · exact h
  · exact h
  · exact h
  · exact h
  · exact h
  · exact h
  · exact h
  · exact h
  · exact h
  · exact h
  · exact h
  · exact h
set_option maxHeartbeats 4000000 in
set_option maxRecDepth 100000 in
theorem add1_calls (Aa : Option Addr) (ca : Nat) (a : List Int) (Ab : Option Addr) (cb : Nat) (b : List Int) (k Ba Bb : Nat) (w : World) (hA : Kd.C (Kd.int .i64) w Aa a.length a) (hB : Kd.C (Kd.int .i64) w Ab b.length b) (hk : k < a.length) (hl : b.length = a.length)
    (hba : w.heap[Ba]? = some (.cells #[.slice Aa a.length ca] 22 (0, 0))) (hbb : w.heap[Bb]? = some (.cells #[.slice Ab b.length cb] 22 (0, 0))) :
    Calls Tryd.prog 60 #[.int .i64 (k : Int), .pointer (some ⟨Ba, 0, none⟩), .pointer (some ⟨Bb, 0, none⟩)] w fun e w' => e = .returned (.tuple #[.int .i64 (addF a b k).1, .int .i64 (addF a b k).2]) ∧ Below w.heap.size w w' := by
  have HA := Aside0.mk hba
  have HB := Aside0.mk hbb
  have hk2 : k < b.length := by omega
  obtain ⟨ada, rfl, hxa⟩ := int_at hA k hk
  obtain ⟨adb, rfl, hxb⟩ := int_at hB k hk2
  obtain ⟨p, hp⟩ : ∃ p, p = addF a b k := ⟨_, rfl⟩
  have HP := Aside0.mk hp
  obtain ⟨r1, r2⟩ := p
  have HR : Aside0 (addV (a.getD k 0) (b.getD k 0) = (r1, r2)) := ⟨hp.symm⟩
  generalize a.getD k 0 = xa at *
  generalize b.getD k 0 = xb at *
  have HXa := Aside0.mk hxa
  have HXb := Aside0.mk hxb
  have hm1 := hA.2.1
  have hm2 := hB.2.1
  clear hA hB hba hbb hxa hxb hp hl
  go_enter Tryd.func60, Tryd.ntmps60
  go_upto_region 1 with (fail)
  refine wp_region_fin [false, false, false, false, true, true, true, true, true, true, true, true, true, true, true, true, true] (by kernel_rfl) (by kernel_rfl) (fun W => Below w.heap.size w W) (fun W W' => Below W.heap.size W W') (AddF ada adb a.length ca b.length cb k xa xb r1 r2) (fun iv xv W W' _ hb h => AddF.step ada adb a.length ca b.length cb k xa xb r1 r2 iv xv W W' hb h) (below_drew (Below.refl _ _)) ?_ ?_
  · refine ⟨?_, ?_, ?_, ?_, ?_, ?_, ?_, ?_, ?_, ?_, ?_, ?_, ?_, trivial⟩
    · intro v W hb hd
      have hcv := slice_cells ((hb.block _ (blk_lt HA.out)).trans HA.out)
      refine step_list fun K hK => ?_
      simp only [fill_lit, fillL, Act.put, List.setIfInBounds_toArray, List.set_cons_zero, List.set_cons_succ, Nat.reduceAdd] at hK ⊢
      clear hd
      go_wp2
      exact ⟨hb, Below.refl _ _, rfl⟩
    · intro v W hb hd
      refine step_list fun K hK => ?_
      simp only [fill_lit, fillL, Act.put, List.setIfInBounds_toArray, List.set_cons_zero, List.set_cons_succ, Nat.reduceAdd] at hK ⊢
      clear hd
      go_wp2
      exact ⟨hb, Below.refl _ _, rfl⟩
    · intro v W hb hd
      have h0 : v 6 = .slice (some ada) a.length ca := hd 0 (by kernel_rfl)
      have h1 : v 7 = .int .i64 (k : Int) := hd 1 (by kernel_rfl)
      refine step_list fun K hK => ?_
      simp only [fill_lit, fillL, Act.put, List.setIfInBounds_toArray, List.set_cons_zero, List.set_cons_succ, Nat.reduceAdd] at hK ⊢
      rw [h0, h1] at hK ⊢
      clear hd h0 h1
      go_wp2
      exact ⟨hb, Below.refl _ _, rfl⟩
    · intro v W hb hd
      have hcx := cell_keep hb HXa.out
      have h2 : v 8 = .pointer (some (ada.add k)) := hd 2 (by kernel_rfl)
      refine step_list fun K hK => ?_
      simp only [fill_lit, fillL, Act.put, List.setIfInBounds_toArray, List.set_cons_zero, List.set_cons_succ, Nat.reduceAdd] at hK ⊢
      rw [h2] at hK ⊢
      clear hd h2
      go_wp2
      exact ⟨hb, Below.refl _ _, rfl⟩
    · intro v W hb hd
      have hcv := slice_cells ((hb.block _ (blk_lt HB.out)).trans HB.out)
      refine step_list fun K hK => ?_
      simp only [fill_lit, fillL, Act.put, List.setIfInBounds_toArray, List.set_cons_zero, List.set_cons_succ, Nat.reduceAdd] at hK ⊢
      clear hd
      go_wp2
      exact ⟨hb, Below.refl _ _, rfl⟩
    · intro v W hb hd
      refine step_list fun K hK => ?_
      simp only [fill_lit, fillL, Act.put, List.setIfInBounds_toArray, List.set_cons_zero, List.set_cons_succ, Nat.reduceAdd] at hK ⊢
      clear hd
      go_wp2
      exact ⟨hb, Below.refl _ _, rfl⟩
    · intro v W hb hd
      have h4 : v 10 = .slice (some adb) b.length cb := hd 4 (by kernel_rfl)
      have h5 : v 11 = .int .i64 (k : Int) := hd 5 (by kernel_rfl)
      refine step_list fun K hK => ?_
      simp only [fill_lit, fillL, Act.put, List.setIfInBounds_toArray, List.set_cons_zero, List.set_cons_succ, Nat.reduceAdd] at hK ⊢
      rw [h4, h5] at hK ⊢
      clear hd h4 h5
      go_wp2
      exact ⟨hb, Below.refl _ _, rfl⟩
    · intro v W hb hd
      have hcx := cell_keep hb HXb.out
      have h6 : v 12 = .pointer (some (adb.add k)) := hd 6 (by kernel_rfl)
      refine step_list fun K hK => ?_
      simp only [fill_lit, fillL, Act.put, List.setIfInBounds_toArray, List.set_cons_zero, List.set_cons_succ, Nat.reduceAdd] at hK ⊢
      rw [h6] at hK ⊢
      clear hd h6
      go_wp2
      exact ⟨hb, Below.refl _ _, rfl⟩
    · intro v W hb hd
      have h3 : v 9 = .int .i64 xa := hd 3 (by kernel_rfl)
      have h7 : v 13 = .int .i64 xb := hd 7 (by kernel_rfl)
      refine step_list fun K hK => ?_
      simp only [fill_lit, fillL, Act.put, List.setIfInBounds_toArray, List.set_cons_zero, List.set_cons_succ, Nat.reduceAdd] at hK ⊢
      rw [h3, h7] at hK ⊢
      clear hd h3 h7
      go_wp2_with (fail)
      refine (Add_calls xa xb W r1 r2 HR.out).mono ?_
      rintro e W' ⟨rfl, hb'⟩
      have HB' := Aside0.mk hb'
      clear hb'
      go_wp2_with (fail)
      exact ⟨below_step hb HB'.out, HB'.out, rfl⟩
    · intro v W hb hd
      have h8 : v 14 = .tuple #[.int .i64 r1, .int .i64 r2] := hd 8 (by kernel_rfl)
      refine step_list fun K hK => ?_
      simp only [fill_lit, fillL, Act.put, List.setIfInBounds_toArray, List.set_cons_zero, List.set_cons_succ, Nat.reduceAdd] at hK ⊢
      rw [h8] at hK ⊢
      clear hd h8
      go_wp2
      exact ⟨hb, Below.refl _ _, rfl⟩
    · intro v W hb hd
      have h8 : v 14 = .tuple #[.int .i64 r1, .int .i64 r2] := hd 8 (by kernel_rfl)
      refine step_list fun K hK => ?_
      simp only [fill_lit, fillL, Act.put, List.setIfInBounds_toArray, List.set_cons_zero, List.set_cons_succ, Nat.reduceAdd] at hK ⊢
      rw [h8] at hK ⊢
      clear hd h8
      go_wp2
      exact ⟨hb, Below.refl _ _, rfl⟩
    · intro v W hb hd
      have h9 : v 15 = .int .i64 r1 := hd 9 (by kernel_rfl)
      refine step_list fun K hK => ?_
      simp only [fill_lit, fillL, Act.put, List.setIfInBounds_toArray, List.set_cons_zero, List.set_cons_succ, Nat.reduceAdd] at hK ⊢
      rw [h9] at hK ⊢
      clear hd h9
      go_wp2
      exact ⟨hb, Below.refl _ _, rfl⟩
    · intro v W hb hd
      have h10 : v 16 = .int .i64 r2 := hd 10 (by kernel_rfl)
      refine step_list fun K hK => ?_
      simp only [fill_lit, fillL, Act.put, List.setIfInBounds_toArray, List.set_cons_zero, List.set_cons_succ, Nat.reduceAdd] at hK ⊢
      rw [h10] at hK ⊢
      clear hd h10
      go_wp2
      exact ⟨hb, Below.refl _ _, rfl⟩
  · intro v W hb hF
    have h7 : v 4 = .int .i64 r1 := hF 11 (of_decide_eq_true (by kernel_rfl))
    have h8 : v 5 = .int .i64 r2 := hF 12 (of_decide_eq_true (by kernel_rfl))
    simp only [fill_lit, fillL, Nat.reduceAdd]
    rw [h7, h8]
    clear hF h7 h8
    go_wp2
    go_ret2
    exact ⟨by rw [← HP.out]; rfl, hb⟩
theorem two_rows {A A' : Option Addr} {c c' : Nat} {a b : List Int} {w : World} (hA : Kd.C (Kd.int .i64) w A a.length a) (hc : a.length ≤ c) (hB : Kd.C (Kd.int .i64) w A' b.length b) (hc' : b.length ≤ c') :
    Kd.C (Kd.slice 3 (Kd.int .i64)) (w.alloc (.cells #[.slice A a.length c, .slice A' b.length c'] 22)) (some ⟨w.heap.size, 0, none⟩) 2 [a, b] := by
  refine rows_lit w 22 [.slice A a.length c, .slice A' b.length c'] [a, b] (by simp) ?_
  intro j x hj
  match j with
  | 0 => cases hj; exact ⟨A, c, rfl, hc, hA⟩
  | 1 => cases hj; exact ⟨A', c', rfl, hc', hB⟩
  | j + 2 => simp at hj
set_option maxHeartbeats 8000000 in
set_option maxRecDepth 100000 in
theorem tadd_calls (Aa : Option Addr) (ca : Nat) (a : List Int) (Ab : Option Addr) (cb : Nat) (b : List Int) (w : World) (hA : Kd.C (Kd.int .i64) w Aa a.length a) (hca : a.length ≤ ca) (hB : Kd.C (Kd.int .i64) w Ab b.length b) (hcb : b.length ≤ cb) :
    Calls Tryd.prog 33 #[.slice Aa a.length ca, .slice Ab b.length cb] w (ListEnd (addE a b) (addL a b) w) := by
  have HA := Aside0.mk hA
  have HBb := Aside0.mk hB
  have HCc := Aside0.mk (And.intro hca hcb)
  have HB0 : Aside0 (Below w.heap.size w ((w.alloc (.cells #[.slice Aa a.length ca] 22)).alloc (.cells #[.slice Ab b.length cb] 22))) := ⟨bel_alloc (bel_alloc (Below.refl _ _) _) _⟩
  have HX0 : Aside0 (((w.alloc (.cells #[.slice Aa a.length ca] 22)).alloc (.cells #[.slice Ab b.length cb] 22)).heap[w.heap.size]? = some (.cells #[.slice Aa a.length ca] 22 (0, 0))) := ⟨blk_alloc (heap_alloc_new _ _) _⟩
  have HY0 : Aside0 (((w.alloc (.cells #[.slice Aa a.length ca] 22)).alloc (.cells #[.slice Ab b.length cb] 22)).heap[w.heap.size + 1]? = some (.cells #[.slice Ab b.length cb] 22 (0, 0))) := ⟨by
    have h := heap_alloc_new (w.alloc (.cells #[.slice Aa a.length ca] 22)) (.cells #[.slice Ab b.length cb] 22)
    rwa [World.size_alloc] at h⟩
  have hm1 := hA.2.1
  have hm2 := hB.2.1
  clear hA hB hca hcb
  obtain ⟨z, hz⟩ : ∃ z, z = checksV [a, b] := ⟨_, rfl⟩
  have HZ := Aside0.mk hz
  have HM : Aside0 (addE a b = if checksV [a, b] = 0 then errF (addF a b) a.length 0 else checksV [a, b]) := ⟨rfl⟩
  have HML : Aside0 (addL a b = outL (addF a b) a.length) := ⟨rfl⟩
  clear hz
  go_enter Tryd.func33, Tryd.ntmps33
  go_wp2_with (fail)
  have HS0 : Aside0 (((w.alloc (.cells #[.slice Aa a.length ca] 22)).alloc (.cells #[.slice Ab b.length cb] 22)).heap.size = w.heap.size + 1 + 1) := ⟨by rw [World.size_alloc, World.size_alloc]⟩
  generalize ((w.alloc (.cells #[.slice Aa a.length ca] 22)).alloc (.cells #[.slice Ab b.length cb] 22)) = w0 at *
  rw [← HS0.out]
  have HB1 : Aside0 (Below w0.heap.size w0 (w0.alloc (.cells #[.slice Aa a.length ca, .slice Ab b.length cb] 22))) := ⟨bel_alloc (Below.refl _ _) _⟩
  refine (checks_list_calls _ 2 [a, b] (w0.alloc (.cells #[.slice Aa a.length ca, .slice Ab b.length cb] 22)) (two_rows (Kd.C_below HA.out HB0.out) HCc.out.1 (Kd.C_below HBb.out HB0.out) HCc.out.2)).mono ?_
  rw [← HZ.out]
  generalize (w0.alloc (.cells #[.slice Aa a.length ca, .slice Ab b.length cb] 22)) = w1 at *
  rintro e w2 ⟨rfl, hb⟩
  have HD2 := Aside0.mk (below_step HB1.out hb)
  have HB2 := Aside0.mk (below_step HB0.out HD2.out)
  have HX2 : Aside0 (w2.heap[w.heap.size]? = some (.cells #[.slice Aa a.length ca] 22 (0, 0))) := ⟨(HD2.out.block _ (blk_lt HX0.out)).trans HX0.out⟩
  have HY2 : Aside0 (w2.heap[w.heap.size + 1]? = some (.cells #[.slice Ab b.length cb] 22 (0, 0))) := ⟨(HD2.out.block _ (blk_lt HY0.out)).trans HY0.out⟩
  clear hb
  by_cases hz0 : z = 0
  · subst hz0
    have HE : Aside0 (addE a b = errF (addF a b) a.length 0) := ⟨by rw [HM.out, if_pos HZ.out.symm]⟩
    have hll : b.length = a.length := (checks_ok HZ.out.symm 1 (by simp)).1
    have HT : TellsAt 60 #[] #[.pointer (some ⟨w.heap.size, 0, none⟩), .pointer (some ⟨w.heap.size + 1, 0, none⟩)] (addF a b) a.length w2 := fun k hk W hb =>
      add1_calls Aa ca a Ab cb b k w.heap.size (w.heap.size + 1) W (Kd.C_below HA.out (below_step HB2.out hb)) (Kd.C_below HBb.out (below_step HB2.out hb)) hk hll ((hb.block _ (blk_lt HX2.out)).trans HX2.out) ((hb.block _ (blk_lt HY2.out)).trans HY2.out)
    have HEa := Aside0.mk (each_calls 60 #[] #[.pointer (some ⟨w.heap.size, 0, none⟩), .pointer (some ⟨w.heap.size + 1, 0, none⟩)] (addF a b) a.length w2 (by have := (check_ok_in (checks_ok HZ.out.symm 0 (by simp)).2).2.2; simp at this; omega) (enters_ Tryd.func60 (by kernel_rfl) rfl) HT)
    have hcs := slice_cells HX2.out
    clear HT hll
    go_wp2_with (fail)
    refine HEa.out.mono ?_
    rintro e w3 ⟨h1, h2, hb⟩
    have HB3 := Aside0.mk (below_step HB2.out hb)
    clear hcs hb
    by_cases hz : errF (addF a b) a.length 0 = 0
    · obtain ⟨v, rfl, hr⟩ := h2 hz
      obtain ⟨A3, c3, rfl, hC3, hle3⟩ := own_slice_le hr
      have HC3 := Aside0.mk hC3
      have HLe := Aside0.mk hle3
      have HEz : Aside0 (addE a b = 0) := ⟨HE.out.trans hz⟩
      clear h1 h2 hr hz hC3 hle3
      go_wp2_with (fail)
      go_ret2
      exact ⟨fun h => absurd HEz.out h, fun _ => ⟨A3, c3, by rw [HML.out]; rfl, by rw [HML.out]; exact HC3.out, by rw [HML.out]; exact HLe.out⟩, HB3.out⟩
    · have he := h1 hz
      subst he
      have HEz := Aside0.mk hz
      clear h1 h2 hz
      go_wp2_with (fail)
      go_ret2
      exact ⟨fun _ => by rw [HE.out]; rfl, fun h => absurd (HE.out.symm.trans h) HEz.out, HB3.out⟩
  · have dz : (z != 0) = true := by simpa using hz0
    have HE : Aside0 (addE a b = z) := ⟨by rw [HM.out, ← HZ.out, if_neg hz0]⟩
    have HNz := Aside0.mk hz0
    clear hz0
    go_wp2
    go_ret2
    exact ⟨fun _ => by rw [HE.out]; rfl, fun h => absurd (HE.out.symm.trans h) HNz.out, HB2.out⟩
/-- Of vectors whose first is one, the order does not count. -/
theorem addF_comm (a b : List Int) (k : Nat) : addF a b k = addF b a k := by
  unfold addF addV
  by_cases h : inR (a.getD k 0) = true ∧ inR (b.getD k 0) = true
  · rw [if_pos h, if_pos h.symm, Int.add_comm]
  · rw [if_neg h, if_neg (fun h2 => h h2.symm)]
theorem checks2_comm {a b : List Int} (ha : checkV a = 0) : checksV [a, b] = checksV [b, a] := by
  unfold checksV
  by_cases h : a.length = b.length
  · rw [if_pos (by simp [sameL, h]), if_pos (by simp [sameL, h])]
    simp only [firstE]
    rw [if_pos ha]
    by_cases hb : checkV b = 0
    · rw [if_pos hb, if_pos hb, if_pos ha]
    · rw [if_neg hb, if_neg hb]
  · rw [if_neg (by simp [sameL]; omega), if_neg (by simp [sameL]; omega)]
theorem add_comm_E {a b : List Int} (ha : checkV a = 0) : addE a b = addE b a := by
  unfold addE
  rw [checks2_comm ha]
  by_cases h : checksV [b, a] = 0
  · rw [if_pos h, if_pos h]
    have hl : a.length = b.length := (checks_ok h 1 (by simp)).1
    rw [hl]
    exact errF_congr _ (fun j _ => addF_comm a b j)
  · rw [if_neg h, if_neg h]
theorem add_comm_L {a b : List Int} (h : addE a b = 0) : addL a b = addL b a := by
  unfold addE at h
  split at h
  · rename_i hc
    have hl : b.length = a.length := (checks_ok hc 1 (by simp)).1
    unfold addL
    rw [hl]
    exact outL_congr _ (fun j _ => addF_comm a b j)
  · rename_i hc
    exact absurd h hc
end Go.Proofs.YtfameghednapkaaDoor.Ten
