/- Texts put together: Rotate, RAngle, RRotate. -/
import Derived.Test.YtfameghednapkaaDoorBunT5
set_option linter.unusedVariables false
set_option linter.unusedSimpArgs false
namespace Go.Proofs.YtfameghednapkaaDoor.Ten
open Go.RowKit Go.Proofs.YtfameghednapkaaDoorW.PrintWords Go.Proofs.YtfameghednapkaaDoorW.PrintLast Go.Proofs.YtfameghednapkaaDoorW.PrintMore Go.Proofs.YtfameghednapkaaDoor.K Go.Proofs.YtfameghednapkaaDoor.RI Go.Proofs.YtfameghednapkaaDoor.Fixed
set_option linter.unusedVariables false
set_option linter.unusedSimpArgs false
def flatP : List (Int × Int) → List Int
  | [] => []
  | p :: r => p.1 :: p.2 :: flatP r
theorem flatP_append : ∀ (l m : List (Int × Int)), flatP (l ++ m) = flatP l ++ flatP m
  | [], m => rfl
  | p :: r, m => by simp [flatP, flatP_append r m]
theorem flatP_length : ∀ l : List (Int × Int), (flatP l).length = 2 * l.length
  | [] => rfl
  | p :: r => by simp [flatP, flatP_length r]; omega
def rotE (vs : List Int) (turn : Int) : Int :=
  if vs.length % 2 ≠ 0 then 13 else if checkV vs ≠ 0 then checkV vs else if turn < 0 ∨ 1023 < turn then 10 else errP (rotF vs turn.toNat) (vs.length / 2) 0
def rotL (vs : List Int) (turn : Int) : List Int := flatP (outP (rotF vs turn.toNat) (vs.length / 2))
theorem addrP_succ (ad : Addr) (j : Nat) : ad.add (j + 1) = ⟨(ad.add j).block, (ad.add j).off + 1, none⟩ := by
  unfold Addr.add
  by_cases h : j = 0
  · subst h; simp
  · simp [h, Nat.add_assoc]
theorem pairP_at {w : World} {A : Option Addr} {n : Nat} {xs : List (Int × Int)} (h : Kd.C kP w A n xs) (i : Nat) (h1 : i < n) :
    ∃ ad, A = some ad ∧ w.cell? (ad.add (i * 2)) = some (.int .i64 (xs.getD i (0, 0)).1) ∧ w.cell? ⟨(ad.add (i * 2)).block, (ad.add (i * 2)).off + 1, none⟩ = some (.int .i64 (xs.getD i (0, 0)).2) := by
  obtain ⟨ad, c, e, _, hK, hc0⟩ := Kd.C_get h ((0, 0) : Int × Int) i (by omega) (by omega)
  have hc : ∀ j u, c[j]? = some u → w.cell? (ad.add (i * 2 + j)) = some u := hc0
  obtain ⟨c0, c1, hcs, h2, h3⟩ := hK
  have e0 : c0 = [.int .i64 (xs.getD i (0, 0)).1] := h2
  have e1 : c1 = [.int .i64 (xs.getD i (0, 0)).2] := h3
  rw [e0, e1] at hcs
  subst hcs
  refine ⟨ad, e, hc 0 _ rfl, ?_⟩
  have h2 : w.cell? (ad.add (i * 2 + 1)) = some (.int .i64 (xs.getD i (0, 0)).2) := hc 1 _ rfl
  rwa [addrP_succ] at h2
theorem flatP_take {ps : List (Int × Int)} {k : Nat} (h : k < ps.length) : flatP (ps.take (k + 1)) = flatP (ps.take k) ++ [(ps.getD k (0, 0)).1, (ps.getD k (0, 0)).2] := by
  rw [List.take_succ_eq_append_getElem h, flatP_append, List.getD_eq_getElem?_getD, List.getElem?_eq_getElem h]
  rfl
set_option maxHeartbeats 16000000 in
set_option maxRecDepth 100000 in
theorem rotate_calls (A : Option Addr) (cv : Nat) (vs : List Int) (turn : Int) (w : World) (hC : Kd.C (Kd.int .i64) w A vs.length vs) (hA : LaidAt w 1 anglesA) :
    Calls Tryd.prog 31 #[.slice A vs.length cv, .int .i64 turn] w (ListEnd (rotE vs turn) (rotL vs turn) w) := by
  have HC := Aside0.mk hC
  have HA := Aside0.mk hA
  have hm1 := hC.2.1
  have HB0 : Aside0 (Below w.heap.size w ((w.alloc (.cells #[.slice A vs.length cv] 22)).alloc (.cells #[.int .i64 turn] 3))) := ⟨bel_alloc (bel_alloc (Below.refl _ _) _) _⟩
  have HX0 : Aside0 (((w.alloc (.cells #[.slice A vs.length cv] 22)).alloc (.cells #[.int .i64 turn] 3)).heap[w.heap.size]? = some (.cells #[.slice A vs.length cv] 22 (0, 0))) := ⟨blk_alloc (heap_alloc_new _ _) _⟩
  have HY0 : Aside0 (((w.alloc (.cells #[.slice A vs.length cv] 22)).alloc (.cells #[.int .i64 turn] 3)).heap[w.heap.size + 1]? = some (.cells #[.int .i64 turn] 3 (0, 0))) := ⟨by
    have h := heap_alloc_new (w.alloc (.cells #[.slice A vs.length cv] 22)) (.cells #[.int .i64 turn] 3)
    rwa [World.size_alloc] at h⟩
  have hcs0 := slice_cells HX0.out
  clear hC hA
  by_cases hodd : vs.length % 2 = 0
  · have hmod : (vs.length : Int).tmod 2 = 0 := by rw [Int.tmod_eq_emod_of_nonneg (by omega)]; omega
    have HE1 : Aside0 (rotE vs turn = if checkV vs ≠ 0 then checkV vs else if turn < 0 ∨ 1023 < turn then 10 else errP (rotF vs turn.toNat) (vs.length / 2) 0) := ⟨by rw [rotE, if_neg (by simp [hodd])]⟩
    have HOd := Aside0.mk hodd
    have HK := Aside0.mk (tcheck_calls A cv vs ((w.alloc (.cells #[.slice A vs.length cv] 22)).alloc (.cells #[.int .i64 turn] 3)) (Kd.C_below HC.out HB0.out))
    obtain ⟨z, hz⟩ : ∃ z, z = checkV vs := ⟨_, rfl⟩
    have HZ := Aside0.mk hz
    rw [← hz] at HK HE1
    clear hz hodd
    go_enter Tryd.func31, Tryd.ntmps31
    go_wp2_with (fail)
    refine HK.out.mono ?_
    generalize ((w.alloc (.cells #[.slice A vs.length cv] 22)).alloc (.cells #[.int .i64 turn] 3)) = w0 at *
    rintro e w2 ⟨rfl, hb⟩
    have HB2 := Aside0.mk (below_step HB0.out hb)
    have HX2 : Aside0 (w2.heap[w.heap.size]? = some (.cells #[.slice A vs.length cv] 22 (0, 0))) := ⟨(hb.block _ (blk_lt HX0.out)).trans HX0.out⟩
    have HY2 : Aside0 (w2.heap[w.heap.size + 1]? = some (.cells #[.int .i64 turn] 3 (0, 0))) := ⟨(hb.block _ (blk_lt HY0.out)).trans HY0.out⟩
    clear hb hcs0
    have hcs2 := slice_cells HX2.out
    have hct2 : w2.cell? ⟨w.heap.size + 1, 0, none⟩ = some (.int .i64 turn) := blk_cell HY2.out 0
    by_cases hz0 : z = 0
    · subst hz0
      by_cases hr : turn < 0 ∨ 1023 < turn
      · have HE : Aside0 (rotE vs turn = 10) := ⟨by rw [HE1.out, if_neg (by simp), if_pos hr]⟩
        by_cases hr1 : turn < 0
        · have d1 : decide (turn < 0) = true := by simpa using hr1
          clear hr hr1
          go_wp2_with (fail)
          go_ret2
          exact ⟨fun _ => by rw [HE.out]; rfl, fun h => absurd (HE.out.symm.trans h) (by decide), HB2.out⟩
        · have d1 : decide (turn < 0) = false := by simpa using hr1
          have d2 : decide (1023 < turn) = true := by simp; omega
          clear hr hr1
          go_wp2_with (fail)
          go_ret2
          exact ⟨fun _ => by rw [HE.out]; rfl, fun h => absurd (HE.out.symm.trans h) (by decide), HB2.out⟩
      · obtain ⟨n, rfl⟩ : ∃ n : Nat, turn = (n : Int) := ⟨turn.toNat, by omega⟩
        have hn : n ≤ 1023 := by omega
        have d1 : decide ((n : Int) < 0) = false := by simp
        have d2 : decide (1023 < (n : Int)) = false := by simp; omega
        have d3 : decide (1023 < n) = false := by simp; omega
        obtain ⟨h, hh⟩ : ∃ h, h = vs.length / 2 := ⟨_, rfl⟩
        have hdv : (vs.length : Int).tdiv 2 = (h : Int) := by rw [Int.tdiv_eq_ediv_of_nonneg (by omega)]; omega
        have hdv2 : ((vs.length / 2 : Nat) : Int) = (h : Int) := by omega
        have HE : Aside0 (rotE vs (n : Int) = errP (rotF vs n) h 0) := ⟨by rw [HE1.out, if_neg (by simp), if_neg hr, hh]; rfl⟩
        have HL : Aside0 (rotL vs (n : Int) = flatP (outP (rotF vs n) h)) := ⟨by rw [rotL, hh]; rfl⟩
        have hin := check_ok_in HZ.out.symm
        have hlen := hin.2.2
        have hOd := HOd.out
        have hle : h ≤ 256 := by omega
        have HT : TellsP 55 #[] #[.pointer (some ⟨w.heap.size + 1, 0, none⟩), .pointer (some ⟨w.heap.size, 0, none⟩)] (rotF vs n) h w2 := fun k hk W hb =>
          rot1_calls A cv vs n k w.heap.size (w.heap.size + 1) W (Kd.C_below HC.out (below_step HB2.out hb)) (by omega) hn (by omega) (fun x hx => List.all_eq_true.1 hin.1 x hx) ((hb.block _ (blk_lt HX2.out)).trans HX2.out) ((hb.block _ (blk_lt HY2.out)).trans HY2.out) (HA.out.below (below_step HB2.out hb))
        have HEa := Aside0.mk (eachP_calls 55 #[] #[.pointer (some ⟨w.heap.size + 1, 0, none⟩), .pointer (some ⟨w.heap.size, 0, none⟩)] (rotF vs n) h w2 (by omega) (enters_ Tryd.func55 (by kernel_rfl) rfl) HT)
        have HLe := Aside0.mk hle
        clear HT hin hr hh hlen hOd
        go_wp2_with (fail)
        refine HEa.out.mono ?_
        clear hcs2 hct2
        rintro e w3 ⟨h1, h2, hb⟩
        have HB3 := Aside0.mk (below_step HB2.out hb)
        clear hb
        have HOl := Aside0.mk (outP_length (rotF vs n) h)
        by_cases hz : errP (rotF vs n) h 0 = 0
        · obtain ⟨v, rfl, hr⟩ := h2 hz
          obtain ⟨A3, c3, rfl, hle3, hC3⟩ := Kd.R_reads hr
          have HC3 := Aside0.mk hC3
          have HEz : Aside0 (rotE vs (n : Int) = 0) := ⟨HE.out.trans hz⟩
          clear h1 h2 hr hz hC3 hle3 HE HE1 HEa
          generalize outP (rotF vs n) h = ps at *
          obtain rfl : ps.length = h := HOl.out
          have hm3 := HC3.out.2.1
          go_wp2_with (fail)
          have HLp : Aside0 (ps.length ≤ 256) := ⟨HLe.out⟩
          go_loopw [9, 40] (fun o i wr => ∃ k : Nat, k ≤ ps.length ∧ i = .int .i64 (k : Int) ∧ Aside0 (wr.ownsRow w3.heap.size 3 1 o (flatP (ps.take k)).length (nums .i64 (flatP (ps.take k))) ∧ Below w3.heap.size w3 wr)) (fun _ i _ => ps.length - (intOf i).toNat)
          case atStart => exact ⟨0, Nat.zero_le _, rfl, ⟨own_nil _ _ _ _, Below.refl _ _⟩⟩
          case round =>
            obtain ⟨k, hk, rfl, HO⟩ := hrel
            by_cases hlt : k < ps.length
            · obtain ⟨ad, hA3, q0, q1⟩ := pairP_at (Kd.C_below HC3.out HO.out.2) k hlt
              subst hA3
              have HX := Aside0.mk (flatP_take hlt)
              have HFl := Aside0.mk (flatP_length (ps.take k))
              obtain ⟨Ao, co, rfl⟩ := own_slice HO.out.1
              have HB1 : Aside0 (Below w3.heap.size w3 (wr.alloc (.cells #[.int .i64 (ps.getD k (0, 0)).1, .int .i64 (ps.getD k (0, 0)).2] 69))) := ⟨bel_alloc HO.out.2 _⟩
              have HO1 : Aside0 ((wr.alloc (.cells #[.int .i64 (ps.getD k (0, 0)).1, .int .i64 (ps.getD k (0, 0)).2] 69)).ownsRow w3.heap.size 3 1 (.slice Ao (flatP (ps.take k)).length co) (flatP (ps.take k)).length (nums .i64 (flatP (ps.take k)))) := ⟨own_int (Kd.R_below (R_int HO.out.1) (bel_alloc (Below.refl _ _) _))⟩
              have HTw := Aside0.mk (two_C (heap_alloc_new wr (.cells #[.int .i64 (ps.getD k (0, 0)).1, .int .i64 (ps.getD k (0, 0)).2] 69)))
              have HG := Aside0.mk (heap_alloc_new wr (.cells #[.int .i64 (ps.getD k (0, 0)).1, .int .i64 (ps.getD k (0, 0)).2] 69))
              have HLn : Aside0 (((flatP (ps.take k)).length + 2) * 8 ≤ 140737488355328) := ⟨by
                have h1 := HFl.out
                have h2 := HLp.out
                rw [List.length_take] at h1
                omega⟩
              have hwk : IntKind.i64.wrap ((k : Int) + 1) = (k : Int) + 1 := by have := HLp.out; rw [IntKind.wrap_i64]; omega
              generalize flatP (ps.take k) = es at *
              generalize (ps.getD k (0, 0)).1 = x at *
              generalize (ps.getD k (0, 0)).2 = y at *
              go_wp2_with (at_builtin; refine print_append_row (w0 := w3) (W := wr.alloc (.cells #[.int .i64 x, .int .i64 y] 69)) w3.heap.size rfl (.tmp 44) (.tmp 45) 22 3 .i64 8 rfl Tryd.underlying22 info_int (by decide) (.slice Ao es.length co) es [x, y] (some ⟨wr.heap.size, 0, none⟩) 2 2 rfl rfl HO1.out (reads_int HTw.out) HB1.out HB1.out.size HLn.out ?_; intro v1 w4 hown hbw hgr hat; have HA4 := Aside0.mk (And.intro hown hbw); clear hown hbw hgr hat)
              go_roundw
              case rel => exact ⟨k + 1, by omega, by go_num, ⟨by rw [HX.out]; exact HA4.out.1, HA4.out.2⟩⟩
              case measure => simp [intOf]; omega
            · obtain rfl : k = ps.length := by omega
              have HOf := HO.out.1
              rw [List.take_length] at HOf
              obtain ⟨Ao, co, rfl, hCo, hleo⟩ := own_slice_le (R_int HOf)
              have HCo := Aside0.mk hCo
              have HLo := Aside0.mk hleo
              clear HOf hCo hleo
              go_wp2_with (fail)
              go_ret2
              exact ⟨fun h => absurd HEz.out h, fun _ => ⟨Ao, co, by rw [HL.out]; rfl, by rw [HL.out]; exact HCo.out, by rw [HL.out]; exact HLo.out⟩, below_step HB3.out HO.out.2⟩
        · have he := h1 hz
          subst he
          have HEz := Aside0.mk hz
          have dz : (errP (rotF vs n) h 0 != 0) = true := by simpa using hz
          clear h1 h2 hz
          generalize errP (rotF vs n) h 0 = q at *
          go_wp2_with (fail)
          go_ret2
          exact ⟨fun _ => by rw [HE.out]; rfl, fun h => absurd (HE.out.symm.trans h) HEz.out, HB3.out⟩
    · have dz : (z != 0) = true := by simpa using hz0
      have HE : Aside0 (rotE vs turn = z) := ⟨by rw [HE1.out, if_pos hz0]⟩
      have HNz := Aside0.mk hz0
      clear hz0
      go_wp2_with (fail)
      go_ret2
      exact ⟨fun _ => by rw [HE.out]; rfl, fun h => absurd (HE.out.symm.trans h) HNz.out, HB2.out⟩
  · have hmod : (vs.length : Int).tmod 2 = 1 := by rw [Int.tmod_eq_emod_of_nonneg (by omega)]; omega
    have HE : Aside0 (rotE vs turn = 13) := ⟨by rw [rotE, if_pos hodd]⟩
    clear hodd
    go_enter Tryd.func31, Tryd.ntmps31
    go_wp2_with (fail)
    go_ret2
    exact ⟨fun _ => by rw [HE.out]; rfl, fun h => absurd (HE.out.symm.trans h) (by decide), HB0.out⟩
end Go.Proofs.YtfameghednapkaaDoor.Ten
namespace Go.Proofs.YtfameghednapkaaDoor.Ten
open Go.RowKit Go.Proofs.YtfameghednapkaaDoorW.PrintWords Go.Proofs.YtfameghednapkaaDoorW.PrintLast Go.Proofs.YtfameghednapkaaDoorW.PrintMore Go.Proofs.YtfameghednapkaaDoor.K Go.Proofs.YtfameghednapkaaDoor.RI Go.Proofs.YtfameghednapkaaDoor.Fixed
set_option linter.unusedVariables false
set_option linter.unusedSimpArgs false
def RAngW (w : World) (x0 y0 : Int) (W : World) : Prop :=
  W.heap[w.heap.size + 1 + 1]? = some (.cells #[.int .i64 x0, .int .i64 y0] 69 (0, 0)) ∧ W.heap[w.heap.size + 1]? = some (.cells anglesA 69 (0, 0)) ∧ W.heap[w.heap.size]? = some (.cells #[.int .i64 0, .int .i64 0] 69 (0, 0)) ∧ Below w.heap.size w W
namespace RAngW
theorem step {w W W' : World} {x0 y0 : Int} (h : RAngW w x0 y0 W) (hb : Below W.heap.size W W') : RAngW w x0 y0 W' :=
  ⟨(hb.block _ (blk_lt h.1)).trans h.1, (hb.block _ (blk_lt h.2.1)).trans h.2.1, (hb.block _ (blk_lt h.2.2.1)).trans h.2.2.1, below_step h.2.2.2 hb⟩
theorem size {w W : World} {x0 y0 : Int} (h : RAngW w x0 y0 W) : w.heap.size + 3 ≤ W.heap.size := blk_lt h.1
theorem x {w W : World} {x0 y0 : Int} (h : RAngW w x0 y0 W) : W.cell? ⟨w.heap.size + 1 + 1, 0, none⟩ = some (.int .i64 x0) ∧ W.cell? ⟨w.heap.size + 1 + 1, 1, none⟩ = some (.int .i64 y0) := ⟨blk_cell h.1 0, blk_cell h.1 1⟩
theorem c {w W : World} {x0 y0 : Int} (h : RAngW w x0 y0 W) (r : Nat) (hr : r < 4) : W.cell? ⟨w.heap.size + 1, r * 2, none⟩ = some (.int .i64 (stepT r).1) ∧ W.cell? ⟨w.heap.size + 1, r * 2 + 1, none⟩ = some (.int .i64 (stepT r).2) := by
  match r, hr with
  | 0, _ => exact ⟨blk_cell h.2.1 0, blk_cell h.2.1 1⟩
  | 1, _ => exact ⟨blk_cell h.2.1 2, blk_cell h.2.1 3⟩
  | 2, _ => exact ⟨blk_cell h.2.1 4, blk_cell h.2.1 5⟩
  | 3, _ => exact ⟨blk_cell h.2.1 6, blk_cell h.2.1 7⟩
theorem drew {w W : World} {x0 y0 : Int} (h : RAngW w x0 y0 W) : RAngW w x0 y0 W.drew := step h (below_drew (Below.refl _ _))
theorem keep {w W : World} {x0 y0 : Int} (h : RAngW w x0 y0 W) {g : Nat} (hg : w.heap.size + 3 ≤ g) (u v : Value) : RAngW w x0 y0 ((W.setCell ⟨g, 0, none⟩ u).setCell ⟨g, 1, none⟩ v) := by
  have hk := ((KeepBut.refl W g none).set_ 0 u).set_ 1 v
  exact ⟨hk.blk h.1 (by omega) (by simp), hk.blk h.2.1 (by omega) (by simp), hk.blk h.2.2.1 (by omega) (by simp), (h.2.2.2.setCell (show w.heap.size ≤ g by omega) _).setCell (show w.heap.size ≤ g by omega) _⟩
theorem put {w W : World} {x0 y0 : Int} (h : RAngW w x0 y0 W) (x1 y1 : Int) : RAngW w x1 y1 ((W.setCell ⟨w.heap.size + 1 + 1, 0, none⟩ (.int .i64 x1)).setCell ⟨w.heap.size + 1 + 1, 1, none⟩ (.int .i64 y1)) := by
  have hk := ((KeepBut.refl W (w.heap.size + 1 + 1) none).set_ 0 (.int .i64 x1)).set_ 1 (.int .i64 y1)
  exact ⟨blk_set (blk_set h.1 0 _) 1 _, hk.blk h.2.1 (by omega) (by simp), hk.blk h.2.2.1 (by omega) (by simp), (h.2.2.2.setCell (show w.heap.size ≤ w.heap.size + 1 + 1 by omega) _).setCell (show w.heap.size ≤ w.heap.size + 1 + 1 by omega) _⟩
theorem start (w : World) : RAngW w 65536 0 (((w.alloc (.cells #[.int .i64 0, .int .i64 0] 69)).alloc (.cells anglesA 69)).alloc (.cells #[.int .i64 65536, .int .i64 0] 69)) := by
  have h1 : ((w.alloc (.cells #[.int .i64 0, .int .i64 0] 69)).alloc (.cells anglesA 69)).heap[w.heap.size + 1]? = some (.cells anglesA 69 (0, 0)) := by
    have h := heap_alloc_new (w.alloc (.cells #[.int .i64 0, .int .i64 0] 69)) (.cells anglesA 69)
    rwa [World.size_alloc] at h
  refine ⟨?_, blk_alloc h1 _, blk_alloc (blk_alloc (heap_alloc_new _ _) _) _, bel_alloc (bel_alloc (bel_alloc (Below.refl _ _) _) _) _⟩
  have h := heap_alloc_new ((w.alloc (.cells #[.int .i64 0, .int .i64 0] 69)).alloc (.cells anglesA 69)) (.cells #[.int .i64 65536, .int .i64 0] 69)
  rwa [World.size_alloc, World.size_alloc] at h
end RAngW
set_option maxHeartbeats 16000000 in
set_option maxRecDepth 100000 in
theorem rangle_calls (pair n : Nat) (w : World) (hp : pair ≤ 100000) (hn : n ≤ 1023) (x y z : Int) (hr : angN (stepT (pair % 4)).1 (stepT (pair % 4)).2 n = (x, y, z)) :
    Calls Tryd.prog 58 #[.int .i64 (pair : Int), .int .i64 (n : Int)] w fun e w' => e = .returned (.tuple #[.agg #[.int .i64 x, .int .i64 y], .int .i64 z]) ∧ Below w.heap.size w w' := by
  have HI : Aside0 ((Tryd.prog.info? 69).map (·.size) = some 2) := ⟨by kernel_rfl⟩
  have HR := Aside0.mk hr
  obtain ⟨r, hrr⟩ : ∃ r, r = pair % 4 := ⟨_, rfl⟩
  have hr4 : r < 4 := by omega
  have hr4I : (r : Int) < 4 := by omega
  have hmod : (pair : Int).tmod 4 = (r : Int) := by rw [Int.tmod_eq_emod_of_nonneg (by omega)]; omega
  have hmodN : ((pair % 4 : Nat) : Int) = (r : Int) := by omega
  rw [← hrr] at HR
  have HSt := Aside0.mk (stepT_in r)
  have HAt : Aside0 (∀ {x0 y0 : Int} (W : World), RAngW w x0 y0 W → W.cell? ⟨w.heap.size + 1, r * 2, none⟩ = some (.int .i64 (stepT r).1) ∧ W.cell? ⟨w.heap.size + 1, r * 2 + 1, none⟩ = some (.int .i64 (stepT r).2)) := ⟨fun W h => h.c r hr4⟩
  obtain ⟨c0, hc0⟩ : ∃ c0, c0 = (stepT r).1 := ⟨_, rfl⟩
  obtain ⟨c1, hc1⟩ : ∃ c1, c1 = (stepT r).2 := ⟨_, rfl⟩
  rw [← hc0, ← hc1] at HR HSt HAt
  have hnI : (n : Int) ≤ 1023 := by omega
  have HW0 := Aside0.mk (RAngW.start w)
  unfold anglesA at HW0
  clear hr hrr hc0 hc1
  go_enter Tryd.func58, Tryd.ntmps58
  go_wp2_with (fail)
  generalize ((w.alloc (.cells #[.int .i64 0, .int .i64 0] 69)).alloc (.cells #[.int .i64 39322, .int .i64 52429, .int .i64 60495, .int .i64 25206, .int .i64 57826, .int .i64 30840, .int .i64 62915, .int .i64 18350] 69)).alloc (.cells #[.int .i64 65536, .int .i64 0] 69) = w1 at *
  go_loopw [8] (fun v8 wr => ∃ k : Nat, k ≤ n ∧ v8 = .int .i64 (k : Int) ∧ Aside0 (∃ x0 y0, angN c0 c1 k = (x0, y0, 0) ∧ RAngW w x0 y0 wr)) (fun v8 _ => n - (intOf v8).toNat)
  case atStart => exact ⟨0, Nat.zero_le _, rfl, ⟨65536, 0, rfl, HW0.out⟩⟩
  case round =>
    obtain ⟨k, hk, rfl, HO⟩ := hrel
    clear HW0
    obtain ⟨x0, y0, hN, hW⟩ := HO.out
    have HN := Aside0.mk hN
    by_cases hlt : k < n
    · have HW := Aside0.mk (RAngW.drew hW)
      have hin := angN_in c0 c1 k
      rw [hN] at hin
      obtain ⟨q0, q1⟩ := RAngW.x HW.out
      obtain ⟨q2, q3⟩ := HAt.out _ HW.out
      obtain ⟨x1, y1, z1, hT⟩ : ∃ x1 y1 z1, turnV x0 y0 c0 c1 = (x1, y1, z1) := ⟨_, _, _, rfl⟩
      have HTu : Aside0 (∀ W, Calls Tryd.prog 59 #[.agg #[.int .i64 x0, .int .i64 y0], .agg #[.int .i64 c0, .int .i64 c1]] W fun e w' => e = .returned (.tuple #[.agg #[.int .i64 x1, .int .i64 y1], .int .i64 z1]) ∧ Below W.heap.size W w') := ⟨fun W => rturn_calls x0 y0 c0 c1 W hin.1 hin.2 HSt.out.1 HSt.out.2 x1 y1 z1 hT⟩
      have HT := Aside0.mk hT
      have hwk : IntKind.i64.wrap ((k : Int) + 1) = (k : Int) + 1 := by rw [IntKind.wrap_i64]; omega
      clear hin hW hN hT HO
      go_upto_region 6 with (fail)
      refine start_ (n := 13) (S := fun w' => w'.cell? ⟨w.heap.size + 1 + 1, 0, none⟩ = some (.int .i64 x0) ∧ w'.cell? ⟨w.heap.size + 1 + 1, 1, none⟩ = some (.int .i64 y0) ∧ w'.cell? ⟨w.heap.size + 1, r * 2, none⟩ = some (.int .i64 c0) ∧ w'.cell? ⟨w.heap.size + 1, r * 2 + 1, none⟩ = some (.int .i64 c1)) (ds := [11]) #[false, false, false, false, false, false, false, false, false, false, false, false, false] (by kernel_rfl) rfl rfl ⟨(RAngW.x HW.out).1, (RAngW.x HW.out).2, (HAt.out _ HW.out).1, (HAt.out _ HW.out).2⟩ (fun hHeld => ?_)
      refine pure_ (i := 1) (N := some 24) (v := ?_) (a' := ?_) #[false, true, false, false, false, false, false, false, false, false, false, false, false] rfl rfl (by kernel_rfl) (fun _ _ _ h => h) (Or.inl ⟨by rfl, ?_⟩) ?_ ?_
      rotate_left
      · intro w'
        go_simp
        with_reducible rfl
      rotate_left
      · simp only [Act.put, List.setIfInBounds_toArray, List.set_cons_zero, List.set_cons_succ]
        rfl
      refine pure_ (i := 2) (N := some 25) (v := ?_) (a' := ?_) #[false, true, true, false, false, false, false, false, false, false, false, false, false] rfl rfl (by kernel_rfl) (fun _ _ _ h => h) (Or.inl ⟨by rfl, ?_⟩) ?_ ?_
      rotate_left
      · intro w'
        go_simp
        with_reducible rfl
      rotate_left
      · simp only [Act.put, List.setIfInBounds_toArray, List.set_cons_zero, List.set_cons_succ]
        rfl
      refine pure_ (i := 3) (N := some 26) (v := ?_) (a' := ?_) #[false, true, true, true, false, false, false, false, false, false, false, false, false] rfl rfl (by kernel_rfl) (fun _ _ _ h => h) (Or.inl ⟨by rfl, ?_⟩) ?_ ?_
      rotate_left
      · intro w'
        go_simp
        with_reducible rfl
      rotate_left
      · simp only [Act.put, List.setIfInBounds_toArray, List.set_cons_zero, List.set_cons_succ]
        rfl
      refine pure_ (i := 4) (N := some 27) (v := ?_) (a' := ?_) #[false, true, true, true, true, false, false, false, false, false, false, false, false] rfl rfl (by kernel_rfl) (fun _ _ _ h => h) (Or.inl ⟨by rfl, ?_⟩) ?_ ?_
      rotate_left
      · intro w'
        go_simp
        with_reducible rfl
      rotate_left
      · simp only [Act.put, List.setIfInBounds_toArray, List.set_cons_zero, List.set_cons_succ]
        rfl
      refine take_ (i := 0) (N := some 23) (v := ?_) (a' := ?_) #[true, true, true, true, true, false, false, false, false, false, false, false, false] rfl rfl (by kernel_rfl) (fun _ _ _ h => h) (Or.inl ⟨by rfl, ?_⟩) hHeld ?_ ?_
      rotate_left
      · rintro w' ⟨s0, s1, s2, s3⟩
        go_simp
        with_reducible rfl
      rotate_left
      · simp only [Act.put, List.setIfInBounds_toArray, List.set_cons_zero, List.set_cons_succ]
        rfl
      refine take_ (i := 5) (N := some 28) (v := ?_) (a' := ?_) #[true, true, true, true, true, true, false, false, false, false, false, false, false] rfl rfl (by kernel_rfl) (fun _ _ _ h => h) (Or.inl ⟨by rfl, ?_⟩) hHeld ?_ ?_
      rotate_left
      · rintro w' ⟨s0, s1, s2, s3⟩
        go_simp
        with_reducible rfl
      rotate_left
      · simp only [Act.put, List.setIfInBounds_toArray, List.set_cons_zero, List.set_cons_succ]
        rfl
      refine join_ (σ := Nat) 2 #[true, true, true, true, true, true, true, true, true, true, true, false, false] (fun s_ => [(29, .tuple #[.agg #[.int .i64 x1, .int .i64 y1], .int .i64 z1]), (9, .pointer (some ⟨s_, 0, none⟩)), (22, .tuple #[.agg #[.int .i64 x1, .int .i64 y1], .int .i64 z1]), (30, .agg #[.int .i64 x1, .int .i64 y1]), (31, .int .i64 z1)]) (fun s_ w' => RAngW w x0 y0 w' ∧ w'.heap[s_]? = some (.cells #[.int .i64 0, .int .i64 0] 69 (0, 0)) ∧ w.heap.size + 3 ≤ s_) ?_ ?_
      rotate_left
      · intro hCont
        refine two_ (i := 6) (j := 10) (Ni := some 29) (Nj := some 9) #[true, true, true, true, true, true, true, false, false, false, false, false, false] #[true, true, true, true, true, true, false, false, false, false, true, false, false] rfl rfl rfl rfl (by kernel_rfl) (by decide) (by decide) (fun K hK => ?_) (fun K hK => ?_)
        · skip
          refine goes_ Tryd.func59 (by kernel_rfl) rfl #[.agg #[.int .i64 x0, .int .i64 y0], .agg #[.int .i64 c0, .int .i64 c1]] (by rfl) rfl rfl (by simp only [List.map_toArray, List.map_cons, List.map_nil]; rfl) ?_
          with_reducible refine (HTu.out _).mono ?_
          rintro e w3 ⟨rfl, hb3⟩
          refine ⟨_, rfl, ?_⟩
          have HW3 := Aside0.mk (RAngW.step HW.out hb3)
          refine hK.out _ _ ⟨(RAngW.x HW3.out).1, (RAngW.x HW3.out).2, (HAt.out _ HW3.out).1, (HAt.out _ HW3.out).2⟩ (fun hHeld => ?_)
          clear hK K
          refine norm_ (a' := ?_) ?_ ?_
          rotate_left
          · show Act.put _ (some 29) _ = _
            simp only [Act.put, List.setIfInBounds_toArray, List.set_cons_zero, List.set_cons_succ]
            rfl
          refine pure_ (i := 7) (N := some 22) (v := ?_) (a' := ?_) #[true, true, true, true, true, true, true, true, false, false, false, false, false] rfl rfl (by kernel_rfl) (fun _ _ _ h => h) (Or.inl ⟨by rfl, ?_⟩) ?_ ?_
          rotate_left
          · intro w'
            go_simp
            with_reducible rfl
          rotate_left
          · simp only [Act.put, List.setIfInBounds_toArray, List.set_cons_zero, List.set_cons_succ]
            rfl
          refine pure_ (i := 8) (N := some 30) (v := ?_) (a' := ?_) #[true, true, true, true, true, true, true, true, true, false, false, false, false] rfl rfl (by kernel_rfl) (fun _ _ _ h => h) (Or.inl ⟨by rfl, ?_⟩) ?_ ?_
          rotate_left
          · intro w'
            go_simp
            with_reducible rfl
          rotate_left
          · simp only [Act.put, List.setIfInBounds_toArray, List.set_cons_zero, List.set_cons_succ]
            rfl
          refine pure_ (i := 9) (N := some 31) (v := ?_) (a' := ?_) #[true, true, true, true, true, true, true, true, true, true, false, false, false] rfl rfl (by kernel_rfl) (fun _ _ _ h => h) (Or.inl ⟨by rfl, ?_⟩) ?_ ?_
          rotate_left
          · intro w'
            go_simp
            with_reducible rfl
          rotate_left
          · simp only [Act.put, List.setIfInBounds_toArray, List.set_cons_zero, List.set_cons_succ]
            rfl
          refine one_ (i := 10) (N := some 9) #[true, true, true, true, true, true, true, true, true, true, true, false, false] rfl rfl (by kernel_rfl) (by decide) (fun K hK => ?_)
          refine value_ (w1 := ?_) (v := ?_) (by rfl) rfl ?_ ?_
          rotate_left 2
          · go_simp
            constructor
            · rfl
            · rfl
          have HWa := Aside0.mk (RAngW.step HW3.out (bel_alloc (Below.refl _ _) (.cells #[.int .i64 0, .int .i64 0] 69)))
          have HGa := Aside0.mk (heap_alloc_new w3 (.cells #[.int .i64 0, .int .i64 0] 69))
          have HSa := Aside0.mk (RAngW.size HW3.out)
          refine hK.out _ _ ⟨(RAngW.x HWa.out).1, (RAngW.x HWa.out).2, (HAt.out _ HWa.out).1, (HAt.out _ HWa.out).2⟩ (fun hHeld => ?_)
          clear hK K
          refine norm_ (a' := ?_) ?_ ?_
          rotate_left
          · show Act.put _ (some 9) _ = _
            simp only [Act.put, List.setIfInBounds_toArray, List.set_cons_zero, List.set_cons_succ]
            rfl
          exact norm_ (by simp only [putAll, Act.put, List.setIfInBounds_toArray, List.set_cons_zero, List.set_cons_succ]) (hCont w3.heap.size _ ⟨HWa.out, HGa.out, HSa.out⟩)
        · skip
          refine value_ (w1 := ?_) (v := ?_) (by rfl) rfl ?_ ?_
          rotate_left 2
          · go_simp
            constructor
            · rfl
            · rfl
          have HWa := Aside0.mk (RAngW.step HW.out (bel_alloc (Below.refl _ _) (.cells #[.int .i64 0, .int .i64 0] 69)))
          have HGa := Aside0.mk (heap_alloc_new wr.drew (.cells #[.int .i64 0, .int .i64 0] 69))
          have HSa := Aside0.mk (RAngW.size HW.out)
          refine hK.out _ _ ⟨(RAngW.x HWa.out).1, (RAngW.x HWa.out).2, (HAt.out _ HWa.out).1, (HAt.out _ HWa.out).2⟩ (fun hHeld => ?_)
          clear hK K
          refine norm_ (a' := ?_) ?_ ?_
          rotate_left
          · show Act.put _ (some 9) _ = _
            simp only [Act.put, List.setIfInBounds_toArray, List.set_cons_zero, List.set_cons_succ]
            rfl
          refine one_ (i := 6) (N := some 29) #[true, true, true, true, true, true, true, false, false, false, true, false, false] rfl rfl (by kernel_rfl) (by decide) (fun K hK => ?_)
          refine goes_ Tryd.func59 (by kernel_rfl) rfl #[.agg #[.int .i64 x0, .int .i64 y0], .agg #[.int .i64 c0, .int .i64 c1]] (by rfl) rfl rfl (by simp only [List.map_toArray, List.map_cons, List.map_nil]; rfl) ?_
          with_reducible refine (HTu.out _).mono ?_
          rintro e w3 ⟨rfl, hb3⟩
          refine ⟨_, rfl, ?_⟩
          have HW3 := Aside0.mk (RAngW.step HWa.out hb3)
          have HG3 := Aside0.mk ((hb3.block _ (blk_lt HGa.out)).trans HGa.out)
          refine hK.out _ _ ⟨(RAngW.x HW3.out).1, (RAngW.x HW3.out).2, (HAt.out _ HW3.out).1, (HAt.out _ HW3.out).2⟩ (fun hHeld => ?_)
          clear hK K
          refine norm_ (a' := ?_) ?_ ?_
          rotate_left
          · show Act.put _ (some 29) _ = _
            simp only [Act.put, List.setIfInBounds_toArray, List.set_cons_zero, List.set_cons_succ]
            rfl
          refine pure_ (i := 7) (N := some 22) (v := ?_) (a' := ?_) #[true, true, true, true, true, true, true, true, false, false, true, false, false] rfl rfl (by kernel_rfl) (fun _ _ _ h => h) (Or.inl ⟨by rfl, ?_⟩) ?_ ?_
          rotate_left
          · intro w'
            go_simp
            with_reducible rfl
          rotate_left
          · simp only [Act.put, List.setIfInBounds_toArray, List.set_cons_zero, List.set_cons_succ]
            rfl
          refine pure_ (i := 8) (N := some 30) (v := ?_) (a' := ?_) #[true, true, true, true, true, true, true, true, true, false, true, false, false] rfl rfl (by kernel_rfl) (fun _ _ _ h => h) (Or.inl ⟨by rfl, ?_⟩) ?_ ?_
          rotate_left
          · intro w'
            go_simp
            with_reducible rfl
          rotate_left
          · simp only [Act.put, List.setIfInBounds_toArray, List.set_cons_zero, List.set_cons_succ]
            rfl
          refine pure_ (i := 9) (N := some 31) (v := ?_) (a' := ?_) #[true, true, true, true, true, true, true, true, true, true, true, false, false] rfl rfl (by kernel_rfl) (fun _ _ _ h => h) (Or.inl ⟨by rfl, ?_⟩) ?_ ?_
          rotate_left
          · intro w'
            go_simp
            with_reducible rfl
          rotate_left
          · simp only [Act.put, List.setIfInBounds_toArray, List.set_cons_zero, List.set_cons_succ]
            rfl
          exact norm_ (by simp only [putAll, Act.put, List.setIfInBounds_toArray, List.set_cons_zero, List.set_cons_succ]) (hCont wr.heap.size _ ⟨HW3.out, HG3.out, HSa.out⟩)
      rintro g w4 ⟨hW4, hG4, hg4⟩
      have HW4 := Aside0.mk hW4
      have HG4 := Aside0.mk hG4
      have HSg := Aside0.mk hg4
      clear hW4 hG4 hg4
      have hHeld : w4.cell? ⟨w.heap.size + 1 + 1, 0, none⟩ = some (.int .i64 x0) ∧ w4.cell? ⟨w.heap.size + 1 + 1, 1, none⟩ = some (.int .i64 y0) ∧ w4.cell? ⟨w.heap.size + 1, r * 2, none⟩ = some (.int .i64 c0) ∧ w4.cell? ⟨w.heap.size + 1, r * 2 + 1, none⟩ = some (.int .i64 c1) := ⟨(RAngW.x HW4.out).1, (RAngW.x HW4.out).2, (HAt.out _ HW4.out).1, (HAt.out _ HW4.out).2⟩
      have j0 : w4.cell? ⟨g, 0, none⟩ = some (.int .i64 0) := blk_cell HG4.out 0
      have j1 : w4.cell? ⟨g, 1, none⟩ = some (.int .i64 0) := blk_cell HG4.out 1
      have f0 : w4.frozen? ⟨g, 0, none⟩ = false := blk_frozen HG4.out 0
      have f1 : w4.frozen? ⟨g, 1, none⟩ = false := blk_frozen HG4.out 1
      refine norm_ (a' := ?_) ?_ ?_
      rotate_left
      · simp only [putAll, Act.put, List.setIfInBounds_toArray, List.set_cons_zero, List.set_cons_succ]
        rfl
      refine last_ (i := 11) (N := none) #[true, true, true, true, true, true, true, true, true, true, true, true, false] rfl rfl (by kernel_rfl) (by decide) (fun K hK => ?_)
      refine skip_ (w1 := ?_) (by rfl) rfl ?_ ?_
      rotate_left
      · go_simp
        rfl
      refine hK.out _ _ ?_
      clear hK K
      refine pure_ (i := 12) (N := some 10) (v := ?_) (a' := ?_) #[true, true, true, true, true, true, true, true, true, true, true, true, true] rfl rfl (by kernel_rfl) (fun _ _ _ h => h) (Or.inl ⟨by rfl, ?_⟩) ?_ ?_
      rotate_left
      · intro w'
        go_simp
        with_reducible rfl
      rotate_left
      · simp only [Act.put, List.setIfInBounds_toArray, List.set_cons_zero, List.set_cons_succ]
        rfl
      refine done_ (by kernel_rfl) ?_
      clear hHeld q0 q1 q2 q3 j0 j1 f0 f1
      have HG5 : Aside0 (((w4.setCell ⟨g, 0, none⟩ (.int .i64 x1)).setCell ⟨g, 1, none⟩ (.int .i64 y1)).heap[g]? = some (.cells #[.int .i64 x1, .int .i64 y1] 69 (0, 0))) := ⟨blk_set (blk_set HG4.out 0 _) 1 _⟩
      have HW5 := Aside0.mk (RAngW.keep HW4.out HSg.out (.int .i64 x1) (.int .i64 y1))
      generalize (w4.setCell ⟨g, 0, none⟩ (.int .i64 x1)).setCell ⟨g, 1, none⟩ (.int .i64 y1) = w5 at *
      by_cases hz : z1 = 0
      · subst hz
        have HN2 : Aside0 (angN c0 c1 (k + 1) = (x1, y1, 0)) := ⟨by rw [angN_succ HN.out, HT.out]⟩
        have j0 : w5.cell? ⟨g, 0, none⟩ = some (.int .i64 x1) := blk_cell HG5.out 0
        have j1 : w5.cell? ⟨g, 1, none⟩ = some (.int .i64 y1) := blk_cell HG5.out 1
        obtain ⟨q0, q1⟩ := RAngW.x HW5.out
        have f0 : w5.frozen? ⟨w.heap.size + 1 + 1, 0, none⟩ = false := blk_frozen HW5.out.1 0
        have f1 : w5.frozen? ⟨w.heap.size + 1 + 1, 1, none⟩ = false := blk_frozen HW5.out.1 1
        go_wp2_with (fail)
        go_roundw
        case rel => exact ⟨k + 1, by omega, by go_num, ⟨x1, y1, HN2.out, RAngW.put HW5.out x1 y1⟩⟩
        case measure => simp [intOf]; omega
      · have dz : (z1 != 0) = true := by simpa using hz
        have hE : (x, y, z) = ((0 : Int), (0 : Int), z1) := by
          have h1 := angN_stop HN.out (by rw [HT.out]; exact hz) hlt
          rw [HT.out] at h1
          exact HR.out.symm.trans h1
        cases hE
        have HZ := Aside0.mk HW5.out.2.2.1
        have HB := Aside0.mk HW5.out.2.2.2
        have z0 : w5.cell? ⟨w.heap.size, 0, none⟩ = some (.int .i64 0) := blk_cell HZ.out 0
        have z2 : w5.cell? ⟨w.heap.size, 1, none⟩ = some (.int .i64 0) := blk_cell HZ.out 1
        have g0 : w5.frozen? ⟨w.heap.size, 0, none⟩ = false := blk_frozen HZ.out 0
        have g1 : w5.frozen? ⟨w.heap.size, 1, none⟩ = false := blk_frozen HZ.out 1
        clear hz
        go_wp2_with (fail)
        exact bodyPost_ret (results_ct Tryd.results58 _ _ w.heap.size 69 #[.int .i64 0, .int .i64 0] (0, 0) _ rfl (blk_set (blk_set HZ.out 0 (.int .i64 0)) 1 (.int .i64 0)) Tryd.underlying69 rfl HI.out) rfl ⟨rfl, (HB.out.setCell (Nat.le_refl _) _).setCell (Nat.le_refl _) _⟩
    · obtain rfl : k = n := by omega
      have hE : (x, y, z) = (x0, y0, (0 : Int)) := HR.out.symm.trans hN
      cases hE
      have HZ := Aside0.mk hW.2.2.1
      have HB := Aside0.mk hW.2.2.2
      obtain ⟨y2, y3⟩ := RAngW.x hW
      have z0 : wr.cell? ⟨w.heap.size, 0, none⟩ = some (.int .i64 0) := blk_cell HZ.out 0
      have z2 : wr.cell? ⟨w.heap.size, 1, none⟩ = some (.int .i64 0) := blk_cell HZ.out 1
      have g0 : wr.frozen? ⟨w.heap.size, 0, none⟩ = false := blk_frozen HZ.out 0
      have g1 : wr.frozen? ⟨w.heap.size, 1, none⟩ = false := blk_frozen HZ.out 1
      clear hW hN HO
      go_wp2_with (fail)
      exact bodyPost_ret (results_ct Tryd.results58 _ _ w.heap.size 69 #[.int .i64 x, .int .i64 y] (0, 0) _ rfl (blk_set (blk_set HZ.out 0 (.int .i64 x)) 1 (.int .i64 y)) Tryd.underlying69 rfl HI.out) rfl ⟨rfl, (HB.out.setCell (Nat.le_refl _) _).setCell (Nat.le_refl _) _⟩
end Go.Proofs.YtfameghednapkaaDoor.Ten
namespace Go.Proofs.YtfameghednapkaaDoor.Ten
open Go.RowKit Go.Proofs.YtfameghednapkaaDoorW.PrintWords Go.Proofs.YtfameghednapkaaDoorW.PrintLast Go.Proofs.YtfameghednapkaaDoorW.PrintMore Go.Proofs.YtfameghednapkaaDoor.K Go.Proofs.YtfameghednapkaaDoor.RI Go.Proofs.YtfameghednapkaaDoor.Fixed
set_option linter.unusedVariables false
set_option linter.unusedSimpArgs false
set_option maxHeartbeats 16000000 in
set_option maxRecDepth 100000 in
theorem rrotate_calls (A : Option Addr) (cv : Nat) (vs : List Int) (n h : Nat) (w : World) (hC : Kd.C (Kd.int .i64) w A vs.length vs) (hl : vs.length = 2 * h) (hh : h ≤ 256) (hn : n ≤ 1023) (hin : ∀ x ∈ vs, inR x = true) :
    Calls Tryd.prog 32 #[.slice A vs.length cv, .int .i64 (n : Int)] w (ListEnd (errP (rotF vs n) h 0) (flatP (outP (rotF vs n) h)) w) := by
  have HC := Aside0.mk hC
  have HIn := Aside0.mk hin
  have HN := Aside0.mk hn
  have HHh := Aside0.mk hh
  have HLh := Aside0.mk hl
  have hm1 := hC.2.1
  have HI : Aside0 ((Tryd.prog.info? 69).map (·.size) = some 2) := ⟨by kernel_rfl⟩
  have HSm : Aside0 (∀ k, k < h → errP (rotF vs n) (h - k) k = if (rotF vs n k).2.2 = 0 then errP (rotF vs n) (h - (k + 1)) (k + 1) else (rotF vs n k).2.2) := ⟨fun k hk => by
    rw [show h - k = (h - (k + 1)) + 1 by omega]
    rfl⟩
  clear hC hin hl
  go_enter Tryd.func32, Tryd.ntmps32
  go_wp2_with (fail)
  go_loopw [6, 7] (fun o i wr => ∃ k m : Nat, k ≤ h ∧ m = 2 * k ∧ i = .int .i64 (m : Int) ∧ Aside0 (errP (rotF vs n) h 0 = errP (rotF vs n) (h - k) k ∧ wr.ownsRow w.heap.size 3 1 o (flatP (outP (rotF vs n) k)).length (nums .i64 (flatP (outP (rotF vs n) k))) ∧ Below w.heap.size w wr)) (fun _ i _ => vs.length + 1 - (intOf i).toNat)
  case atStart => exact ⟨0, 0, Nat.zero_le _, rfl, rfl, ⟨rfl, own_nil _ _ _ _, Below.refl _ _⟩⟩
  case round =>
    obtain ⟨k, m, hk, hmk, rfl, HO⟩ := hrel
    obtain ⟨m1, hm1e⟩ : ∃ m1, m1 = m + 1 := ⟨_, rfl⟩
    have hwm1 : IntKind.i64.wrap ((m : Int) + 1) = (m1 : Int) := by have := HLh.out; rw [IntKind.wrap_i64]; omega
    by_cases hlt : k < h
    · have hk2 : m1 < vs.length := by have := HLh.out; omega
      have hml : m < vs.length := by omega
      have d1 : decide (m1 < vs.length) = true := by simpa using hk2
      have hdv : (m : Int).tdiv 2 = (k : Int) := by rw [Int.tdiv_eq_ediv_of_nonneg (by omega)]; omega
      have hdv2 : ((m / 2 : Nat) : Int) = (k : Int) := by omega
      obtain ⟨ad, rfl, hxa⟩ := int_at HC.out m hml
      obtain ⟨ad2, had, hxb⟩ := int_at HC.out m1 hk2
      cases had
      have hia : inR (vs.getD m 0) = true := by
        rw [List.getD_eq_getElem?_getD, List.getElem?_eq_getElem hml]
        exact HIn.out _ (List.getElem_mem _)
      have hib : inR (vs.getD m1 0) = true := by
        rw [List.getD_eq_getElem?_getD, List.getElem?_eq_getElem hk2]
        exact HIn.out _ (List.getElem_mem _)
      have hF : rotF vs n k = if (rotA n k).2.2 = 0 then turnV (vs.getD m 0) (vs.getD m1 0) (rotA n k).1 (rotA n k).2.1 else (0, 0, (rotA n k).2.2) := by rw [hm1e, hmk]; rfl
      have HS := Aside0.mk (HSm.out k hlt)
      have HX := Aside0.mk (outP_succ (rotF vs n) k)
      have HLen := Aside0.mk (flatP_length (outP (rotF vs n) k))
      have HLen2 := Aside0.mk (outP_length (rotF vs n) k)
      obtain ⟨p, hp⟩ : ∃ p, p = rotF vs n k := ⟨_, rfl⟩
      rw [← hp] at hF HS HX
      generalize vs.getD m 0 = xa at *
      generalize vs.getD m1 0 = xb at *
      have HXa := Aside0.mk hxa
      have HXb := Aside0.mk hxb
      have HMk := Aside0.mk (And.intro hmk hm1e)
      obtain ⟨c0, c1, z, hr⟩ : ∃ c0 c1 z, rotA n k = (c0, c1, z) := ⟨_, _, _, rfl⟩
      have HAi := Aside0.mk (angN_in (stepT (k % 4)).1 (stepT (k % 4)).2 n)
      have HAn : Aside0 (∀ W, Calls Tryd.prog 58 #[.int .i64 (k : Int), .int .i64 (n : Int)] W fun e w' => e = .returned (.tuple #[.agg #[.int .i64 c0, .int .i64 c1], .int .i64 z]) ∧ Below W.heap.size W w') := ⟨fun W => rangle_calls k n W (by omega) HN.out c0 c1 z hr⟩
      have hr2 : angN (stepT (k % 4)).1 (stepT (k % 4)).2 n = (c0, c1, z) := hr
      rw [hr] at hF
      rw [hr2] at HAi
      have HF := Aside0.mk hF
      have HI2 := Aside0.mk (And.intro hia hib)
      obtain ⟨A3, c3, rfl⟩ := own_slice HO.out.2.1
      have HO0 := Aside0.mk (R_int HO.out.2.1)
      clear hF hia hib hxa hxb hr hr2 hp hmk hm1e
      obtain ⟨es, hes⟩ : ∃ es, es = flatP (outP (rotF vs n) k) := ⟨_, rfl⟩
      rw [← hes] at HLen HO0 ⊢
      have HEs := Aside0.mk hes.symm
      clear hes
      go_wp2_with (fail)
      refine (HAn.out wr).mono ?_
      rintro e w1 ⟨rfl, hb1⟩
      have HBa : Aside0 (Below wr.heap.size wr (w1.alloc (.cells #[.int .i64 c0, .int .i64 c1] 69))) := ⟨bel_alloc hb1 _⟩
      have HGa8 : Aside0 ((w1.alloc (.cells #[.int .i64 c0, .int .i64 c1] 69)).heap[w1.heap.size]? = some (.cells #[.int .i64 c0, .int .i64 c1] 69 (0, 0))) := ⟨heap_alloc_new _ _⟩
      clear hb1 HAn
      by_cases hz : z = 0
      · subst hz
        have HF2 : Aside0 (p = turnV xa xb c0 c1) := ⟨by rw [HF.out]; rfl⟩
        obtain ⟨x1, y1, z1, hT⟩ : ∃ x1 y1 z1, turnV xa xb c0 c1 = (x1, y1, z1) := ⟨_, _, _, rfl⟩
        have HT : Aside0 (p = (x1, y1, z1)) := ⟨HF2.out.trans hT⟩
        have HTu : Aside0 (∀ W, Calls Tryd.prog 59 #[.agg #[.int .i64 xa, .int .i64 xb], .agg #[.int .i64 c0, .int .i64 c1]] W fun e w' => e = .returned (.tuple #[.agg #[.int .i64 x1, .int .i64 y1], .int .i64 z1]) ∧ Below W.heap.size W w') := ⟨fun W => rturn_calls xa xb c0 c1 W HI2.out.1 HI2.out.2 HAi.out.1 HAi.out.2 x1 y1 z1 hT⟩
        clear hT
        go_upto_region 8 with (fail)
        generalize w1.alloc (.cells #[.int .i64 c0, .int .i64 c1] 69) = wa at *
        have q0 : wa.drew.cell? (ad.add m) = some (.int .i64 xa) := cell_keep (below_drew (below_step HO.out.2.2 HBa.out)) HXa.out
        have q1 : wa.drew.cell? (ad.add m1) = some (.int .i64 xb) := cell_keep (below_drew (below_step HO.out.2.2 HBa.out)) HXb.out
        have q2 : wa.drew.cell? ⟨w1.heap.size, 0, none⟩ = some (.int .i64 c0) := blk_cell HGa8.out 0
        have q3 : wa.drew.cell? ⟨w1.heap.size, 1, none⟩ = some (.int .i64 c1) := blk_cell HGa8.out 1
        refine start_ (n := 18) (S := fun w' => w'.cell? (ad.add m) = some (.int .i64 xa) ∧ w'.cell? (ad.add m1) = some (.int .i64 xb) ∧ w'.cell? ⟨w1.heap.size, 0, none⟩ = some (.int .i64 c0) ∧ w'.cell? ⟨w1.heap.size, 1, none⟩ = some (.int .i64 c1)) (ds := [16]) #[false, false, false, false, false, false, false, false, false, false, false, false, false, false, false, false, false, false] (by kernel_rfl) rfl rfl ⟨q0, q1, q2, q3⟩ (fun hHeld => ?_)
        refine pure_ (i := 0) (N := some 30) (v := ?_) (a' := ?_) #[true, false, false, false, false, false, false, false, false, false, false, false, false, false, false, false, false, false] rfl rfl (by kernel_rfl) (fun _ _ _ h => h) (Or.inl ⟨by rfl, ?_⟩) ?_ ?_
        rotate_left
        · intro w'
          go_simp
          with_reducible rfl
        rotate_left
        · simp only [Act.put, List.setIfInBounds_toArray, List.set_cons_zero, List.set_cons_succ]
          rfl
        refine pure_ (i := 1) (N := some 31) (v := ?_) (a' := ?_) #[true, true, false, false, false, false, false, false, false, false, false, false, false, false, false, false, false, false] rfl rfl (by kernel_rfl) (fun _ _ _ h => h) (Or.inl ⟨by rfl, ?_⟩) ?_ ?_
        rotate_left
        · intro w'
          go_simp
          with_reducible rfl
        rotate_left
        · simp only [Act.put, List.setIfInBounds_toArray, List.set_cons_zero, List.set_cons_succ]
          rfl
        refine pure_ (i := 2) (N := some 32) (v := ?_) (a' := ?_) #[true, true, true, false, false, false, false, false, false, false, false, false, false, false, false, false, false, false] rfl rfl (by kernel_rfl) (fun _ _ _ h => h) (Or.inl ⟨by rfl, ?_⟩) ?_ ?_
        rotate_left
        · intro w'
          go_simp
          with_reducible rfl
        rotate_left
        · simp only [Act.put, List.setIfInBounds_toArray, List.set_cons_zero, List.set_cons_succ]
          rfl
        refine pure_ (i := 4) (N := some 34) (v := ?_) (a' := ?_) #[true, true, true, false, true, false, false, false, false, false, false, false, false, false, false, false, false, false] rfl rfl (by kernel_rfl) (fun _ _ _ h => h) (Or.inl ⟨by rfl, ?_⟩) ?_ ?_
        rotate_left
        · intro w'
          go_simp
          with_reducible rfl
        rotate_left
        · simp only [Act.put, List.setIfInBounds_toArray, List.set_cons_zero, List.set_cons_succ]
          rfl
        refine pure_ (i := 5) (N := some 35) (v := ?_) (a' := ?_) #[true, true, true, false, true, true, false, false, false, false, false, false, false, false, false, false, false, false] rfl rfl (by kernel_rfl) (fun _ _ _ h => h) (Or.inl ⟨by rfl, ?_⟩) ?_ ?_
        rotate_left
        · intro w'
          go_simp
          with_reducible rfl
        rotate_left
        · simp only [Act.put, List.setIfInBounds_toArray, List.set_cons_zero, List.set_cons_succ]
          rfl
        refine pure_ (i := 6) (N := some 36) (v := ?_) (a' := ?_) #[true, true, true, false, true, true, true, false, false, false, false, false, false, false, false, false, false, false] rfl rfl (by kernel_rfl) (fun _ _ _ h => h) (Or.inl ⟨by rfl, ?_⟩) ?_ ?_
        rotate_left
        · intro w'
          go_simp
          with_reducible rfl
        rotate_left
        · simp only [Act.put, List.setIfInBounds_toArray, List.set_cons_zero, List.set_cons_succ]
          rfl
        refine pure_ (i := 7) (N := some 37) (v := ?_) (a' := ?_) #[true, true, true, false, true, true, true, true, false, false, false, false, false, false, false, false, false, false] rfl rfl (by kernel_rfl) (fun _ _ _ h => h) (Or.inl ⟨by rfl, ?_⟩) ?_ ?_
        rotate_left
        · intro w'
          go_simp
          with_reducible rfl
        rotate_left
        · simp only [Act.put, List.setIfInBounds_toArray, List.set_cons_zero, List.set_cons_succ]
          rfl
        refine take_ (i := 3) (N := some 33) (v := ?_) (a' := ?_) #[true, true, true, true, true, true, true, true, false, false, false, false, false, false, false, false, false, false] rfl rfl (by kernel_rfl) (fun _ _ _ h => h) (Or.inl ⟨by rfl, ?_⟩) hHeld ?_ ?_
        rotate_left
        · rintro w' ⟨s0, s1, s2, s3⟩
          go_simp
          with_reducible rfl
        rotate_left
        · simp only [Act.put, List.setIfInBounds_toArray, List.set_cons_zero, List.set_cons_succ]
          rfl
        refine take_ (i := 8) (N := some 38) (v := ?_) (a' := ?_) #[true, true, true, true, true, true, true, true, true, false, false, false, false, false, false, false, false, false] rfl rfl (by kernel_rfl) (fun _ _ _ h => h) (Or.inl ⟨by rfl, ?_⟩) hHeld ?_ ?_
        rotate_left
        · rintro w' ⟨s0, s1, s2, s3⟩
          go_simp
          with_reducible rfl
        rotate_left
        · simp only [Act.put, List.setIfInBounds_toArray, List.set_cons_zero, List.set_cons_succ]
          rfl
        refine pure_ (i := 9) (N := some 39) (v := ?_) (a' := ?_) #[true, true, true, true, true, true, true, true, true, true, false, false, false, false, false, false, false, false] rfl rfl (by kernel_rfl) (fun _ _ _ h => h) (Or.inl ⟨by rfl, ?_⟩) ?_ ?_
        rotate_left
        · intro w'
          go_simp
          with_reducible rfl
        rotate_left
        · simp only [Act.put, List.setIfInBounds_toArray, List.set_cons_zero, List.set_cons_succ]
          rfl
        refine take_ (i := 10) (N := some 40) (v := ?_) (a' := ?_) #[true, true, true, true, true, true, true, true, true, true, true, false, false, false, false, false, false, false] rfl rfl (by kernel_rfl) (fun _ _ _ h => h) (Or.inl ⟨by rfl, ?_⟩) hHeld ?_ ?_
        rotate_left
        · rintro w' ⟨s0, s1, s2, s3⟩
          go_simp
          with_reducible rfl
        rotate_left
        · simp only [Act.put, List.setIfInBounds_toArray, List.set_cons_zero, List.set_cons_succ]
          rfl
        refine join_ (σ := Nat) 2 #[true, true, true, true, true, true, true, true, true, true, true, true, true, true, true, true, false, false] (fun s_ => [(41, .tuple #[.agg #[.int .i64 x1, .int .i64 y1], .int .i64 z1]), (10, .pointer (some ⟨s_, 0, none⟩)), (29, .tuple #[.agg #[.int .i64 x1, .int .i64 y1], .int .i64 z1]), (42, .agg #[.int .i64 x1, .int .i64 y1]), (43, .int .i64 z1)]) (fun s_ w' => Below wa.drew.heap.size wa.drew w' ∧ w'.heap[s_]? = some (.cells #[.int .i64 0, .int .i64 0] 69 (0, 0)) ∧ wa.drew.heap.size ≤ s_) ?_ ?_
        rotate_left
        · intro hCont
          refine two_ (i := 11) (j := 15) (Ni := some 41) (Nj := some 10) #[true, true, true, true, true, true, true, true, true, true, true, true, false, false, false, false, false, false] #[true, true, true, true, true, true, true, true, true, true, true, false, false, false, false, true, false, false] rfl rfl rfl rfl (by kernel_rfl) (by decide) (by decide) (fun K hK => ?_) (fun K hK => ?_)
          · skip
            refine goes_ Tryd.func59 (by kernel_rfl) rfl #[.agg #[.int .i64 xa, .int .i64 xb], .agg #[.int .i64 c0, .int .i64 c1]] (by rfl) rfl rfl (by simp only [List.map_toArray, List.map_cons, List.map_nil]; rfl) ?_
            with_reducible refine (HTu.out _).mono ?_
            rintro e w3 ⟨rfl, hb3⟩
            refine ⟨_, rfl, ?_⟩
            have HD3 := Aside0.mk hb3
            refine hK.out _ _ ⟨cell_keep HD3.out q0, cell_keep HD3.out q1, cell_keep HD3.out q2, cell_keep HD3.out q3⟩ (fun hHeld => ?_)
            clear hK K
            refine norm_ (a' := ?_) ?_ ?_
            rotate_left
            · show Act.put _ (some 41) _ = _
              simp only [Act.put, List.setIfInBounds_toArray, List.set_cons_zero, List.set_cons_succ]
              rfl
            refine pure_ (i := 12) (N := some 29) (v := ?_) (a' := ?_) #[true, true, true, true, true, true, true, true, true, true, true, true, true, false, false, false, false, false] rfl rfl (by kernel_rfl) (fun _ _ _ h => h) (Or.inl ⟨by rfl, ?_⟩) ?_ ?_
            rotate_left
            · intro w'
              go_simp
              with_reducible rfl
            rotate_left
            · simp only [Act.put, List.setIfInBounds_toArray, List.set_cons_zero, List.set_cons_succ]
              rfl
            refine pure_ (i := 13) (N := some 42) (v := ?_) (a' := ?_) #[true, true, true, true, true, true, true, true, true, true, true, true, true, true, false, false, false, false] rfl rfl (by kernel_rfl) (fun _ _ _ h => h) (Or.inl ⟨by rfl, ?_⟩) ?_ ?_
            rotate_left
            · intro w'
              go_simp
              with_reducible rfl
            rotate_left
            · simp only [Act.put, List.setIfInBounds_toArray, List.set_cons_zero, List.set_cons_succ]
              rfl
            refine pure_ (i := 14) (N := some 43) (v := ?_) (a' := ?_) #[true, true, true, true, true, true, true, true, true, true, true, true, true, true, true, false, false, false] rfl rfl (by kernel_rfl) (fun _ _ _ h => h) (Or.inl ⟨by rfl, ?_⟩) ?_ ?_
            rotate_left
            · intro w'
              go_simp
              with_reducible rfl
            rotate_left
            · simp only [Act.put, List.setIfInBounds_toArray, List.set_cons_zero, List.set_cons_succ]
              rfl
            refine one_ (i := 15) (N := some 10) #[true, true, true, true, true, true, true, true, true, true, true, true, true, true, true, true, false, false] rfl rfl (by kernel_rfl) (by decide) (fun K hK => ?_)
            refine value_ (w1 := ?_) (v := ?_) (by rfl) rfl ?_ ?_
            rotate_left 2
            · go_simp
              constructor
              · rfl
              · rfl
            have HDa := Aside0.mk (bel_alloc HD3.out (.cells #[.int .i64 0, .int .i64 0] 69))
            have HGa := Aside0.mk (heap_alloc_new w3 (.cells #[.int .i64 0, .int .i64 0] 69))
            have HSa := Aside0.mk HD3.out.size
            refine hK.out _ _ ⟨cell_keep HDa.out q0, cell_keep HDa.out q1, cell_keep HDa.out q2, cell_keep HDa.out q3⟩ (fun hHeld => ?_)
            clear hK K
            refine norm_ (a' := ?_) ?_ ?_
            rotate_left
            · show Act.put _ (some 10) _ = _
              simp only [Act.put, List.setIfInBounds_toArray, List.set_cons_zero, List.set_cons_succ]
              rfl
            exact norm_ (by simp only [putAll, Act.put, List.setIfInBounds_toArray, List.set_cons_zero, List.set_cons_succ]) (hCont w3.heap.size _ ⟨HDa.out, HGa.out, HSa.out⟩)
          · skip
            refine value_ (w1 := ?_) (v := ?_) (by rfl) rfl ?_ ?_
            rotate_left 2
            · go_simp
              constructor
              · rfl
              · rfl
            have HDa := Aside0.mk (bel_alloc (Below.refl wa.drew.heap.size wa.drew) (.cells #[.int .i64 0, .int .i64 0] 69))
            have HGa := Aside0.mk (heap_alloc_new wa.drew (.cells #[.int .i64 0, .int .i64 0] 69))
            have HSa : Aside0 (wa.drew.heap.size ≤ wa.heap.size) := ⟨Nat.le_refl _⟩
            refine hK.out _ _ ⟨cell_keep HDa.out q0, cell_keep HDa.out q1, cell_keep HDa.out q2, cell_keep HDa.out q3⟩ (fun hHeld => ?_)
            clear hK K
            refine norm_ (a' := ?_) ?_ ?_
            rotate_left
            · show Act.put _ (some 10) _ = _
              simp only [Act.put, List.setIfInBounds_toArray, List.set_cons_zero, List.set_cons_succ]
              rfl
            refine one_ (i := 11) (N := some 41) #[true, true, true, true, true, true, true, true, true, true, true, true, false, false, false, true, false, false] rfl rfl (by kernel_rfl) (by decide) (fun K hK => ?_)
            refine goes_ Tryd.func59 (by kernel_rfl) rfl #[.agg #[.int .i64 xa, .int .i64 xb], .agg #[.int .i64 c0, .int .i64 c1]] (by rfl) rfl rfl (by simp only [List.map_toArray, List.map_cons, List.map_nil]; rfl) ?_
            with_reducible refine (HTu.out _).mono ?_
            rintro e w3 ⟨rfl, hb3⟩
            refine ⟨_, rfl, ?_⟩
            have HG3 := Aside0.mk ((hb3.block _ (blk_lt HGa.out)).trans HGa.out)
            have HD3 := Aside0.mk (below_step HDa.out hb3)
            refine hK.out _ _ ⟨cell_keep HD3.out q0, cell_keep HD3.out q1, cell_keep HD3.out q2, cell_keep HD3.out q3⟩ (fun hHeld => ?_)
            clear hK K
            refine norm_ (a' := ?_) ?_ ?_
            rotate_left
            · show Act.put _ (some 41) _ = _
              simp only [Act.put, List.setIfInBounds_toArray, List.set_cons_zero, List.set_cons_succ]
              rfl
            refine pure_ (i := 12) (N := some 29) (v := ?_) (a' := ?_) #[true, true, true, true, true, true, true, true, true, true, true, true, true, false, false, true, false, false] rfl rfl (by kernel_rfl) (fun _ _ _ h => h) (Or.inl ⟨by rfl, ?_⟩) ?_ ?_
            rotate_left
            · intro w'
              go_simp
              with_reducible rfl
            rotate_left
            · simp only [Act.put, List.setIfInBounds_toArray, List.set_cons_zero, List.set_cons_succ]
              rfl
            refine pure_ (i := 13) (N := some 42) (v := ?_) (a' := ?_) #[true, true, true, true, true, true, true, true, true, true, true, true, true, true, false, true, false, false] rfl rfl (by kernel_rfl) (fun _ _ _ h => h) (Or.inl ⟨by rfl, ?_⟩) ?_ ?_
            rotate_left
            · intro w'
              go_simp
              with_reducible rfl
            rotate_left
            · simp only [Act.put, List.setIfInBounds_toArray, List.set_cons_zero, List.set_cons_succ]
              rfl
            refine pure_ (i := 14) (N := some 43) (v := ?_) (a' := ?_) #[true, true, true, true, true, true, true, true, true, true, true, true, true, true, true, true, false, false] rfl rfl (by kernel_rfl) (fun _ _ _ h => h) (Or.inl ⟨by rfl, ?_⟩) ?_ ?_
            rotate_left
            · intro w'
              go_simp
              with_reducible rfl
            rotate_left
            · simp only [Act.put, List.setIfInBounds_toArray, List.set_cons_zero, List.set_cons_succ]
              rfl
            exact norm_ (by simp only [putAll, Act.put, List.setIfInBounds_toArray, List.set_cons_zero, List.set_cons_succ]) (hCont wa.heap.size _ ⟨HD3.out, HG3.out, HSa.out⟩)
        rintro g w4 ⟨hD4, hG4, hg4⟩
        have HD4 := Aside0.mk hD4
        have HG4 := Aside0.mk hG4
        have HSg := Aside0.mk hg4
        clear hD4 hG4 hg4
        have hHeld : w4.cell? (ad.add m) = some (.int .i64 xa) ∧ w4.cell? (ad.add m1) = some (.int .i64 xb) ∧ w4.cell? ⟨w1.heap.size, 0, none⟩ = some (.int .i64 c0) ∧ w4.cell? ⟨w1.heap.size, 1, none⟩ = some (.int .i64 c1) := ⟨cell_keep HD4.out q0, cell_keep HD4.out q1, cell_keep HD4.out q2, cell_keep HD4.out q3⟩
        have j0 : w4.cell? ⟨g, 0, none⟩ = some (.int .i64 0) := blk_cell HG4.out 0
        have j1 : w4.cell? ⟨g, 1, none⟩ = some (.int .i64 0) := blk_cell HG4.out 1
        have f0 : w4.frozen? ⟨g, 0, none⟩ = false := blk_frozen HG4.out 0
        have f1 : w4.frozen? ⟨g, 1, none⟩ = false := blk_frozen HG4.out 1
        refine norm_ (a' := ?_) ?_ ?_
        rotate_left
        · simp only [putAll, Act.put, List.setIfInBounds_toArray, List.set_cons_zero, List.set_cons_succ]
          rfl
        refine last_ (i := 16) (N := none) #[true, true, true, true, true, true, true, true, true, true, true, true, true, true, true, true, true, false] rfl rfl (by kernel_rfl) (by decide) (fun K hK => ?_)
        refine skip_ (w1 := ?_) (by rfl) rfl ?_ ?_
        rotate_left
        · go_simp
          rfl
        refine hK.out _ _ ?_
        clear hK K
        refine pure_ (i := 17) (N := some 11) (v := ?_) (a' := ?_) #[true, true, true, true, true, true, true, true, true, true, true, true, true, true, true, true, true, true] rfl rfl (by kernel_rfl) (fun _ _ _ h => h) (Or.inl ⟨by rfl, ?_⟩) ?_ ?_
        rotate_left
        · intro w'
          go_simp
          with_reducible rfl
        rotate_left
        · simp only [Act.put, List.setIfInBounds_toArray, List.set_cons_zero, List.set_cons_succ]
          rfl
        refine done_ (by kernel_rfl) ?_
        clear hHeld q0 q1 q2 q3 j0 j1 f0 f1
        have HG5 : Aside0 (((w4.setCell ⟨g, 0, none⟩ (.int .i64 x1)).setCell ⟨g, 1, none⟩ (.int .i64 y1)).heap[g]? = some (.cells #[.int .i64 x1, .int .i64 y1] 69 (0, 0))) := ⟨blk_set (blk_set HG4.out 0 _) 1 _⟩
        have hgw : wr.heap.size ≤ g := Nat.le_trans HBa.out.size HSg.out
        have HB5 : Aside0 (Below wr.heap.size wr ((w4.setCell ⟨g, 0, none⟩ (.int .i64 x1)).setCell ⟨g, 1, none⟩ (.int .i64 y1))) := ⟨((below_step (below_drew HBa.out) HD4.out).setCell hgw _).setCell hgw _⟩
        generalize (w4.setCell ⟨g, 0, none⟩ (.int .i64 x1)).setCell ⟨g, 1, none⟩ (.int .i64 y1) = w5 at *
        clear hgw
        by_cases hz : z1 = 0
        · subst hz
          have HE2 : Aside0 (errP (rotF vs n) h 0 = errP (rotF vs n) (h - (k + 1)) (k + 1)) := ⟨by rw [HO.out.1, HS.out, HT.out, if_pos rfl]⟩
          have HX2 : Aside0 (flatP (outP (rotF vs n) (k + 1)) = es ++ [x1, y1]) := ⟨by
            have h1 := HX.out
            rw [HT.out] at h1
            rw [h1, flatP_append, HEs.out]
            rfl⟩
          have j0 : w5.cell? ⟨g, 0, none⟩ = some (.int .i64 x1) := blk_cell HG5.out 0
          have j1 : w5.cell? ⟨g, 1, none⟩ = some (.int .i64 y1) := blk_cell HG5.out 1
          have HB6 : Aside0 (Below w.heap.size w (w5.alloc (.cells #[.int .i64 x1, .int .i64 y1] 3))) := ⟨bel_alloc (below_step HO.out.2.2 HB5.out) _⟩
          have HO6 : Aside0 ((w5.alloc (.cells #[.int .i64 x1, .int .i64 y1] 3)).ownsRow w.heap.size 3 1 (.slice A3 es.length c3) es.length (nums .i64 es)) := ⟨own_int (Kd.R_below HO0.out (bel_alloc HB5.out _))⟩
          have HTw := Aside0.mk (two_C (heap_alloc_new w5 (.cells #[.int .i64 x1, .int .i64 y1] 3)))
          have HLn : Aside0 ((es.length + 2) * 8 ≤ 140737488355328) := ⟨by
            have h1 := HLen.out
            have h2 := HLen2.out
            have h3 := HHh.out
            omega⟩
          have hwk : IntKind.i64.wrap ((m : Int) + 2) = (m : Int) + 2 := by have := HLh.out; have := HMk.out; rw [IntKind.wrap_i64]; omega
          go_wp2_with (at_builtin; refine print_append_row (w0 := w) (W := w5.alloc (.cells #[.int .i64 x1, .int .i64 y1] 3)) w.heap.size rfl (.tmp 47) (.tmp 52) 22 3 .i64 8 rfl Tryd.underlying22 info_int (by decide) (.slice A3 es.length c3) es [x1, y1] (some ⟨w5.heap.size, 0, none⟩) 2 2 rfl rfl HO6.out (reads_int HTw.out) HB6.out HB6.out.size HLn.out ?_; intro v1 w6 hown hbw hgr hat; have HA4 := Aside0.mk (And.intro hown hbw); clear hown hbw hgr hat)
          go_roundw
          case rel => exact ⟨k + 1, m + 2, by omega, by have := HMk.out.1; omega, by go_num, ⟨HE2.out, by rw [HX2.out]; exact HA4.out.1, HA4.out.2⟩⟩
          case measure => simp [intOf]; have := HLh.out; have := HMk.out; omega
        · have dz : (z1 != 0) = true := by simpa using hz
          have HE2 : Aside0 (errP (rotF vs n) h 0 = z1) := ⟨by rw [HO.out.1, HS.out, HT.out, if_neg hz]⟩
          have HZ := Aside0.mk hz
          clear hz
          go_wp2_with (fail)
          go_ret2
          exact ⟨fun _ => by rw [HE2.out]; rfl, fun h => absurd (HE2.out.symm.trans h) HZ.out, below_step HO.out.2.2 HB5.out⟩
      · have dz : (z != 0) = true := by simpa using hz
        have HE2 : Aside0 (errP (rotF vs n) h 0 = z) := ⟨by rw [HO.out.1, HS.out, HF.out]; simp [hz]⟩
        have HZ := Aside0.mk hz
        clear hz
        go_wp2_with (fail)
        go_ret2
        exact ⟨fun _ => by rw [HE2.out]; rfl, fun h => absurd (HE2.out.symm.trans h) HZ.out, below_step HO.out.2.2 HBa.out⟩
    · obtain rfl : k = h := by omega
      have d1 : decide (m1 < vs.length) = false := by have := HLh.out; simp; omega
      have HE2 : Aside0 (errP (rotF vs n) k 0 = 0) := ⟨by rw [HO.out.1, Nat.sub_self]; rfl⟩
      obtain ⟨Ao, co, rfl, hCo, hleo⟩ := own_slice_le (R_int HO.out.2.1)
      have HCo := Aside0.mk hCo
      have HLo := Aside0.mk hleo
      clear hCo hleo hmk hm1e
      go_wp2_with (fail)
      go_ret2
      exact ⟨fun h => absurd HE2.out h, fun _ => ⟨Ao, co, rfl, HCo.out, HLo.out⟩, HO.out.2.2⟩
end Go.Proofs.YtfameghednapkaaDoor.Ten
