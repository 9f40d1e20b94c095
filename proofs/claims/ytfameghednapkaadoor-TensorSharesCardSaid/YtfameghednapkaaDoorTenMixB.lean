/- tensor: Mix: vectors together, each by its share. -/
import Derived.Test.YtfameghednapkaaDoorTenChecksB
namespace Go.Proofs.YtfameghednapkaaDoor.Ten
open Go.RowKit Go.Proofs.YtfameghednapkaaDoorW.PrintWords Go.Proofs.YtfameghednapkaaDoorW.PrintLast Go.Proofs.YtfameghednapkaaDoorW.PrintMore Go.Proofs.YtfameghednapkaaDoor.K Go.Proofs.YtfameghednapkaaDoor.RI Go.Proofs.YtfameghednapkaaDoor.Fixed
set_option linter.unusedVariables false
set_option linter.unusedSimpArgs false
def isSh (n : Int) : Bool := decide (0 ≤ n ∧ n ≤ 65536)
def mixS (sh : List Int) (L : List (List Int)) (k : Nat) : Nat → Int
  | 0 => 0
  | m + 1 => mixS sh L k m + sh.getD m 0 * (L.getD m []).getD k 0
def mixF (sh : List Int) (L : List (List Int)) (k : Nat) : Int × Int := rtV (mixS sh L k sh.length)
def mixE (sh : List Int) (L : List (List Int)) : Int := if L.length = 0 ∨ 64 < L.length ∨ sh.length ≠ L.length then 13 else if checksV L = 0 then (if sh.all isSh = true then errF (mixF sh L) (L.getD 0 []).length 0 else 10) else checksV L
def mixL (sh : List Int) (L : List (List Int)) : List Int := outL (mixF sh L) (L.getD 0 []).length
theorem firstE_zero {L : List (List Int)} (h : firstE L = 0) : ∀ v ∈ L, checkV v = 0 := by
  induction L with
  | nil => intro v hv; cases hv
  | cons x t ih =>
    simp only [firstE] at h
    split at h
    · rename_i h1
      intro v hv
      cases hv with
      | head => exact h1
      | tail _ hv => exact ih h v hv
    · rename_i h1
      exact absurd h h1
theorem getD_mem_ {L : List (List Int)} {k : Nat} (h : k < L.length) : L.getD k [] ∈ L := by
  rw [List.getD_eq_getElem?_getD, List.getElem?_eq_getElem h]
  exact List.getElem_mem h
theorem checks_ok {L : List (List Int)} (h : checksV L = 0) (k : Nat) (hk : k < L.length) : (L.getD k []).length = (L.getD 0 []).length ∧ checkV (L.getD k []) = 0 := by
  unfold checksV at h
  split at h
  · rename_i h1
    exact ⟨of_decide_eq_true (List.all_eq_true.1 h1 _ (getD_mem_ hk)), firstE_zero h _ (getD_mem_ hk)⟩
  · cases h
theorem sh_get {sh : List Int} (h : sh.all isSh = true) (k : Nat) : 0 ≤ sh.getD k 0 ∧ sh.getD k 0 ≤ 65536 := by
  rcases Nat.lt_or_ge k sh.length with h1 | h1
  · rw [List.getD_eq_getElem?_getD, List.getElem?_eq_getElem h1]
    exact of_decide_eq_true (List.all_eq_true.1 h _ (List.getElem_mem h1))
  · rw [List.getD_eq_getElem?_getD, List.getElem?_eq_none h1]
    decide
theorem mixS_bd {sh : List Int} {L : List (List Int)} {k : Nat} (hs : sh.all isSh = true) (hL : checksV L = 0) : ∀ m : Nat, m ≤ L.length → -((m : Int) * 140737488355328) ≤ mixS sh L k m ∧ mixS sh L k m ≤ (m : Int) * 140737488355328
  | 0, _ => by simp [mixS]
  | m + 1, hm => by
    have h1 := mixS_bd (k := k) hs hL m (by omega)
    have h3 := sh_get hs m
    have h4 := getD_r (check_ok_in (checks_ok hL m (by omega)).2).1 k
    have h2 := mul_bd (a := sh.getD m 0) (b := (L.getD m []).getD k 0) (A := 65536) (B := 2147483648) (by omega) (by omega) (by decide) (by decide)
    simp only [mixS]
    rw [Int.natCast_add]
    omega
theorem slice_cells {W : World} {g : Nat} {v : Value} {t : TypeId} (h : W.heap[g]? = some (.cells #[v] t (0, 0))) : W.cell? ⟨g, 0, none⟩ = some v := by
  have h1 := blk_cell h 0
  simpa only [List.getElem?_toArray, List.getElem?_cons_zero] using h1
set_option maxHeartbeats 8000000 in
set_option maxRecDepth 100000 in
theorem mix2_calls (As : Option Addr) (cs : Nat) (sh : List Int) (Al : Option Addr) (cl : Nat) (L : List (List Int)) (k Bs Bl : Nat) (w : World) (hS : Kd.C (Kd.int .i64) w As sh.length sh) (hL : Kd.C (Kd.slice 3 (Kd.int .i64)) w Al L.length L)
    (hbs : w.heap[Bs]? = some (.cells #[.slice As sh.length cs] 22 (0, 0))) (hbl : w.heap[Bl]? = some (.cells #[.slice Al L.length cl] 44 (0, 0))) (h64 : L.length ≤ 64) (hl : sh.length = L.length) (hsh : sh.all isSh = true) (hch : checksV L = 0) (hk : k < (L.getD 0 []).length) :
    Calls Tryd.prog 53 #[.int .i64 (k : Int), .pointer (some ⟨Bs, 0, none⟩), .pointer (some ⟨Bl, 0, none⟩)] w fun e w' => e = .returned (.tuple #[.int .i64 (mixF sh L k).1, .int .i64 (mixF sh L k).2]) ∧ Below w.heap.size w w' := by
  have hcs := slice_cells hbs
  have hcl := slice_cells hbl
  have HS := Aside0.mk hS
  have HL := Aside0.mk hL
  have HX := Aside0.mk (And.intro hl (And.intro hsh (And.intro hch hk)))
  have HP : Aside0 (mixF sh L k = rtV (mixS sh L k sh.length)) := ⟨rfl⟩
  have h64' : sh.length ≤ 64 := by omega
  have hm1 := hS.2.1
  have hm2 := hL.2.1
  clear hbs hbl hS hL hl hsh hch hk
  generalize mixF sh L k = p at *
  go_enter Tryd.func53, Tryd.ntmps53
  go_wp2_with (fail)
  go_loop [6, 11] (fun s i => ∃ m : Nat, m ≤ sh.length ∧ i = .int .i64 (m : Int) ∧ s = .int .i64 (mixS sh L k m)) (fun _ i => sh.length - (intOf i).toNat)
  case atStart => exact ⟨0, Nat.zero_le _, rfl, rfl⟩
  case round =>
    obtain ⟨m, hm, rfl, rfl⟩ := hrel
    by_cases hlt : m < sh.length
    · have hlt2 : m < L.length := by have := HX.out.1; omega
      obtain ⟨ads, rfl, hx⟩ := int_at HS.out m hlt
      obtain ⟨adl, A1, c1, rfl, hcell, hle1, hrow⟩ := row_at HL.out m hlt2
      have hkk : k < (L.getD m []).length := by rw [(checks_ok HX.out.2.2.1 m hlt2).1]; exact HX.out.2.2.2
      obtain ⟨ad1, rfl, hy⟩ := int_at hrow k hkk
      have hs1 : mixS sh L k (m + 1) = mixS sh L k m + sh.getD m 0 * (L.getD m []).getD k 0 := rfl
      have hb1 := mixS_bd (k := k) HX.out.2.1 HX.out.2.2.1 (m + 1) hlt2
      have hs3 := sh_get HX.out.2.1 m
      have hs4 := getD_r (check_ok_in (checks_ok HX.out.2.2.1 m hlt2).2).1 k
      have hs2 := mul_bd (a := sh.getD m 0) (b := (L.getD m []).getD k 0) (A := 65536) (B := 2147483648) (by omega) (by omega) (by decide) (by decide)
      obtain ⟨y, hye⟩ : ∃ y, y = (L.getD m []).getD k 0 := ⟨_, rfl⟩
      obtain ⟨x, hxe⟩ : ∃ x, x = sh.getD m 0 := ⟨_, rfl⟩
      rw [← hye] at hy hs1 hs2
      rw [← hxe] at hx hs1 hs2
      obtain ⟨q, hq⟩ : ∃ q, q = x * y := ⟨_, rfl⟩
      obtain ⟨s', hs'⟩ : ∃ s, s = mixS sh L k (m + 1) := ⟨_, rfl⟩
      rw [← hq] at hs1 hs2
      rw [← hs'] at hs1 hb1
      have hw1 : IntKind.i64.wrap (x * y) = q := by rw [← hq, IntKind.wrap_i64]; omega
      have hw2 : IntKind.i64.wrap (mixS sh L k m + q) = s' := by rw [hs1, IntKind.wrap_i64]; omega
      have hwk : IntKind.i64.wrap ((m : Int) + 1) = (m : Int) + 1 := by rw [IntKind.wrap_i64]; omega
      have HS' := Aside0.mk hs'
      generalize mixS sh L k m = s at *
      generalize L.getD m [] = row at *
      clear hrow hs1 hb1 hs2 hs3 hs4 hq hs' hxe hye hle1
      go_wp2
      go_round
      case rel => exact ⟨m + 1, by omega, by go_num, by rw [HS'.out]⟩
      case measure => simp [intOf]; omega
    · obtain rfl : m = sh.length := by omega
      have hb1 := mixS_bd (k := k) HX.out.2.1 HX.out.2.2.1 sh.length (by have := HX.out.1; omega)
      have HR : Aside0 (-4611686018427387904 ≤ mixS sh L k sh.length ∧ mixS sh L k sh.length ≤ 4611686018427387904) := ⟨by omega⟩
      clear hb1
      generalize mixS sh L k sh.length = s at *
      go_wp2_with (fail)
      refine (rounded_calls s w HR.out.1 HR.out.2).mono ?_
      rintro e w1 ⟨rfl, hb⟩
      have HB1 := Aside0.mk hb
      clear hb
      generalize rtV s = r at *
      go_wp2
      go_ret2
      exact ⟨by rw [HP.out]; rfl, HB1.out⟩
theorem mix1_calls (x : Int) (w : World) :
    Calls Tryd.prog 52 #[.int .i64 x] w fun e w' => e = .returned (.bool (isSh x)) ∧ Below w.heap.size w w' := by
  by_cases h0 : 0 ≤ x
  · have d0 : decide (0 ≤ x) = true := by simpa using h0
    by_cases h1 : x ≤ 65536
    · have d1 : decide (x ≤ 65536) = true := by simpa using h1
      have HE : Aside0 (isSh x = true) := ⟨by unfold isSh; simp; omega⟩
      rw [HE.out]
      clear h0 h1
      go_enter Tryd.func52, Tryd.ntmps52
      go_wp2
      go_ret
      exact ⟨rfl, Below.refl _ _⟩
    · have d1 : decide (x ≤ 65536) = false := by simpa using h1
      have HE : Aside0 (isSh x = false) := ⟨by unfold isSh; simp; omega⟩
      rw [HE.out]
      clear h0 h1
      go_enter Tryd.func52, Tryd.ntmps52
      go_wp2
      go_ret
      exact ⟨rfl, Below.refl _ _⟩
  · have d0 : decide (0 ≤ x) = false := by simpa using h0
    have HE : Aside0 (isSh x = false) := ⟨by unfold isSh; simp; omega⟩
    rw [HE.out]
    clear h0
    go_enter Tryd.func52, Tryd.ntmps52
    go_wp2
    go_ret
    exact ⟨rfl, Below.refl _ _⟩
set_option maxHeartbeats 8000000 in
set_option maxRecDepth 100000 in
theorem mix_calls (As : Option Addr) (cs : Nat) (sh : List Int) (Al : Option Addr) (cl : Nat) (L : List (List Int)) (w : World) (hS : Kd.C (Kd.int .i64) w As sh.length sh) (hL : Kd.C (Kd.slice 3 (Kd.int .i64)) w Al L.length L) :
    Calls Tryd.prog 28 #[.slice As sh.length cs, .slice Al L.length cl] w (ListEnd (mixE sh L) (mixL sh L) w) := by
  have HS := Aside0.mk hS
  have HL := Aside0.mk hL
  have hm1 := hS.2.1
  have hm2 := hL.2.1
  have HB0 : Aside0 (Below w.heap.size w ((w.alloc (.cells #[.slice As sh.length cs] 22)).alloc (.cells #[.slice Al L.length cl] 44))) := ⟨bel_alloc (bel_alloc (Below.refl _ _) _) _⟩
  have HX0 : Aside0 (((w.alloc (.cells #[.slice As sh.length cs] 22)).alloc (.cells #[.slice Al L.length cl] 44)).heap[w.heap.size]? = some (.cells #[.slice As sh.length cs] 22 (0, 0))) := ⟨blk_alloc (heap_alloc_new _ _) _⟩
  have HY0 : Aside0 (((w.alloc (.cells #[.slice As sh.length cs] 22)).alloc (.cells #[.slice Al L.length cl] 44)).heap[w.heap.size + 1]? = some (.cells #[.slice Al L.length cl] 44 (0, 0))) := ⟨by
    have h := heap_alloc_new (w.alloc (.cells #[.slice As sh.length cs] 22)) (.cells #[.slice Al L.length cl] 44)
    rwa [World.size_alloc] at h⟩
  clear hS hL
  have hend : (L.length = 0 ∨ 64 < L.length ∨ sh.length ≠ L.length) → Aside0 (mixE sh L = 13) := fun h => ⟨if_pos h⟩
  by_cases h1 : L.length = 0
  · have d1 : ((L.length : Int) == 0) = true := by simp [h1]
    have HE := hend (.inl h1)
    clear hend h1
    go_enter Tryd.func28, Tryd.ntmps28
    go_wp2
    go_ret2
    exact ⟨fun _ => by rw [HE.out]; rfl, fun h => absurd (HE.out.symm.trans h) (by decide), HB0.out⟩
  · have d1 : ((L.length : Int) == 0) = false := by simp; exact fun h => h1 (by rw [h]; rfl)
    by_cases h2 : 64 < L.length
    · have d2 : decide (64 < (L.length : Int)) = true := by simp; omega
      have HE := hend (.inr (.inl h2))
      clear hend h1 h2
      go_enter Tryd.func28, Tryd.ntmps28
      go_wp2
      go_ret2
      exact ⟨fun _ => by rw [HE.out]; rfl, fun h => absurd (HE.out.symm.trans h) (by decide), HB0.out⟩
    · have d2 : decide (64 < (L.length : Int)) = false := by simp; omega
      by_cases h3 : sh.length = L.length
      · have d3 : ((sh.length : Int) != (L.length : Int)) = false := by simp [h3]
        have HN : Aside0 (¬ (L.length = 0 ∨ 64 < L.length ∨ sh.length ≠ L.length)) := ⟨by omega⟩
        have HM : Aside0 (mixE sh L = if checksV L = 0 then (if sh.all isSh = true then errF (mixF sh L) (L.getD 0 []).length 0 else 10) else checksV L) := ⟨if_neg HN.out⟩
        have hp : 0 < L.length := by omega
        have HP64 : Aside0 (L.length ≤ 64 ∧ sh.length = L.length ∧ 0 < L.length) := ⟨by omega⟩
        clear hend h1 h2
        obtain ⟨z, hz⟩ : ∃ z, z = checksV L := ⟨_, rfl⟩
        have HZ := Aside0.mk hz
        by_cases hz0 : z = 0
        · subst hz0
          have HM2 : Aside0 (mixE sh L = if sh.all isSh = true then errF (mixF sh L) (L.getD 0 []).length 0 else 10) := ⟨by rw [HM.out, if_pos hz.symm]⟩
          clear hz HM h3
          obtain ⟨b, hb⟩ : ∃ b, b = sh.all isSh := ⟨_, rfl⟩
          have HBb := Aside0.mk hb
          clear hb
          cases b with
          | false =>
            have HE : Aside0 (mixE sh L = 10) := ⟨by rw [HM2.out, if_neg (by rw [← HBb.out]; simp)]⟩
            go_enter Tryd.func28, Tryd.ntmps28
            go_wp2_with (fail)
            generalize ((w.alloc (.cells #[.slice As sh.length cs] 22)).alloc (.cells #[.slice Al L.length cl] 44)) = w0 at *
            refine (checks_list_calls Al cl L w0 (Kd.C_below HL.out HB0.out)).mono ?_
            rw [← HZ.out]
            rintro e w1 ⟨rfl, hb⟩
            have HB1 := Aside0.mk (below_step HB0.out hb)
            have hcs := slice_cells ((hb.block _ (blk_lt HX0.out)).trans HX0.out)
            clear hb
            go_wp2_with (fail)
            clear hcs
            refine (all_calls 52 #[] #[] isSh As cs sh w1 (Kd.C_below HS.out HB1.out) (enters_ Tryd.func52 (by kernel_rfl) rfl) (fun x W _ => mix1_calls x W)).mono ?_
            rw [← HBb.out]
            rintro e w2 ⟨rfl, hb⟩
            have HB2 := Aside0.mk (below_step HB1.out hb)
            clear hb
            go_wp2
            go_ret2
            exact ⟨fun _ => by rw [HE.out]; rfl, fun h => absurd (HE.out.symm.trans h) (by decide), HB2.out⟩
          | true =>
            have HE : Aside0 (mixE sh L = errF (mixF sh L) (L.getD 0 []).length 0) := ⟨by rw [HM2.out, if_pos HBb.out.symm]⟩
            go_enter Tryd.func28, Tryd.ntmps28
            go_wp2_with (fail)
            generalize ((w.alloc (.cells #[.slice As sh.length cs] 22)).alloc (.cells #[.slice Al L.length cl] 44)) = w0 at *
            refine (checks_list_calls Al cl L w0 (Kd.C_below HL.out HB0.out)).mono ?_
            rw [← HZ.out]
            rintro e w1 ⟨rfl, hb⟩
            have HB1 := Aside0.mk (below_step HB0.out hb)
            have HX1 : Aside0 (w1.heap[w.heap.size]? = some (.cells #[.slice As sh.length cs] 22 (0, 0))) := ⟨(hb.block _ (blk_lt HX0.out)).trans HX0.out⟩
            have HY1 : Aside0 (w1.heap[w.heap.size + 1]? = some (.cells #[.slice Al L.length cl] 44 (0, 0))) := ⟨(hb.block _ (blk_lt HY0.out)).trans HY0.out⟩
            have hcs := slice_cells HX1.out
            clear hb
            go_wp2_with (fail)
            clear hcs
            refine (all_calls 52 #[] #[] isSh As cs sh w1 (Kd.C_below HS.out HB1.out) (enters_ Tryd.func52 (by kernel_rfl) rfl) (fun x W _ => mix1_calls x W)).mono ?_
            rw [← HBb.out]
            rintro e w2 ⟨rfl, hb⟩
            have HB2 := Aside0.mk (below_step HB1.out hb)
            have HX2 : Aside0 (w2.heap[w.heap.size]? = some (.cells #[.slice As sh.length cs] 22 (0, 0))) := ⟨(hb.block _ (blk_lt HX1.out)).trans HX1.out⟩
            have HY2 : Aside0 (w2.heap[w.heap.size + 1]? = some (.cells #[.slice Al L.length cl] 44 (0, 0))) := ⟨(hb.block _ (blk_lt HY1.out)).trans HY1.out⟩
            have hcl := slice_cells HY2.out
            obtain ⟨ad, A0, c0, rfl, hcell0, hle0, hrow0⟩ := row_get HL.out 0 hp
            have hcell := hcell0 w2 HB2.out
            rw [add_zero_] at hcell
            have HT : TellsAt 53 #[] #[.pointer (some ⟨w.heap.size, 0, none⟩), .pointer (some ⟨w.heap.size + 1, 0, none⟩)] (mixF sh L) (L.getD 0 []).length w2 := fun k hk W hb =>
              mix2_calls As cs sh (some ad) cl L k w.heap.size (w.heap.size + 1) W (Kd.C_below HS.out (below_step HB2.out hb)) (Kd.C_below HL.out (below_step HB2.out hb)) ((hb.block _ (blk_lt HX2.out)).trans HX2.out) ((hb.block _ (blk_lt HY2.out)).trans HY2.out) HP64.out.1 HP64.out.2.1 HBb.out.symm HZ.out.symm hk
            have HEa := Aside0.mk (each_calls 53 #[] #[.pointer (some ⟨w.heap.size, 0, none⟩), .pointer (some ⟨w.heap.size + 1, 0, none⟩)] (mixF sh L) (L.getD 0 []).length w2 (by have := (check_ok_in (checks_ok HZ.out.symm 0 hp).2).2.2; omega) (enters_ Tryd.func53 (by kernel_rfl) rfl) HT)
            have HML : Aside0 (mixL sh L = outL (mixF sh L) (L.getD 0 []).length) := ⟨rfl⟩
            clear HT hb hcell0 hle0 hrow0
            generalize L.getD 0 [] = u at *
            go_wp2_with (fail)
            refine HEa.out.mono ?_
            rintro e w3 ⟨h1, h2, hb⟩
            have HB3 := Aside0.mk (below_step HB2.out hb)
            clear hcell hcl hb
            by_cases hz : errF (mixF sh L) u.length 0 = 0
            · obtain ⟨v, rfl, hr⟩ := h2 hz
              obtain ⟨A3, c3, rfl, hC3, hle3⟩ := own_slice_le hr
              have HC3 := Aside0.mk hC3
              have HLe := Aside0.mk hle3
              have HEz : Aside0 (mixE sh L = 0) := ⟨HE.out.trans hz⟩
              clear h1 h2 hr hz hC3 hle3
              go_wp2_with (fail)
              go_ret2
              exact ⟨fun h => absurd HEz.out h, fun _ => ⟨A3, c3, by rw [HML.out]; rfl, by rw [HML.out]; exact HC3.out, by rw [HML.out]; exact HLe.out⟩, HB3.out⟩
            · have he := h1 hz
              subst he
              have HEz := Aside0.mk hz
              clear h1 h2 hz
              go_wp2_with (fail)
              go_ret2
              exact ⟨fun _ => by rw [HE.out]; rfl, fun h => absurd (HE.out.symm.trans h) HEz.out, HB3.out⟩
        · have dz : (z != 0) = true := by simpa using hz0
          have HE : Aside0 (mixE sh L = z) := ⟨by rw [HM.out, ← hz, if_neg hz0]⟩
          have HNz := Aside0.mk hz0
          clear hz hz0 h3
          go_enter Tryd.func28, Tryd.ntmps28
          go_wp2_with (fail)
          generalize ((w.alloc (.cells #[.slice As sh.length cs] 22)).alloc (.cells #[.slice Al L.length cl] 44)) = w0 at *
          refine (checks_list_calls Al cl L w0 (Kd.C_below HL.out HB0.out)).mono ?_
          rw [← HZ.out]
          rintro e w1 ⟨rfl, hb⟩
          have HB1 := Aside0.mk (below_step HB0.out hb)
          clear hb
          go_wp2
          go_ret2
          exact ⟨fun _ => by rw [HE.out]; rfl, fun h => absurd (HE.out.symm.trans h) HNz.out, HB1.out⟩
      · have d3 : ((sh.length : Int) != (L.length : Int)) = true := by simp; omega
        have HE := hend (.inr (.inr h3))
        clear hend h1 h2 h3
        go_enter Tryd.func28, Tryd.ntmps28
        go_wp2
        go_ret2
        exact ⟨fun _ => by rw [HE.out]; rfl, fun h => absurd (HE.out.symm.trans h) (by decide), HB0.out⟩
end Go.Proofs.YtfameghednapkaaDoor.Ten
