/- StoreOwn: the law's walk. -/
import Derived.Test.YtpndobhakmjglaaDoorStoreAllOB
import Derived.Test.YtpndobhakmjglaaDoorStorePAppB
import Derived.Test.YtpndobhakmjglaaDoorBunS4
namespace Go.Proofs.YtpndobhakmjglaaDoor.Store
open Go.RowKit Go.Proofs.YtpndobhakmjglaaDoorW.PrintWords Go.Proofs.YtpndobhakmjglaaDoorW.PrintLast Go.Proofs.YtpndobhakmjglaaDoorW.PrintMore Go.Proofs.YtpndobhakmjglaaDoor.K Go.Proofs.YtpndobhakmjglaaDoor.Sha Go.Proofs.YtpndobhakmjglaaDoor.RangeAll
set_option linter.unusedVariables false
set_option linter.unusedSimpArgs false
attribute [local go_sem] Oper.semAt_some
/-- Append of a row of one's own that is written afterwards. -/
theorem append_own {w0 w : World} {B g : Nat} {vl vm vb : Value} {rs : List (List Int)} {mk bs : List Int} (A : Option Addr) (c : Nat) (r : List Int) (h : StAt w0 B g vl vm vb rs mk bs) (hw : Below w0.heap.size w0 w) (hR : kB.R 5 w w0.heap.size (fun _ => True) (.slice A r.length c) r) (hB : B ≤ w0.heap.size) (hby : ∀ x ∈ r, 0 ≤ x ∧ x < 256) (hmb : ∀ x ∈ mk, 0 ≤ x ∧ x < 256) (hml : mk.length ≤ 16) (hn : r.length ≤ 1048576) (hrs : rs.length ≤ 1000000) (hbs : bs.length ≤ 100000000)
    (hLf : LaidAt w 0 firstA) (hL : LaidAt w 1 constA) :
    Calls Tryd.prog 21 #[.pointer (some ⟨g, 0, none⟩), .slice A r.length c] w fun e w' => e = .returned (.int .i64 0) ∧ (∃ v1 m1 b1, StoreP.StP (fun k => some k ≠ (Value.slice A r.length c).ownBlock) w' B g v1 m1 b1 (rs ++ [r]) (sealV mk r) (bs ++ joinL [r, sealV mk r])) ∧ kB.R 5 w' w0.heap.size (fun _ => True) (.slice A r.length c) r ∧ Below B w0 w' := by
  have hlt : ∀ k, (Value.slice A r.length c).ownBlock = some k → w0.heap.size ≤ k ∧ k < w.heap.size := fun k hk => ⟨((Kd.R_bound hR).1 k hk).2.1, ((Kd.R_bound hR).1 k hk).2.2.1⟩
  have hst : StoreP.StP (fun k => some k ≠ (Value.slice A r.length c).ownBlock) w B g vl vm vb rs mk bs := (StoreP.of_StAt h (fun k hk e => by have := (hlt k e.symm).1; omega)).below hw
  have hkeep : ∀ W, Kept w W (Touch g vl vb) → kB.R 5 W w0.heap.size (fun _ => True) (.slice A r.length c) r := fun W hk =>
    Kd.R_mono (Kd.R_kept (Kd.R_tight rfl hR) hk (fun k hk2 h3 => by have h4 := (hlt k hk2.symm).1; have h5 := (Touch.old h k h3).2; omega)) (fun _ _ => trivial)
  refine (StoreP.append_calls (fun k hk e => by have := (hlt k e.symm).2; omega) A r.length c r hst (Nat.le_trans hB hw.size) (fun W hk => (Kd.R_reads' (hkeep W hk)).2.2) (Kd.R_reads' hR).2.1 hby hmb hml hn hrs hbs hLf hL).mono ?_
  rintro e w' ⟨he, hS, hb, hk⟩
  exact ⟨he, hS, hkeep _ hk, (Below.mono hw hB).trans hb⟩
theorem get_any {w : World} {B g : Nat} {vl vm vb : Value} {rs : List (List Int)} {mk bs : List Int} (i : Int) (h : StAt w B g vl vm vb rs mk bs) (hl : ∀ r ∈ rs, r.length ≤ 100000000) : Calls Tryd.prog 22 #[.pointer (some ⟨g, 0, none⟩), .int .i64 i] w fun e w' => ∃ A n c er, e = .returned (.tuple #[.slice A n c, .int .i64 er]) ∧ n ≤ 9223372036854775807 ∧ (∃ xs, xs.length = n ∧ kB.R 5 w' w.heap.size (fun _ => True) (.slice A n c) xs) ∧ Below w.heap.size w w' := by
  by_cases hi : i < 0 ∨ (rs.length : Int) ≤ i
  · refine (get_none i h hi).mono ?_
    rintro e w' ⟨rfl, rfl⟩
    exact ⟨none, 0, 0, 10, rfl, by decide, ⟨[], rfl, Kd.R_nil _ _ _ _ _⟩, Below.refl _ _⟩
  · obtain ⟨k, rfl⟩ : ∃ k : Nat, i = (k : Int) := ⟨i.toNat, by omega⟩
    have hk : k < rs.length := by omega
    refine (get_some k h hk (by rw [List.getD_eq_getElem?_getD, List.getElem?_eq_getElem hk]; exact hl _ (List.getElem_mem hk))).mono ?_
    rintro e w' ⟨v, rfl, hR, hb⟩
    obtain ⟨A, c, rfl⟩ := Kd.R_slice hR
    exact ⟨A, _, c, 0, rfl, (Kd.R_reads' hR).2.2.2.1, ⟨_, rfl, hR⟩, hb⟩
/-- Between two rounds of the own loop over all. -/
def BI (wA : World) (_ : Nat) (W : World) : Prop := Below wA.heap.size wA W
theorem BI_own (wA : World) (B : Nat) (hB : wA.heap.size ≤ B) : OwnFrom B (BI wA) := fun k W W' row h hg hr =>
  ⟨hg.os.trans h.os, hg.tape.trans h.tape, hg.output.trans h.output, Nat.le_trans h.size hg.size, fun i hi => (hg.block i (by have := h.size; omega) (fun e => by have := (hr i e.symm).1; omega)).trans (h.block i hi)⟩
theorem keeps_grown {B : Nat} {W W' : World} {base : Nat} {v : Value} {xs : List Int} (hR : kB.R 5 W base (fun _ => True) v xs) (hg : W.grownBy W' v.ownBlock) : KeepsFrom B W W' :=
  ⟨hg.size, fun k o _ hk ho => (hg.block k (Array.getElem?_eq_some_iff.1 hk).1 (fun e => by
    obtain ⟨cells, hc⟩ := own_obj hR k e.symm
    rw [hk] at hc
    cases hc
    simp [Obj.isCells] at ho)).trans hk⟩
theorem make_long : ∃ (M : Nat) (cells : Array Value), 1048576 < M ∧ M ≤ 9223372036854775807 ∧ ∀ W : World, (Instr.makeSlice 22 (.int .i64 1048577) (.int .i64 1048577)).run Tryd.prog W = .ok (.slice (some ⟨W.heap.size, 0, none⟩) M M) (W.alloc (.cells cells 5)) :=
  ⟨1048577, _, by decide, by decide, print_make (P := Tryd.prog) 22 5 .u8 1 Tryd.underlying22 info_u8 (by decide) 1048577 (by decide)⟩
theorem Gives.none {F : Fence} {n : Nat} {P : Program} {gf : Nat} {lb : Array Value} {R : World → Prop} {G : Nat → Array Value → World → Prop} {w : World} (h : Gives F n P gf lb 0 R G w) : Gives F n P gf lb 0 R (fun _ _ _ => False) w :=
  fun l J W a b c _ e => h l J W a b c (fun k args W1 _ hk => absurd hk (Nat.not_lt_zero _)) e
set_option maxHeartbeats 100000000 in
set_option maxRecDepth 100000 in
theorem own_calls (A : Option Addr) (c : Nat) (l : List (List Int)) (at_ : Int) (w : World) (hC : Kd.C (Kd.slice 5 (Kd.int .u8)) w A l.length l) (hby : ∀ r ∈ l, ∀ x ∈ r, 0 ≤ x ∧ x < 256)
    (hLf : LaidAt w 0 firstA) (hL : LaidAt w 1 constA) :
    Calls Tryd.prog 8 #[.slice A l.length c, .int .i64 at_] w fun e w' => e = .returned (.bool true) ∧ Below w.heap.size w w' := by
  have HLf := Aside0.mk hLf
  have HL := Aside0.mk hL
  have HC := Aside0.mk hC
  have HBy := Aside0.mk hby
  have HAw : Aside0 (∀ W, Below w.heap.size w W → Calls Tryd.prog 9 #[] W fun e w' => e = .returned (.bool true) ∧ Below W.heap.size W w') := ⟨fun W hb => awake_calls W (HLf.out.below hb) (HL.out.below hb)⟩
  have HB0 : Aside0 (Below w.heap.size w (w.alloc (.cells #[.bool false] 4))) := ⟨bel_alloc (Below.refl _ _) _⟩
  have HX0 : Aside0 ((w.alloc (.cells #[.bool false] 4)).heap[w.heap.size]? = some (.cells #[.bool false] 4 (0, 0))) := ⟨heap_alloc_new _ _⟩
  have HCw : Aside0 (Kd.C (Kd.slice 5 (Kd.int .u8)) (w.alloc (.cells #[.bool false] 4)) A l.length l) := ⟨Kd.C_below HC.out HB0.out⟩
  clear hLf hL hC hby
  refine calls_marks Tryd.func8 rfl ?_
  simp only [Tryd.ntmps8, List.size_toArray, List.length_cons, List.length_nil, Nat.reduceAdd, Nat.reduceSub, Array.replicate_succ, Array.replicate_zero, List.push_toArray, List.append_toArray, List.nil_append, List.cons_append]
  go_wp2_with (fail)
  generalize w.alloc (.cells #[.bool false] 4) = w0 at *
  refine (few_calls A c l w0 HCw.out).mono ?_
  rintro e w1 ⟨b1, rfl, hF1, hd1⟩
  have HB1 : Aside0 (Below w.heap.size w w1) := ⟨HB0.out.trans (Below.mono hd1.below HB0.out.size)⟩
  have HX1 : Aside0 (w1.heap[w.heap.size]? = some (.cells #[.bool false] 4 (0, 0))) := ⟨(hd1.below.block _ (blk_lt HX0.out)).trans HX0.out⟩
  have HF1 := Aside0.mk hF1
  clear hd1 hF1 HX0
  cases b1 with
  | false =>
    go_wp2_with (fail)
    refine (HAw.out w1 HB1.out).mono ?_
    rintro e wz ⟨rfl, hb⟩
    have HBz := Aside0.mk (below_step HB1.out hb)
    have HXz : Aside0 (wz.heap[w.heap.size]? = some (.cells #[.bool false] 4 (0, 0))) := ⟨(hb.block _ (blk_lt HX1.out)).trans HX1.out⟩
    have x4 : wz.cell? ⟨w.heap.size, 0, none⟩ = some (.bool false) := blk_cell HXz.out 0
    have f4 : wz.frozen? ⟨w.heap.size, 0, none⟩ = false := blk_frozen HXz.out 0
    clear hb
    go_wp2_with (fail)
    have hlv := run_loadVar_b (P := Tryd.prog) 4 Tryd.underlying4 (blk_cell (blk_set HXz.out 0 (.bool true)) 0)
    exact ⟨_, results_c1 Tryd.results8 _ _ _ ⟨w.heap.size, 0, none⟩ (.bool true) rfl hlv, rfl, HBz.out.setCell (Nat.le_refl _) _⟩
  | true =>
    replace HF1 := Aside0.mk (show Few l from by first | exact HF1.out rfl | exact HF1.out trivial)
    go_wp2_with (fail)
    refine (new_calls w1).mono ?_
    rintro e w2 ⟨g, rfl, hS, hb⟩
    have HS := Aside0.mk hS
    have HB2 := Aside0.mk hb
    have hl12 := HF1.out.2
    clear hS hb
    go_wp2_with (fail)
    go_loopw [6] (fun v6 wr => ∃ k : Nat, k ≤ l.length ∧ v6 = .int .i64 (k : Int) ∧ Aside0 (Made wr w1.heap.size g (l.take k) ∧ Below w1.heap.size w1 wr)) (fun v6 _ => l.length - (intOf v6).toNat)
    case atStart => exact ⟨0, Nat.zero_le _, rfl, ⟨⟨_, _, _, HS.out⟩, HB2.out⟩⟩
    case round =>
      obtain ⟨k, hk, rfl, HM⟩ := hrel
      clear HS HB2
      by_cases hlt : k < l.length
      · obtain ⟨⟨vl, vm, vb, hS⟩, hBr⟩ := HM.out
        have HS := Aside0.mk hS
        have HBr := Aside0.mk hBr
        have HB2 : Aside0 (Below w.heap.size w wr) := ⟨below_step HB1.out HBr.out⟩
        obtain ⟨ad, A1, c1, rfl, hx, hl1, hr1⟩ := row_at' HC.out HB2.out k hlt
        have HR1 := Aside0.mk (Kd.C_below hr1 HB2.out)
        have hwk : IntKind.i64.wrap ((k : Int) + 1) = (k : Int) + 1 := by rw [IntKind.wrap_i64]; omega
        have HG : Aside0 (l.getD k [] ∈ l) := ⟨by rw [List.getD_eq_getElem?_getD, List.getElem?_eq_getElem hlt]; exact List.getElem_mem hlt⟩
        have HLr : Aside0 ((l.getD k []).length ≤ 200) := ⟨HF1.out.1 _ HG.out⟩
        have HBr1 := Aside0.mk (HBy.out _ HG.out)
        have HSt : Aside0 (∀ W v1 m1 b1, StAt W w1.heap.size g v1 m1 b1 (l.take k ++ [l.getD k []]) (sealV (markV [] (l.take k)) (l.getD k [])) (storeB [] (l.take k) ++ joinL [l.getD k [], sealV (markV [] (l.take k)) (l.getD k [])]) → Made W w1.heap.size g (l.take (k + 1))) := ⟨fun W v1 m1 b1 h => made_step hlt h⟩
        clear hS hl1 hr1 HM hBr HG
        generalize l.getD k [] = x at *
        generalize wr = wo at *
        go_wp2_with (at_builtin; refine Kd.R_append_rows kB (w0 := wo) (W := wo) wo.heap.size rfl (.tmp 36) (.tmp 40) 22 5 (.int .u8 0) 1 rfl Tryd.underlying22 info_u8 rfl (by decide) (by decide) (.slice none 0 0) [] x A1 x.length c1 (fun _ => True) (fun _ => False) rfl rfl (Kd.R_nil _ _ _ _ _) HR1.out (fun _ _ h => h) (fun _ h => h.elim) (fun _ _ => trivial) (Below.refl _ _) (Nat.le_refl _) (by have := HLr.out; simp; omega) ?_; intro vo w2 ho hb hg hat; obtain ⟨Ao, co, rfl⟩ := Kd.R_slice ho; have HO := Aside0.mk (show kB.R 5 w2 wo.heap.size (fun _ => True) (.slice Ao x.length co) x from ho); have HB3 := Aside0.mk hb; clear ho hb hg hat)
        have HAp := Aside0.mk (append_own Ao co x HS.out HB3.out HO.out HBr.out.size HBr1.out (markV_byte _ _ (fun x hx => by cases hx)) (markV_le _ _ (by decide)) (by have := HLr.out; omega) (by rw [List.length_take]; omega) (by have := few_bytes (few_take k HF1.out); omega) (HLf.out.below (below_step HB2.out HB3.out)) (HL.out.below (below_step HB2.out HB3.out)))
        refine HAp.out.mono ?_
        rintro e w3 ⟨rfl, ⟨v1, m1, b1, hSP⟩, hRo, hb⟩
        have HSP := Aside0.mk hSP
        have HIn : Aside0 (IncS w3 wo.heap.size (.slice Ao x.length co) x.length w3) := ⟨IncS.start hRo rfl⟩
        have HB4 : Aside0 (Below w1.heap.size w1 w3 ∧ wo.heap.size ≤ w3.heap.size) := ⟨HBr.out.trans hb, hb.size⟩
        have HLt : Aside0 (∀ j, (Value.slice Ao x.length co).ownBlock = some j → wo.heap.size ≤ j) := ⟨fun j hj => ((Kd.R_bound hRo).1 j hj).2.1⟩
        clear hSP hRo hb HAp HO
        go_wp2_with (fail)
        go_loopw [8] (fun v8 wr => ∃ j : Nat, j ≤ x.length ∧ v8 = .int .i64 (j : Int) ∧ Aside0 (IncS w3 wo.heap.size (.slice Ao x.length co) x.length wr)) (fun v8 _ => x.length - (intOf v8).toNat)
        case atStart => exact ⟨0, Nat.zero_le _, rfl, HIn⟩
        case round =>
          obtain ⟨j, hj, rfl, HI⟩ := hrel
          by_cases hlt2 : j < x.length
          · obtain ⟨gu, hA, q, hcq, hfq, hst⟩ := HI.out.step j hlt2
            have HSt2 := Aside0.mk hst
            have hwj : IntKind.i64.wrap ((j : Int) + 1) = (j : Int) + 1 := by have := HLr.out; rw [IntKind.wrap_i64]; omega
            subst hA
            clear hst
            go_wp2
            go_roundw
            case rel => exact ⟨j + 1, by omega, by go_num, ⟨HSt2.out _⟩⟩
            case measure => simp [intOf]; omega
          · obtain rfl : j = x.length := by omega
            obtain ⟨ys, hys, hR, hG⟩ := HI.out
            have HM5 : Aside0 (Made wr w1.heap.size g (l.take (k + 1))) := ⟨HSt.out _ _ _ _ (HSP.out.row_grown (fun e => by have h1 := HLt.out g e.symm; have h2 := blk_lt HS.out.2.1; omega) hG).st⟩
            have HB5 : Aside0 (Below w1.heap.size w1 wr) := ⟨HB4.out.1.grown hG (HB4.out.1.size) (fun j hj => Nat.le_trans HBr.out.size (HLt.out j hj))⟩
            clear hys hR hG hlt2 hj
            go_wp2_with (fail)
            go_roundw
            case rel => exact ⟨k + 1, by omega, by go_num, ⟨HM5.out, HB5.out⟩⟩
            case measure => simp [intOf]; omega
      · obtain rfl : k = l.length := by omega
        obtain ⟨hM, hBr⟩ := HM.out
        rw [List.take_length] at hM
        have HM1 := Aside0.mk hM
        have HBr := Aside0.mk hBr
        have HB2 : Aside0 (Below w.heap.size w wr) := ⟨below_step HB1.out HBr.out⟩
        have HLl := Aside0.mk (few_bytes HF1.out)
        clear hM hBr HM hk hlt
        generalize wr = wa at *
        obtain ⟨vl, vm, vb, hS⟩ := HM1.out
        have HBy3 := Aside0.mk (bytes_calls hS (by have := HLl.out; omega))
        have HXa : Aside0 (wa.heap[w.heap.size]? = some (.cells #[.bool false] 4 (0, 0))) := ⟨(HBr.out.block _ (blk_lt HX1.out)).trans HX1.out⟩
        clear hS
        go_wp2_with (fail)
        refine HBy3.out.mono ?_
        rintro e w3 ⟨v, rfl, hR, hb⟩
        obtain ⟨Ab, cb, rfl⟩ := Kd.R_slice hR
        obtain ⟨nb, hnb⟩ : ∃ nb, nb = (storeB [] l).length := ⟨_, rfl⟩
        have HNb : Aside0 (nb ≤ 2688) := ⟨by rw [hnb]; exact HLl.out⟩
        have HIn : Aside0 (IncS w3 wa.heap.size (.slice Ab nb cb) nb w3) := ⟨by rw [hnb]; exact IncS.start hR rfl⟩
        have HB3 := Aside0.mk hb
        rw [← hnb]
        clear hR hb HBy3 hnb
        go_wp2_with (fail)
        go_loopw [10] (fun v10 wr => ∃ j : Nat, j ≤ nb ∧ v10 = .int .i64 (j : Int) ∧ Aside0 (IncS w3 wa.heap.size (.slice Ab nb cb) nb wr)) (fun v10 _ => nb - (intOf v10).toNat)
        case atStart => exact ⟨0, Nat.zero_le _, rfl, HIn⟩
        case round =>
          obtain ⟨j, hj, rfl, HI⟩ := hrel
          by_cases hlt2 : j < nb
          · obtain ⟨gu, hA, q, hcq, hfq, hst⟩ := HI.out.step j hlt2
            have HSt2 := Aside0.mk hst
            have hwj : IntKind.i64.wrap ((j : Int) + 1) = (j : Int) + 1 := by have := HNb.out; rw [IntKind.wrap_i64]; omega
            subst hA
            clear hst
            go_wp2
            go_roundw
            case rel => exact ⟨j + 1, by omega, by go_num, ⟨HSt2.out _⟩⟩
            case measure => simp [intOf]; omega
          · obtain rfl : nb = j := by omega
            have HBc : Aside0 (Below wa.heap.size wa wr) := ⟨HB3.out.trans (HI.out.below HB3.out.size)⟩
            have HMc : Aside0 (Made wr w1.heap.size g l) := ⟨HM1.out.below HBc.out⟩
            have HB4 : Aside0 (Below w.heap.size w wr) := ⟨below_step HB2.out HBc.out⟩
            have HXc : Aside0 (wr.heap[w.heap.size]? = some (.cells #[.bool false] 4 (0, 0))) := ⟨(HBc.out.block _ (blk_lt HXa.out)).trans HXa.out⟩
            clear HI hlt2 hj HBc HIn
            generalize wr = wc at *
            obtain ⟨vl2, vm2, vb2, hS2⟩ := HMc.out
            have HGt := Aside0.mk (get_any at_ hS2 (fun r hr => by have := HF1.out.1 r hr; omega))
            clear hS2
            go_wp2_with (fail)
            refine HGt.out.mono ?_
            rintro e w4 ⟨Ag, ng, cg, er, rfl, hng, ⟨xs, hxs, hR⟩, hb⟩
            have HIn : Aside0 (IncS w4 wc.heap.size (.slice Ag ng cg) ng w4) := ⟨IncS.start hR hxs⟩
            have HB5 := Aside0.mk hb
            clear hR hb hxs HGt
            go_wp2_with (fail)
            go_loopw [13] (fun v13 wr => ∃ j : Nat, j ≤ ng ∧ v13 = .int .i64 (j : Int) ∧ Aside0 (IncS w4 wc.heap.size (.slice Ag ng cg) ng wr)) (fun v13 _ => ng - (intOf v13).toNat)
            case atStart => exact ⟨0, Nat.zero_le _, rfl, HIn⟩
            case round =>
              obtain ⟨j, hj, rfl, HI⟩ := hrel
              by_cases hlt2 : j < ng
              · obtain ⟨gu, hA, q, hcq, hfq, hst⟩ := HI.out.step j hlt2
                have HSt2 := Aside0.mk hst
                have hwj : IntKind.i64.wrap ((j : Int) + 1) = (j : Int) + 1 := by rw [IntKind.wrap_i64]; omega
                subst hA
                clear hst
                go_wp2
                go_roundw
                case rel => exact ⟨j + 1, by omega, by go_num, ⟨HSt2.out _⟩⟩
                case measure => simp [intOf]; omega
              · obtain rfl : ng = j := by omega
                have HBd : Aside0 (Below wc.heap.size wc wr) := ⟨HB5.out.trans (HI.out.below HB5.out.size)⟩
                have HMd : Aside0 (Made wr w1.heap.size g l) := ⟨HMc.out.below HBd.out⟩
                have HB6 : Aside0 (Below w.heap.size w wr) := ⟨below_step HB4.out HBd.out⟩
                have HXd : Aside0 (wr.heap[w.heap.size]? = some (.cells #[.bool false] 4 (0, 0))) := ⟨(HBd.out.block _ (blk_lt HXc.out)).trans HXc.out⟩
                clear HI hlt2 hj HBd HIn hng
                generalize wr = wd at *
                obtain ⟨vl3, vm3, vb3, hS3⟩ := HMd.out
                have HAl := Aside0.mk (all_calls hS3 (by omega))
                clear hS3
                go_wp2_with (fail)
                refine HAl.out.mono ?_
                rintro e w5 hE
                obtain ⟨b5, A5, c5, rfl, hb5, hb5s, hC5, hbw⟩ := hE
                have HRA : Aside0 (RowsAt b5 A5 c5 l w5) := ⟨hb5, hC5⟩
                have HB7 := Aside0.mk (below_step HB6.out hbw)
                have HMe : Aside0 (Made w5 w1.heap.size g l) := ⟨HMd.out.below hbw⟩
                have HXe : Aside0 (w5.heap[w.heap.size]? = some (.cells #[.bool false] 4 (0, 0))) := ⟨(hbw.block _ (blk_lt HXd.out)).trans HXd.out⟩
                have hnf := run_eql_func_nil (P := Tryd.prog) w5 48 (.func 33) #[] #[.pointer (some ⟨b5, 0, none⟩)] Tryd.underlying48 ⟨_, _, _, rfl⟩
                clear hb5 hb5s hC5 hbw HAl
                go_wp2_with (fail)
                clear hnf
                refine (wpIn_wide (n := 5)).1 (range_all (N := l.length) (R := fun W => RowsAt b5 A5 c5 l W ∧ w5.heap.size ≤ W.heap.size) (G := RowOwn w5.heap.size l) rfl (by decide) (gf := 33) (lb := #[.pointer (some ⟨b5, 0, none⟩)]) rfl trivial (enters_of Tryd.func33 (by kernel_rfl) rfl)
                  (all1_own Fence.wide 4 trivial trivial (fun A m c xs W hC hm => callsIn_wide.2 (Clone.clone_calls A m c xs W hC (by omega))) rfl (by decide) b5 A5 c5 l (fun r hr => by have := HF1.out.1 r hr; omega) w5.heap.size _)
                  (BI w5) (BI_own w5 _ (Nat.le_refl _)) (fun args => rowOwn_own _ l _ args) (fun k W h => ⟨⟨(h.block _ (blk_lt HRA.out.1)).trans HRA.out.1, Kd.C_below HRA.out.2 h⟩, h.size⟩) (Below.refl _ _) (fun k args W h => by obtain ⟨_, _, rfl, _⟩ := h; rfl)
                  (fun args => ({ tmps := (Value.slice A l.length c :: Value.int .i64 at_ :: undef :: undef :: Value.pointer (some ⟨w.heap.size, 0, none⟩) :: Value.pointer (some ⟨g, 0, none⟩) :: Value.int .i64 (l.length : Int) :: u7 :: u8 :: Value.slice Ab nb cb :: Value.int .i64 (nb : Int) :: Value.slice Ag ng cg :: Value.int .i64 er :: Value.int .i64 (ng : Int) :: Value.func (.func 33) #[] #[.pointer (some ⟨b5, 0, none⟩)] :: undef :: args.getD 1 undef :: undef :: undef :: undef :: undef :: undef :: undef :: Value.slice A l.length c :: Value.bool true :: Value.bool false :: undef :: Value.pointer (some ⟨g, 0, none⟩) :: Value.pointer (some ⟨g, 0, none⟩) :: Value.bool false :: Value.int .i64 (l.length : Int) :: Value.slice A l.length c :: Value.int .i64 (l.length : Int) :: Value.bool false :: u34 :: u35 :: u36 :: u37 :: u38 :: u39 :: u40 :: u41 :: u42 :: u43 :: u44 :: u45 :: u46 :: u47 :: u48 :: u49 :: u50 :: u51 :: u52 :: u53 :: u54 :: u55 :: u56 :: u57 :: u58 :: u59 :: Value.pointer (some ⟨g, 0, none⟩) :: Value.slice Ab nb cb :: Value.int .i64 (nb : Int) :: Value.slice Ab nb cb :: Value.int .i64 (nb : Int) :: Value.bool false :: u66 :: u67 :: u68 :: u69 :: u70 :: u71 :: u72 :: u73 :: u74 :: u75 :: Value.tuple #[Value.slice Ag ng cg, Value.int .i64 er] :: Value.pointer (some ⟨g, 0, none⟩) :: Value.int .i64 at_ :: Value.tuple #[Value.slice Ag ng cg, Value.int .i64 er] :: Value.slice Ag ng cg :: Value.int .i64 er :: Value.int .i64 (ng : Int) :: Value.slice Ag ng cg :: Value.int .i64 (ng : Int) :: Value.bool false :: u86 :: u87 :: u88 :: u89 :: u90 :: u91 :: u92 :: u93 :: u94 :: u95 :: Value.pointer (some ⟨g, 0, none⟩) :: Value.func (.func 33) #[] #[.pointer (some ⟨b5, 0, none⟩)] :: Value.func (.func 33) #[] #[.pointer (some ⟨b5, 0, none⟩)] :: Value.bool false :: Value.func (.func 33) #[] #[.pointer (some ⟨b5, 0, none⟩)] :: args.getD 0 undef :: args.getD 1 undef :: undef :: undef :: undef :: undef :: undef :: undef :: undef :: undef :: undef :: undef :: undef :: undef :: undef :: undef :: undef :: undef :: undef :: undef :: undef :: undef :: undef :: undef :: undef :: undef :: undef :: undef :: undef :: undef :: undef :: undef :: undef :: undef :: undef :: undef :: undef :: undef :: undef :: undef :: undef :: undef :: undef :: undef :: undef :: undef :: undef :: undef :: undef :: undef :: undef :: undef :: undef :: undef :: undef :: undef :: undef :: undef :: undef :: undef :: []).toArray, defers := [] } : Act)) ?assign ?body ?done)
                case assign =>
                  rintro L k args W K ⟨A1, c1, rfl, _⟩ hK
                  gi_wp2
                  exact hK
                case body =>
                  rintro L k args W hI ⟨A1, c1, rfl, hR⟩ hk
                  have HIw := Aside0.mk hI
                  have HR := Aside0.mk hR
                  have HIn := Aside0.mk (IncS.start hR rfl)
                  have HLr : Aside0 ((l.getD k []).length ≤ 200) := ⟨HF1.out.1 _ (by rw [List.getD_eq_getElem?_getD, List.getElem?_eq_getElem hk]; exact List.getElem_mem hk)⟩
                  clear hI hR
                  generalize l.getD k [] = x at *
                  generalize x.length = n at *
                  show Code.wpIn _ _ _ _ _ ({ tmps := (Value.slice A l.length c :: Value.int .i64 at_ :: undef :: undef :: Value.pointer (some ⟨w.heap.size, 0, none⟩) :: Value.pointer (some ⟨g, 0, none⟩) :: Value.int .i64 (l.length : Int) :: u7 :: u8 :: Value.slice Ab nb cb :: Value.int .i64 (nb : Int) :: Value.slice Ag ng cg :: Value.int .i64 er :: Value.int .i64 (ng : Int) :: Value.func (.func 33) #[] #[.pointer (some ⟨b5, 0, none⟩)] :: undef :: Value.slice A1 n c1 :: undef :: undef :: undef :: undef :: undef :: undef :: Value.slice A l.length c :: Value.bool true :: Value.bool false :: undef :: Value.pointer (some ⟨g, 0, none⟩) :: Value.pointer (some ⟨g, 0, none⟩) :: Value.bool false :: Value.int .i64 (l.length : Int) :: Value.slice A l.length c :: Value.int .i64 (l.length : Int) :: Value.bool false :: u34 :: u35 :: u36 :: u37 :: u38 :: u39 :: u40 :: u41 :: u42 :: u43 :: u44 :: u45 :: u46 :: u47 :: u48 :: u49 :: u50 :: u51 :: u52 :: u53 :: u54 :: u55 :: u56 :: u57 :: u58 :: u59 :: Value.pointer (some ⟨g, 0, none⟩) :: Value.slice Ab nb cb :: Value.int .i64 (nb : Int) :: Value.slice Ab nb cb :: Value.int .i64 (nb : Int) :: Value.bool false :: u66 :: u67 :: u68 :: u69 :: u70 :: u71 :: u72 :: u73 :: u74 :: u75 :: Value.tuple #[Value.slice Ag ng cg, Value.int .i64 er] :: Value.pointer (some ⟨g, 0, none⟩) :: Value.int .i64 at_ :: Value.tuple #[Value.slice Ag ng cg, Value.int .i64 er] :: Value.slice Ag ng cg :: Value.int .i64 er :: Value.int .i64 (ng : Int) :: Value.slice Ag ng cg :: Value.int .i64 (ng : Int) :: Value.bool false :: u86 :: u87 :: u88 :: u89 :: u90 :: u91 :: u92 :: u93 :: u94 :: u95 :: Value.pointer (some ⟨g, 0, none⟩) :: Value.func (.func 33) #[] #[.pointer (some ⟨b5, 0, none⟩)] :: Value.func (.func 33) #[] #[.pointer (some ⟨b5, 0, none⟩)] :: Value.bool false :: Value.func (.func 33) #[] #[.pointer (some ⟨b5, 0, none⟩)] :: Value.int .i64 (k : Int) :: Value.slice A1 n c1 :: undef :: undef :: undef :: undef :: undef :: undef :: undef :: undef :: undef :: undef :: undef :: undef :: undef :: undef :: undef :: undef :: undef :: undef :: undef :: undef :: undef :: undef :: undef :: undef :: undef :: undef :: undef :: undef :: undef :: undef :: undef :: undef :: undef :: undef :: undef :: undef :: undef :: undef :: undef :: undef :: undef :: undef :: undef :: undef :: undef :: undef :: undef :: undef :: undef :: undef :: undef :: undef :: undef :: undef :: undef :: undef :: undef :: undef :: []).toArray, defers := [] } : Act) W
                  gi_wp2
                  gi_loopw [17] (fun v17 wr => ∃ j : Nat, j ≤ n ∧ v17 = .int .i64 (j : Int) ∧ Aside0 (IncS W w5.heap.size (.slice A1 n c1) n wr)) (fun v17 _ => n - (intOf v17).toNat)
                  case atStart => exact ⟨0, Nat.zero_le _, rfl, HIn⟩
                  case round =>
                    obtain ⟨j, hj, rfl, HI⟩ := hrel
                    by_cases hlt2 : j < n
                    · obtain ⟨gu, hA, q, hcq, hfq, hst⟩ := HI.out.step j hlt2
                      have HSt2 := Aside0.mk hst
                      have hwj : IntKind.i64.wrap ((j : Int) + 1) = (j : Int) + 1 := by have := HLr.out; rw [IntKind.wrap_i64]; omega
                      subst hA
                      clear hst
                      gi_wp2
                      go_roundw
                      case rel => exact ⟨j + 1, by omega, by go_num, ⟨HSt2.out _⟩⟩
                      case measure => simp [intOf]; omega
                    · obtain rfl : n = j := by omega
                      gi_wp2
                      exact ⟨keeps_grown HR.out (by obtain ⟨_, _, _, hG⟩ := HI.out; exact hG), Below.trans (show Below w5.heap.size w5 W from HIw.out) (HI.out.below HIw.out.size)⟩
                case done =>
                  intro D W hD hI hDf
                  have HD := Aside0.mk hD
                  have HBi : Aside0 (Below w5.heap.size w5 W) := ⟨hI⟩
                  have HDf := Aside0.mk hDf
                  have HB8 : Aside0 (Below w.heap.size w W) := ⟨below_step HB7.out HBi.out⟩
                  have HMf : Aside0 (Made W w1.heap.size g l) := ⟨HMe.out.below HBi.out⟩
                  have HXf : Aside0 (W.heap[w.heap.size]? = some (.cells #[.bool false] 4 (0, 0))) := ⟨(HBi.out.block _ (blk_lt HXe.out)).trans HXe.out⟩
                  clear hD hI hDf
                  dsimp only
                  obtain ⟨M, cells, hM1, hM2, hmk⟩ := make_long
                  go_wp2_with (fail)
                  have HMg := Aside0.mk (And.intro HMf.out (And.intro HXf.out HDf.out))
                  have HBa : Aside0 (Below W.heap.size W (W.alloc (.cells cells 5))) := ⟨bel_alloc (Below.refl _ _) _⟩
                  refine (append_long (g := g) (some ⟨W.heap.size, 0, none⟩) M M (W.alloc (.cells cells 5)) hM2 hM1).mono ?_
                  rintro e w' ⟨rfl, rfl⟩
                  have HB9 := Aside0.mk (below_step HB8.out HBa.out)
                  have HMg : Aside0 (Made (W.alloc (.cells cells 5)) w1.heap.size g l) := ⟨HMf.out.below HBa.out⟩
                  have HXg : Aside0 ((W.alloc (.cells cells 5)).heap[w.heap.size]? = some (.cells #[.bool false] 4 (0, 0))) := ⟨(HBa.out.block _ (blk_lt HXf.out)).trans HXf.out⟩
                  have HDg : Aside0 ((W.alloc (.cells cells 5)).heap[D]? = some (.deferred (some []))) := ⟨(HBa.out.block _ (Array.getElem?_eq_some_iff.1 HDf.out).1).trans HDf.out⟩
                  clear hmk HMf HXf HDf HBi HBa
                  generalize W.alloc (.cells cells 5) = w6 at *
                  go_wp2_with (fail)
                  refine (get_nil at_ w6).mono ?_
                  rintro e w' ⟨rfl, rfl⟩
                  go_wp2_with (fail)
                  refine (all_nil w6).mono ?_
                  rintro e w7 hE
                  obtain ⟨b6, A6, c6, rfl, hb6, hb6s, hC6, hbw⟩ := hE
                  have HRB : Aside0 (RowsAt b6 A6 c6 [] w7) := ⟨hb6, hC6⟩
                  have HB10 := Aside0.mk (below_step HB9.out hbw)
                  have HMh : Aside0 (Made w7 w1.heap.size g l) := ⟨HMg.out.below hbw⟩
                  have HXh : Aside0 (w7.heap[w.heap.size]? = some (.cells #[.bool false] 4 (0, 0))) := ⟨(hbw.block _ (blk_lt HXg.out)).trans HXg.out⟩
                  have HDh : Aside0 (w7.heap[D]? = some (.deferred (some []))) := ⟨(hbw.block _ (Array.getElem?_eq_some_iff.1 HDg.out).1).trans HDg.out⟩
                  have hnf := run_eql_func_nil (P := Tryd.prog) w7 48 (.func 33) #[] #[.pointer (some ⟨b6, 0, none⟩)] Tryd.underlying48 ⟨_, _, _, rfl⟩
                  clear hb6 hb6s hC6 hbw HMg HXg HDg
                  go_wp2_with (fail)
                  clear hnf
                  refine (wpIn_wide (n := 5)).1 (range_all (N := 0) (R := fun W => RowsAt b6 A6 c6 [] W ∧ w7.heap.size ≤ W.heap.size) (G := fun _ _ _ => False) rfl (by decide) (gf := 33) (lb := #[.pointer (some ⟨b6, 0, none⟩)]) rfl trivial (enters_of Tryd.func33 (by kernel_rfl) rfl)
                    (Gives.none (all1_own Fence.wide 4 trivial trivial (fun A m c xs W hC hm => callsIn_wide.2 (Clone.clone_calls A m c xs W hC (by omega))) rfl (by decide) b6 A6 c6 [] (fun r hr => by cases hr) w7.heap.size _))
                    (BI w7) (BI_own w7 _ (Nat.le_refl _)) (fun args k W W' row h _ _ => h) (fun k W h => ⟨⟨(h.block _ (blk_lt HRB.out.1)).trans HRB.out.1, Kd.C_below HRB.out.2 h⟩, h.size⟩) (Below.refl _ _) (fun k args W h => h.elim)
                    (fun _ => { tmps := #[], defers := [] }) (fun l k args W K h _ => h.elim) (fun l k args W _ h _ => h.elim) ?done2)
                  case done2 =>
                    intro D2 W2 hD2 hI2 hDf2
                    have HD2 := Aside0.mk hD2
                    have HBi : Aside0 (Below w7.heap.size w7 W2) := ⟨hI2⟩
                    have HDf2 := Aside0.mk hDf2
                    have HDf : Aside0 (W2.heap[D]? = some (.deferred (some [])) ∧ D < w7.heap.size) := ⟨(HBi.out.block _ (Array.getElem?_eq_some_iff.1 HDh.out).1).trans HDh.out, (Array.getElem?_eq_some_iff.1 HDh.out).1⟩
                    have HB11 : Aside0 (Below w.heap.size w W2) := ⟨below_step HB10.out HBi.out⟩
                    have HMi : Aside0 (Made W2 w1.heap.size g l) := ⟨HMh.out.below HBi.out⟩
                    have HXi : Aside0 (W2.heap[w.heap.size]? = some (.cells #[.bool false] 4 (0, 0))) := ⟨(HBi.out.block _ (blk_lt HXh.out)).trans HXh.out⟩
                    have HHo := Aside0.mk (holds_calls A c l w1.heap.size g W2 HMi.out (Kd.C_below HC.out HB11.out) (by omega) (fun r hr => by have := HF1.out.1 r hr; omega))
                    clear hD2 hI2 hDf2 HBi HMh HXh HDh HMi
                    dsimp only
                    go_wp2_with (fail)
                    refine HHo.out.mono ?_
                    rintro e w8 ⟨rfl, hb⟩
                    have HB12 := Aside0.mk (below_step HB11.out hb)
                    have HX8 : Aside0 (w8.heap[w.heap.size]? = some (.cells #[.bool false] 4 (0, 0))) := ⟨(hb.block _ (blk_lt HXi.out)).trans HXi.out⟩
                    have HD8 : Aside0 (w8.heap[D]? = some (.deferred (some [])) ∧ w8.heap[D2]? = some (.deferred (some []))) := ⟨(hb.block _ (Array.getElem?_eq_some_iff.1 HDf.out.1).1).trans HDf.out.1, (hb.block _ (Array.getElem?_eq_some_iff.1 HDf2.out).1).trans HDf2.out⟩
                    clear hb HHo
                    go_wp2_with (fail)
                    refine (append_nil none 0 0 w8).mono ?_
                    rintro e w' ⟨rfl, rfl⟩
                    go_wp2_with (fail)
                    refine (len_nil w8).mono ?_
                    rintro e w' ⟨rfl, rfl⟩
                    go_wp2_with (fail)
                    refine (bytes_nil w8).mono ?_
                    rintro e w' ⟨rfl, rfl⟩
                    go_wp2_with (fail)
                    refine (HAw.out w8 HB12.out).mono ?_
                    rintro e wz ⟨rfl, hb⟩
                    have HBz := Aside0.mk (below_step HB12.out hb)
                    have HXz : Aside0 (wz.heap[w.heap.size]? = some (.cells #[.bool false] 4 (0, 0))) := ⟨(hb.block _ (blk_lt HX8.out)).trans HX8.out⟩
                    have HDz : Aside0 (wz.heap[D]? = some (.deferred (some [])) ∧ wz.heap[D2]? = some (.deferred (some []))) := ⟨(hb.block _ (Array.getElem?_eq_some_iff.1 HD8.out.1).1).trans HD8.out.1, (hb.block _ (Array.getElem?_eq_some_iff.1 HD8.out.2).1).trans HD8.out.2⟩
                    have x4 : wz.cell? ⟨w.heap.size, 0, none⟩ = some (.bool false) := blk_cell HXz.out 0
                    have f4 : wz.frozen? ⟨w.heap.size, 0, none⟩ = false := blk_frozen HXz.out 0
                    clear hb
                    go_wp2_with (fail)
                    have hsz : w.heap.size < w5.heap.size := blk_lt HXe.out
                    have hne : D ≠ w.heap.size := by have := HD.out; omega
                    have hne2 : D2 ≠ w.heap.size := by have := HD2.out; have := HDf.out.2; have := HD.out; omega
                    have hDD : D ≠ D2 := by have := HD2.out; have := HDf.out.2; omega
                    have hgs := grownBy_setCell' wz w.heap.size (.bool true)
                    have hK2 : (wz.setCell ⟨w.heap.size, 0, none⟩ (.bool true)).heap[D2]? = some (.deferred (some [])) := (hgs.block D2 (Array.getElem?_eq_some_iff.1 HDz.out.2).1 (fun e => hne2 (by injection e))).trans HDz.out.2
                    have hK1 : (wz.setCell ⟨w.heap.size, 0, none⟩ (.bool true)).heap[D]? = some (.deferred (some [])) := (hgs.block D (Array.getElem?_eq_some_iff.1 HDz.out.1).1 (fun e => hne (by injection e))).trans HDz.out.1
                    have hK1' : ((wz.setCell ⟨w.heap.size, 0, none⟩ (.bool true)).putObj D2 (.deferred none)).heap[D]? = some (.deferred (some [])) := (World.putObj_heap_other hDD).trans hK1
                    have hB := (HBz.out.setCell (Nat.le_refl _) (.bool true) : Below w.heap.size w (wz.setCell ⟨w.heap.size, 0, none⟩ (.bool true)))
                    have hv : (((wz.setCell ⟨w.heap.size, 0, none⟩ (.bool true)).putObj D2 (.deferred none)).putObj D (.deferred none)).cell? ⟨w.heap.size, 0, none⟩ = some (.bool true) := by
                      have h1 : (((wz.setCell ⟨w.heap.size, 0, none⟩ (.bool true)).putObj D2 (.deferred none)).putObj D (.deferred none)).heap[w.heap.size]? = some (.cells #[.bool true] 4 (0, 0)) := (World.putObj_heap_other (Ne.symm hne)).trans ((World.putObj_heap_other (Ne.symm hne2)).trans (blk_set HXz.out 0 _))
                      exact blk_cell h1 0
                    have hlv := run_loadVar_b (P := Tryd.prog) 4 Tryd.underlying4 hv
                    show LeavesInM _ _ _ _ _ _ _ _ _
                    refine ⟨by simp, .inl ⟨_, _, rfl, run_takeDeferred hK2, by simp, .inl ⟨_, _, rfl, run_takeDeferred hK1', ?_⟩⟩⟩
                    exact ⟨_, results_c1 Tryd.results8 _ _ _ ⟨w.heap.size, 0, none⟩ (.bool true) rfl hlv, rfl, (hB.trans (belowK_b (w := w) (Nat.le_refl _) _ D2 _ _ (by have := HD2.out; have := HDf.out.2; have := HD.out; omega) hK2 rfl rfl)).trans (belowK_b (w := w) (Nat.le_refl _) _ D _ _ (by have := HD.out; omega) hK1' rfl rfl)⟩
theorem own_n (A : Option Addr) (n c : Nat) (l : List (List Int)) (at_ : Int) (w : World) (hC : Kd.C (Kd.slice 5 (Kd.int .u8)) w A n l) (hby : ∀ r ∈ l, ∀ x ∈ r, 0 ≤ x ∧ x < 256)
    (hLf : LaidAt w 0 firstA) (hL : LaidAt w 1 constA) :
    Calls Tryd.prog 8 #[.slice A n c, .int .i64 at_] w fun e w' => e = .returned (.bool true) ∧ Below w.heap.size w w' := by
  obtain rfl := hC.1
  exact own_calls A c l at_ w hC hby hLf hL
end Go.Proofs.YtpndobhakmjglaaDoor.Store

