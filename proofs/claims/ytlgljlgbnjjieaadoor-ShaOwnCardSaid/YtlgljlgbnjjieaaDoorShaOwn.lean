/- cupellaw01.ShaOwn: a hash does not hold on to what it is handed; two hashes go each its own way. -/
import Derived.Test.YtlgljlgbnjjieaaDoorShaHolds
import Derived.Deep.WholeRow
namespace Go.Proofs.YtlgljlgbnjjieaaDoor.Sha
open Go.RowKit Go.Proofs.YtlgljlgbnjjieaaDoorW.PrintWords Go.Proofs.YtlgljlgbnjjieaaDoorW.PrintLast Go.Proofs.YtlgljlgbnjjieaaDoorW.PrintMore Go.Proofs.YtlgljlgbnjjieaaDoor.K
set_option linter.unusedVariables false
/-- Another hash stands while this one is written. -/
theorem Holds.other {w w1 : World} {B g g2 : Nat} {v v2 : Value} {F F2 : List Int} (h : Holds w B g v F) (h2 : Holds w B g2 v2 F2) (hg : g ≠ g2) (hne : ∀ j, v.ownBlock = some j → some j ≠ v2.ownBlock) (hk : Kept w w1 (HTouch g2 v2)) : Holds w1 B g v F :=
  HashAt.kept h hk (fun h3 => by
    rcases h3 with h4 | h4
    · exact hg h4
    · exact (Kd.Q_ne h2.2.2 h.2.1 (by decide)) h4) (fun k hk2 h3 => by
    rcases h3 with h4 | h4
    · exact (Kd.Q_ne h.2.2 h2.2.1 (by decide)) (by rw [← h4]; exact hk2.symm)
    · exact hne k hk2 h4)
/-- What the walk carries: two hashes and a row of its own, and what has been kept of the world. -/
structure Two (w : World) (B g1 g2 : Nat) (v1 v2 u : Value) (F1 F2 xs : List Int) (wr : World) : Prop where
  h1 : Holds wr B g1 v1 F1
  h2 : Holds wr B g2 v2 F2
  r : Kd.R (Kd.int .u8) 5 wr B (fun _ => True) u xs
  ne : g1 ≠ g2
  a12 : ∀ j, v1.ownBlock = some j → some j ≠ v2.ownBlock
  a1 : ∀ j, u.ownBlock = some j → some j ≠ v1.ownBlock
  a2 : ∀ j, u.ownBlock = some j → some j ≠ v2.ownBlock
  b : Below B w wr
theorem Two.below {w wr wn : World} {B g1 g2 : Nat} {v1 v2 u : Value} {F1 F2 xs : List Int} (h : Two w B g1 g2 v1 v2 u F1 F2 xs wr) (hb : Below wr.heap.size wr wn) (hB : B ≤ w.heap.size) : Two w B g1 g2 v1 v2 u F1 F2 xs wn :=
  ⟨HashAt.below h.h1 hb, HashAt.below h.h2 hb, Kd.R_below h.r hb, h.ne, h.a12, h.a1, h.a2, below_then h.b (Nat.le_trans hB h.b.size) hb⟩
theorem Two.write1 {w wr wn : World} {B g1 g2 : Nat} {v1 v2 u v : Value} {F1 F2 xs F : List Int} (h : Two w B g1 g2 v1 v2 u F1 F2 xs wr) (hn : Holds wn B g1 v F) (hat : v.ownBlock = v1.ownBlock ∨ ∃ b, v.ownBlock = some b ∧ wr.heap.size ≤ b) (hk : Kept wr wn (HTouch g1 v1)) (hb : Below B wr wn) : Two w B g1 g2 v v2 u F F2 xs wn :=
  ⟨hn, h.h2.other h.h1 (Ne.symm h.ne) (fun j hj he => h.a12 j he.symm hj.symm) hk, R_beside h.h1 h.r h.a1 hk, h.ne, apart_append h.a12 h.h2.lt hat, apart_write h.a1 (R_lt h.r) hat, h.a2, h.b.trans hb⟩
theorem Two.swap {w wr : World} {B g1 g2 : Nat} {v1 v2 u : Value} {F1 F2 xs : List Int} (h : Two w B g1 g2 v1 v2 u F1 F2 xs wr) : Two w B g2 g1 v2 v1 u F2 F1 xs wr :=
  ⟨h.h2, h.h1, h.r, Ne.symm h.ne, fun j hj he => h.a12 j he.symm hj.symm, h.a2, h.a1, h.b⟩
/-- The row is appended to, or written. -/
theorem Two.row {w wr wn : World} {B g1 g2 : Nat} {v1 v2 u u1 : Value} {F1 F2 xs ys : List Int} (h : Two w B g1 g2 v1 v2 u F1 F2 xs wr) (hr : Kd.R (Kd.int .u8) 5 wn B (fun _ => True) u1 ys) (hg : wr.grownBy wn u.ownBlock) (hat : u1.ownBlock = u.ownBlock ∨ ∃ b, u1.ownBlock = some b ∧ wr.heap.size ≤ b) (hb : Below B w wn) : Two w B g1 g2 v1 v2 u1 F1 F2 ys wn :=
  ⟨h.h1.beside h.r h.a1 hg, h.h2.beside h.r h.a2 hg, hr, h.ne, h.a12, apart_append h.a1 h.h1.lt hat, apart_append h.a2 h.h2.lt hat, hb⟩
/-- A row of the call's own that is another one. -/
theorem Two.fresh {w wr : World} {B g1 g2 : Nat} {v1 v2 u : Value} {F1 F2 xs : List Int} (h : Two w B g1 g2 v1 v2 u F1 F2 xs wr) : Two w B g1 g2 v1 v2 (.slice none 0 0) F1 F2 [] wr :=
  ⟨h.h1, h.h2, Kd.R_nil _ _ _ _ _, h.ne, h.a12, fun j hj => by simp [Value.ownBlock] at hj, fun j hj => by simp [Value.ownBlock] at hj, h.b⟩
theorem exec_load_row {P : Program} {o : Oper} {a : Act} {w : World} (ty : TypeId) (x : Operand) (ho : o.op = .load ty x) (g : Nat) (hx : a.eval x = .pointer (some ⟨g, 0, none⟩)) (t : TypeId) (cs : Array Value) (fr : Nat × Nat) (d : TypeDesc) (hg : w.heap[g]? = some (.cells cs t fr))
    (hu : P.underlying ty = some d) (hd : (match d with | .struct _ | .array _ _ => true | _ => false) = true) (hi : (P.info? ty).map (·.size) = some cs.size) : (execOp a.eval o).run P w = .ok (.value (.agg cs)) w := by
  unfold execOp
  simp only [ho, hx, Instr.loadAt, Instr.sureAddr, Sem.run_bind, Sem.run_pure, Result.andThen_ok, run_loadVar_row w g t ty cs fr d hg hu hd hi]
theorem Holds.keeps {wr wn : World} {B g ga : Nat} {v : Value} {F : List Int} {cs : Array Value} (h : Holds wr B g v F) (hd : wr.heap[ga]? = some (.cells cs 25 (0, 0))) (hk : Kept wr wn (HTouch g v)) : wn.heap[ga]? = some (.cells cs 25 (0, 0)) :=
  blk_kept hd hk (fun h3 => by
    rcases h3 with h4 | h4
    · exact blk_ne hd h.2.1 (by decide) h4
    · exact (Kd.Q_ne h.2.2 hd (by decide)) h4)
theorem R_keeps {wr wn : World} {B ga : Nat} {u : Value} {xs : List Int} {cs : Array Value} (hR : Kd.R (Kd.int .u8) 5 wr B (fun _ => True) u xs) (hd : wr.heap[ga]? = some (.cells cs 25 (0, 0))) (hg : wr.grownBy wn u.ownBlock) : wn.heap[ga]? = some (.cells cs 25 (0, 0)) :=
  blk_grown hd hg (Kd.R_ne hR hd (by decide))
set_option maxHeartbeats 4000000 in
set_option maxRecDepth 100000 in
theorem own_calls (Aa : Option Addr) (na ca : Nat) (la : List Int) (Ab : Option Addr) (nb cb : Nat) (lb : List Int) (w : World) (ha : Kd.C (Kd.int .u8) w Aa na la) (hb : Kd.C (Kd.int .u8) w Ab nb lb) (hbya : ∀ x ∈ la, 0 ≤ x ∧ x < 256) (hbyb : ∀ x ∈ lb, 0 ≤ x ∧ x < 256)
    (hLf : LaidAt w 0 firstA) (hL : LaidAt w 1 constA) :
    Calls Tryd.prog 5 #[.slice Aa na ca, .slice Ab nb cb] w fun e w' => e = .returned (.bool true) ∧ Below w.heap.size w w' := by
  obtain rfl := ha.1
  obtain rfl := hb.1
  have HA := Aside0.mk ha
  have HBb := Aside0.mk hb
  have HAy := Aside0.mk hbya
  have HBy := Aside0.mk hbyb
  have HLf := Aside0.mk hLf
  have HL := Aside0.mk hL
  have HG : Aside0 (1 < w.heap.size) := ⟨by obtain ⟨_, _, h⟩ := hL; exact blk_lt h⟩
  have hma := ha.2.1
  have hmb := hb.2.1
  clear hLf hL ha hb hbya hbyb
  by_cases hgt : 200 < la.length ∨ 200 < lb.length
  · have HW : Aside0 (∃ x : Bool, x = decide (200 < (la.length : Int))) := ⟨_, rfl⟩
    by_cases h1 : 200 < la.length
    · have h1D : decide (200 < (la.length : Int)) = true := by simp; omega
      go_enter Tryd.func5, Tryd.ntmps5
      go_wp2_with (fail)
      refine (awake_calls w HLf.out HL.out).mono ?_
      rintro e w1 ⟨rfl, hb⟩
      have HB := Aside0.mk hb
      clear hb
      go_wp2_with (fail)
      go_ret
      exact ⟨rfl, HB.out⟩
    · have h1D : decide (200 < (la.length : Int)) = false := by simp; omega
      have h2D : decide (200 < (lb.length : Int)) = true := by simp; omega
      go_enter Tryd.func5, Tryd.ntmps5
      go_wp2_with (fail)
      refine (awake_calls w HLf.out HL.out).mono ?_
      rintro e w1 ⟨rfl, hb⟩
      have HB := Aside0.mk hb
      clear hb
      go_wp2_with (fail)
      go_ret
      exact ⟨rfl, HB.out⟩
  · have h1D : decide (200 < (la.length : Int)) = false := by simp; omega
    have h2D : decide (200 < (lb.length : Int)) = false := by simp; omega
    have ha200 : la.length ≤ 200 := by omega
    have hb200 : lb.length ≤ 200 := by omega
    clear hgt
    go_enter Tryd.func5, Tryd.ntmps5
    go_wp2_with (fail)
    refine (hnew_calls w w.heap.size (Nat.le_refl _) HLf.out).mono ?_
    rintro e w1 ⟨rfl, hH1, hb1, hs1⟩
    have HH1 := Aside0.mk hH1
    have HB1 := Aside0.mk hb1
    have HS1 := Aside0.mk hs1
    clear hH1 hb1 hs1
    go_wp2_with (fail)
    refine (hnew_calls w1 w.heap.size HB1.out.size (HLf.out.below HB1.out)).mono ?_
    rintro e w2 ⟨rfl, hH2, hb2, hs2⟩
    have HT : Aside0 (Two w w.heap.size w.heap.size w1.heap.size (.slice none 0 0) (.slice none 0 0) (.slice none 0 0) [] [] [] w2) := ⟨⟨HashAt.below HH1.out hb2, hH2, Kd.R_nil _ _ _ _ _, by rw [HS1.out]; omega, fun j hj => by simp [Value.ownBlock] at hj, fun j hj => by simp [Value.ownBlock] at hj, fun j hj => by simp [Value.ownBlock] at hj, below_step HB1.out hb2⟩⟩
    clear hH2 hb2 hs2 HH1 HB1 HS1
    generalize hg1 : w.heap.size = g1 at *
    have HGg := Aside0.mk hg1
    clear hg1
    generalize w1.heap.size = g2 at *
    go_wp2_with (at_builtin; refine print_append_row (w0 := w) g1 rfl (.tmp 29) (.tmp 30) 22 5 .u8 1 rfl Tryd.underlying22 info_u8 (by decide) (.slice none 0 0) [] la Aa la.length ca rfl rfl (own_int HT.out.r) (reads_int (Kd.C_below HA.out (by rw [HGg.out]; exact HT.out.b))) HT.out.b (by rw [← HGg.out]; exact HT.out.b.size) (by simp; omega) ?_; intro v3 w3 ho3 hb3 hg3 hat3; have HT3 := Aside0.mk (HT.out.row (R_int ho3) hg3 hat3 hb3); clear ho3 hb3 hg3 hat3; obtain ⟨A3, c3, rfl⟩ := Kd.R_slice HT3.out.r)
    have HB3 : Aside0 (g1 ≤ w3.heap.size) := ⟨by rw [← HGg.out]; exact HT3.out.b.size⟩
    have HLx : Aside0 (∀ W : World, Below g1 w W → LaidAt W 1 constA) := ⟨fun W hb => by rw [← HGg.out] at hb; exact HL.out.below hb⟩
    have HLfx : Aside0 (∀ W : World, Below g1 w W → LaidAt W 0 firstA) := ⟨fun W hb => by rw [← HGg.out] at hb; exact HLf.out.below hb⟩
    have HAx : Aside0 (∀ W : World, Below g1 w W → Kd.C (Kd.int .u8) W Aa la.length la) := ⟨fun W hb => by rw [← HGg.out] at hb; exact Kd.C_below HA.out hb⟩
    have HBx : Aside0 (∀ W : World, Below g1 w W → Kd.C (Kd.int .u8) W Ab lb.length lb) := ⟨fun W hb => by rw [← HGg.out] at hb; exact Kd.C_below HBb.out hb⟩
    have HSz : Aside0 (∀ W : World, Below g1 w W → g1 ≤ W.heap.size) := ⟨fun W hb => by have h1 := hb.size; rwa [HGg.out] at h1⟩
    clear HA HBb HL HLf HB3
    rw [List.nil_append] at HT3
    refine (hwrite_calls g1 g1 (.slice none 0 0) [] A3 la.length c3 la w3 HT3.out.h1 (HSz.out _ HT3.out.b) (Kd.R_reads' HT3.out.r).2.2 (fun x hx => by cases hx) HAy.out (by simp; omega) HG.out (HLx.out _ HT3.out.b)).mono ?_
    intro e w4 hw4
    obtain ⟨rfl, v4, hH4, hat4, hK4, hb4⟩ := hw4
    rw [List.nil_append] at hH4
    have HT4 := Aside0.mk (HT3.out.write1 hH4 hat4 hK4 hb4)
    clear hH4 hat4 hK4 hb4 HT3 HT
    go_wp2_with (fail)
    go_loopw [8] (fun v8 wr => ∃ k : Nat, k ≤ la.length ∧ v8 = .int .i64 k ∧ Aside0 (∃ ys : List Int, ys.length = la.length ∧ Two w g1 g1 g2 v4 (.slice none 0 0) (.slice A3 la.length c3) la [] ys wr)) (fun v8 _ => la.length - (intOf v8).toNat)
    case atStart => exact ⟨0, Nat.zero_le _, rfl, ⟨la, rfl, HT4.out⟩⟩
    case round =>
      obtain ⟨k, hk, rfl, HP⟩ := hrel
      obtain ⟨ys, hys, hT⟩ := HP.out
      have HT5 := Aside0.mk hT
      have HYs := Aside0.mk hys
      clear hT hys HP HT4
      by_cases hlt : k < la.length
      · obtain ⟨gu, cu, he, hbu, cells, hcu⟩ := Kd.N_form (Kd.R_N HT5.out.r) (by rw [HYs.out]; omega)
        have hA3 : A3 = some ⟨gu, 0, none⟩ := by rw [HYs.out] at he; injection he
        have hcu' : c3 = cu := by injection he
        subst hA3 hcu'
        have hO := own_int HT5.out.r
        rw [HYs.out] at hO
        obtain ⟨hc5, hf5⟩ := own_at hO (k : Int) (by omega) (by omega)
        have HO := Aside0.mk hO
        rw [Int.toNat_natCast] at hc5 hf5
        generalize rd ys (k : Int) = q at *
        clear hO he
        go_wp2
        go_roundw
        case measure => simp [intOf]; omega
        case rel => exact ⟨k + 1, by omega, by go_num, ⟨ys.set k ((q + 1) % 256), by rw [List.length_set]; exact HYs.out, by
          have h1 := own_store HO.out (k : Int) ((q + 1) % 256)
          rw [Int.toNat_natCast] at h1
          have h2 : Kd.R (Kd.int .u8) 5 (wr.setCell ⟨gu, k, none⟩ (.int .u8 ((q + 1) % 256))) g1 (fun _ => True) (.slice (some ⟨gu, 0, none⟩) la.length c3) (ys.set k ((q + 1) % 256)) := R_int (by rw [List.length_set, HYs.out]; exact h1.1)
          exact HT5.out.row h2 h1.2 (.inl rfl) (HT5.out.b.setCell hbu _)⟩⟩
      · obtain rfl : k = la.length := by omega
        clear hlt hk
        have HT6 := Aside0.mk HT5.out
        clear HT5
        obtain ⟨d1, hd1⟩ : ∃ d1, d1 = shaV la := ⟨_, rfl⟩
        have HD1 := Aside0.mk (dig_info (shaV_length la))
        have HD2 : Aside0 ((dA (List.replicate 32 0)).size = (dA (shaV la)).size) := ⟨by rw [dA_size, dA_size, shaV_length]; rfl⟩
        have HD3 := Aside0.mk (dA_one (shaV la))
        rw [← hd1] at HD1 HD2 HD3
        have Hd1 := Aside0.mk hd1
        clear hd1
        go_wp2_with (fail)
        refine (holds_sum_calls g1 g1 v4 la wr HT6.out.h1 (HSz.out _ HT6.out.b) HAy.out (by omega) HG.out (HLx.out _ HT6.out.b)).mono ?_
        rintro e w7 ⟨rfl, hb7⟩
        rw [← Hd1.out]
        have HT7 : Aside0 (Two w g1 g1 g2 v4 (.slice none 0 0) (.slice A3 la.length c3) la [] ys w7) := ⟨HT6.out.below hb7 (by rw [HGg.out]; exact Nat.le_refl _)⟩
        clear hb7 HT6
        go_wp2_with (rw [z32_lit]; with_reducible refine wpList_store_row rfl 25 (.tmp 9) (.tmp 50) rfl w7.heap.size (dA d1) rfl rfl 25 (dA (List.replicate 32 0)) (heap_alloc_new _ _) HD1.out HD2.out HD3.out ?_; rw [World.setRow_alloc_new]; have HT8 : Aside0 (Two w g1 g1 g2 v4 (.slice none 0 0) (.slice A3 la.length c3) la [] ys (w7.alloc (.cells (dA d1) 25))) := ⟨HT7.out.below (bel_alloc (Below.refl _ _) _) (by rw [HGg.out]; exact Nat.le_refl _)⟩; have HE8 : Aside0 ((w7.alloc (.cells (dA d1) 25)).heap[w7.heap.size]? = some (.cells (dA d1) 25 (0, 0))) := ⟨heap_alloc_new _ _⟩; generalize w7.alloc (.cells (dA d1) 25) = w8 at *; generalize w7.heap.size = ga at *)
        refine (hwrite_calls g1 g2 (.slice none 0 0) [] Ab lb.length cb lb w8 HT8.out.h2 (HSz.out _ HT8.out.b) (HBx.out _ HT8.out.b) (fun x hx => by cases hx) HBy.out (by simp; omega) HG.out (HLx.out _ HT8.out.b)).mono ?_
        intro e w9 hw9
        obtain ⟨rfl, v9, hH9, hat9, hK9, hb9⟩ := hw9
        rw [List.nil_append] at hH9
        have HT9 := Aside0.mk (HT8.out.swap.write1 hH9 hat9 hK9 hb9).swap
        have HE9 := Aside0.mk (HT8.out.h2.keeps HE8.out hK9)
        clear hH9 hat9 hK9 hb9 HT8 HE8 HT7
        go_wp2_with (fail)
        refine (holds_sum_calls g1 g1 v4 la w9 HT9.out.h1 (HSz.out _ HT9.out.b) HAy.out (by omega) HG.out (HLx.out _ HT9.out.b)).mono ?_
        rintro e w10 ⟨rfl, hb10⟩
        rw [← Hd1.out]
        have HT10 : Aside0 (Two w g1 g1 g2 v4 v9 (.slice A3 la.length c3) la lb ys w10) := ⟨HT9.out.below hb10 (by rw [HGg.out]; exact Nat.le_refl _)⟩
        have HE10 : Aside0 (w10.heap[ga]? = some (.cells (dA d1) 25 (0, 0))) := ⟨(hb10.block _ (blk_lt HE9.out)).trans HE9.out⟩
        clear hb10 HT9 HE9
        go_wp2_with (rw [z32_lit]; with_reducible refine wpList_store_row rfl 25 (.tmp 10) (.tmp 55) rfl w10.heap.size (dA d1) rfl rfl 25 (dA (List.replicate 32 0)) (heap_alloc_new _ _) HD1.out HD2.out HD3.out ?_; rw [World.setRow_alloc_new]; have HT11 : Aside0 (Two w g1 g1 g2 v4 v9 (.slice A3 la.length c3) la lb ys (w10.alloc (.cells (dA d1) 25))) := ⟨HT10.out.below (bel_alloc (Below.refl _ _) _) (by rw [HGg.out]; exact Nat.le_refl _)⟩; have HE11 : Aside0 ((w10.alloc (.cells (dA d1) 25)).heap[ga]? = some (.cells (dA d1) 25 (0, 0))) := ⟨((bel_alloc (Below.refl _ _) _).block _ (blk_lt HE10.out)).trans HE10.out⟩; have HE11b : Aside0 ((w10.alloc (.cells (dA d1) 25)).heap[w10.heap.size]? = some (.cells (dA d1) 25 (0, 0))) := ⟨heap_alloc_new _ _⟩; generalize w10.alloc (.cells (dA d1) 25) = w11 at *; generalize w10.heap.size = gb at *)
        refine (hwrite_calls g1 g1 v4 la Ab lb.length cb lb w11 HT11.out.h1 (HSz.out _ HT11.out.b) (HBx.out _ HT11.out.b) HAy.out HBy.out (by omega) HG.out (HLx.out _ HT11.out.b)).mono ?_
        intro e w12 hw12
        obtain ⟨rfl, v12, hH12, hat12, hK12, hb12⟩ := hw12
        have HT12 := Aside0.mk (HT11.out.write1 hH12 hat12 hK12 hb12).fresh
        have HE12 := Aside0.mk (HT11.out.h1.keeps HE11.out hK12)
        have HE12b := Aside0.mk (HT11.out.h1.keeps HE11b.out hK12)
        clear hH12 hat12 hK12 hb12 HT11 HE11 HE11b HT10 HE10
        have HAB : Aside0 (∀ x ∈ la ++ lb, 0 ≤ x ∧ x < 256) := ⟨fun x hx => (List.mem_append.1 hx).elim (HAy.out x) (HBy.out x)⟩
        go_wp2_with (first
          | (at_builtin; refine print_append_row (w0 := w) g1 rfl (.tmp 59) (.tmp 60) 22 5 .u8 1 rfl Tryd.underlying22 info_u8 (by decide) (.slice none 0 0) [] la Aa la.length ca rfl rfl (own_int HT12.out.r) (reads_int (HAx.out _ HT12.out.b)) HT12.out.b (HSz.out _ HT12.out.b) (by simp; omega) ?_; intro v13 w13 ho13 hb13 hg13 hat13; rw [List.nil_append] at ho13; have HT13 := Aside0.mk (HT12.out.row (R_int ho13) hg13 hat13 hb13); have HE13 := Aside0.mk (R_keeps HT12.out.r HE12.out hg13); have HE13b := Aside0.mk (R_keeps HT12.out.r HE12b.out hg13); clear ho13 hb13 hg13 hat13; obtain ⟨A13, c13, rfl⟩ := Kd.R_slice HT13.out.r)
          | (at_builtin; refine print_append_row (w0 := w) g1 rfl (.tmp 62) (.tmp 63) 22 5 .u8 1 rfl Tryd.underlying22 info_u8 (by decide) (.slice A13 la.length c13) la lb Ab lb.length cb rfl rfl (own_int HT13.out.r) (reads_int (HBx.out _ HT13.out.b)) HT13.out.b (HSz.out _ HT13.out.b) (by omega) ?_; intro v14 w14 ho14 hb14 hg14 hat14; have HT14 := Aside0.mk (HT13.out.row (R_int ho14) hg14 hat14 hb14); have HE14 := Aside0.mk (R_keeps HT13.out.r HE13.out hg14); have HE14b := Aside0.mk (R_keeps HT13.out.r HE13b.out hg14); clear ho14 hb14 hg14 hat14; obtain ⟨A14, c14, rfl⟩ := Kd.R_slice HT14.out.r))
        obtain ⟨d2, hd2⟩ : ∃ d2, d2 = shaV (la ++ lb) := ⟨_, rfl⟩
        obtain ⟨d3, hd3⟩ : ∃ d3, d3 = shaV lb := ⟨_, rfl⟩
        have q1 := eql_same (d := d1) (by rw [Hd1.out]; exact shaV_length _)
        have q2 := eql_same (d := d2) (by rw [hd2]; exact shaV_length _)
        have q3 := eql_same (d := d3) (by rw [hd3]; exact shaV_length _)
        have q4 : ((lb.length : Int) == (lb.length : Int)) = true := beq_self_eq_true _
        have HSA : Aside0 (∀ W : World, Below g1 w W → Calls Tryd.prog 9 #[.slice Aa la.length ca] W fun e w' => e = .returned (.agg (dA d1)) ∧ Below W.heap.size W w') := ⟨fun W hb => by rw [Hd1.out]; exact sum_calls Aa la.length ca la W (HAx.out W hb) HAy.out (by omega) (HLfx.out W hb) (HLx.out W hb)⟩
        have HSB : Aside0 (∀ W : World, Below g1 w W → Calls Tryd.prog 9 #[.slice Ab lb.length cb] W fun e w' => e = .returned (.agg (dA d3)) ∧ Below W.heap.size W w') := ⟨fun W hb => by rw [hd3]; exact sum_calls Ab lb.length cb lb W (HBx.out W hb) HBy.out (by omega) (HLfx.out W hb) (HLx.out W hb)⟩
        have HS2 : Aside0 (∀ W : World, Two w g1 g1 g2 v12 v9 (.slice A14 (la ++ lb).length c14) (la ++ lb) lb (la ++ lb) W → Calls Tryd.prog 9 #[.slice A14 (la.length + lb.length) c14] W fun e w' => e = .returned (.agg (dA d2)) ∧ Below W.heap.size W w') := ⟨fun W hT => by
          rw [hd2, ← List.length_append]
          exact sum_calls A14 (la ++ lb).length c14 (la ++ lb) W (Kd.R_reads' hT.r).2.2 HAB.out (by simp; omega) (HLfx.out W hT.b) (HLx.out W hT.b)⟩
        have HSh : Aside0 (∀ W : World, Two w g1 g1 g2 v12 v9 (.slice A14 (la ++ lb).length c14) (la ++ lb) lb (la ++ lb) W → Calls Tryd.prog 14 #[.pointer (some ⟨g1, 0, none⟩)] W fun e w' => e = .returned (.agg (dA d2)) ∧ Below W.heap.size W w') := ⟨fun W hT => by
          rw [hd2]
          exact holds_sum_calls g1 g1 v12 (la ++ lb) W hT.h1 (HSz.out W hT.b) HAB.out (by simp; omega) HG.out (HLx.out W hT.b)⟩
        have HSg : Aside0 (∀ W : World, Two w g1 g1 g2 v12 v9 (.slice A14 (la ++ lb).length c14) (la ++ lb) lb (la ++ lb) W → Calls Tryd.prog 14 #[.pointer (some ⟨g2, 0, none⟩)] W fun e w' => e = .returned (.agg (dA d3)) ∧ Below W.heap.size W w') := ⟨fun W hT => by
          rw [hd3]
          exact holds_sum_calls g1 g2 v9 lb W hT.h2 (HSz.out W hT.b) HBy.out (by omega) HG.out (HLx.out W hT.b)⟩
        clear hd2 hd3
        have HTb : Aside0 (∀ W W1 : World, Two w g1 g1 g2 v12 v9 (.slice A14 (la ++ lb).length c14) (la ++ lb) lb (la ++ lb) W → Below W.heap.size W W1 → Two w g1 g1 g2 v12 v9 (.slice A14 (la ++ lb).length c14) (la ++ lb) lb (la ++ lb) W1) := ⟨fun W W1 hT hb => hT.below hb (by rw [HGg.out]; exact Nat.le_refl _)⟩
        have HEb : Aside0 (∀ (W W1 : World) (x : Nat), W.heap[x]? = some (.cells (dA d1) 25 (0, 0)) → Below W.heap.size W W1 → W1.heap[x]? = some (.cells (dA d1) 25 (0, 0))) := ⟨fun W W1 x h hb => (hb.block _ (blk_lt h)).trans h⟩
        have HT20 : Aside0 (Two w g1 g1 g2 v12 v9 (.slice A14 (la ++ lb).length c14) (la ++ lb) lb (la ++ lb) w14.drew) := ⟨HTb.out _ _ HT14.out (pw_below_drewN (Below.refl _ _) 1)⟩
        have s0 : w14.drew.heap[ga]? = some (.cells (dA d1) 25 (0, 0)) := HE14.out
        have s1 : w14.drew.heap[gb]? = some (.cells (dA d1) 25 (0, 0)) := HE14b.out
        clear HT14 HE14 HE14b
        go_wp2
        refine start_ (n := 34) (S := fun w' => w'.heap[ga]? = some (.cells (dA d1) 25 (0, 0)) ∧ w'.heap[gb]? = some (.cells (dA d1) 25 (0, 0))) (ds := []) #[false, false, false, false, false, false, false, false, false, false, false, false, false, false, false, false, false, false, false, false, false, false, false, false, false, false, false, false, false, false, false, false, false, false] (by kernel_rfl) rfl rfl ⟨s0, s1⟩ (fun hHeld => ?_)
        refine pure_ (i := 1) (N := some 66) (v := ?_) (a' := ?_) #[false, true, false, false, false, false, false, false, false, false, false, false, false, false, false, false, false, false, false, false, false, false, false, false, false, false, false, false, false, false, false, false, false, false] rfl rfl (by kernel_rfl) (fun _ _ _ h => h) (Or.inl ⟨by rfl, ?_⟩) ?_ ?_
        rotate_left
        · intro w'
          go_simp
          with_reducible rfl
        rotate_left
        · simp only [Act.put, List.setIfInBounds_toArray, List.set_cons_zero, List.set_cons_succ]
          rfl
        refine take_ (i := 0) (N := some 65) (v := ?_) (a' := ?_) #[true, true, false, false, false, false, false, false, false, false, false, false, false, false, false, false, false, false, false, false, false, false, false, false, false, false, false, false, false, false, false, false, false, false] rfl rfl (by kernel_rfl) (fun _ _ _ h => h) (Or.inl ⟨by rfl, ?_⟩) hHeld ?_ ?_
        rotate_left
        · rintro w' ⟨s0, s1⟩
          refine exec_load_row 25 (.tmp 9) ?_ ga ?_ 25 (dA d1) (0, 0) _ s0 Tryd.underlying25 ?_ HD1.out <;> rfl
        rotate_left
        · simp only [Act.put, List.setIfInBounds_toArray, List.set_cons_zero, List.set_cons_succ]
          rfl
        refine one_ (i := 2) (N := some 67) #[true, true, true, false, false, false, false, false, false, false, false, false, false, false, false, false, false, false, false, false, false, false, false, false, false, false, false, false, false, false, false, false, false, false] rfl rfl (by kernel_rfl) (by decide) (fun K hK => ?_)
        refine goes_ Tryd.func9 (by kernel_rfl) rfl #[.slice Aa la.length ca] (by rfl) rfl rfl (by simp only [List.map_toArray, List.map_cons, List.map_nil]; rfl) ?_
        with_reducible refine (HSA.out _ HT20.out.b).mono ?_
        rintro e w21 ⟨rfl, hb⟩
        refine ⟨_, rfl, ?_⟩
        have HT21 := Aside0.mk (HTb.out _ _ HT20.out hb)
        have s0_21 := HEb.out _ _ _ s0 hb
        have s1_21 := HEb.out _ _ _ s1 hb
        clear hb
        refine hK.out _ _ ⟨s0_21, s1_21⟩ (fun hHeld => ?_)
        clear hK K
        refine norm_ (a' := ?_) ?_ ?_
        rotate_left
        · show Act.put _ (some 67) _ = _
          simp only [Act.put, List.setIfInBounds_toArray, List.set_cons_zero, List.set_cons_succ]
          rfl
        refine pure_ (i := 3) (N := some 68) (v := ?_) (a' := ?_) #[true, true, true, true, false, false, false, false, false, false, false, false, false, false, false, false, false, false, false, false, false, false, false, false, false, false, false, false, false, false, false, false, false, false] rfl rfl (by kernel_rfl) (fun _ _ _ h => h) (Or.inl ⟨by rfl, ?_⟩) ?_ ?_
        rotate_left
        · intro w'
          go_simp
          with_reducible rfl
        rotate_left
        · simp only [Act.put, List.setIfInBounds_toArray, List.set_cons_zero, List.set_cons_succ]
          rfl
        refine pure_ (i := 4) (N := some 69) (v := ?_) (a' := ?_) #[true, true, true, true, true, false, false, false, false, false, false, false, false, false, false, false, false, false, false, false, false, false, false, false, false, false, false, false, false, false, false, false, false, false] rfl rfl (by kernel_rfl) (fun _ _ _ h => h) (Or.inl ⟨by rfl, ?_⟩) ?_ ?_
        rotate_left
        · intro w'
          go_simp
          with_reducible rfl
        rotate_left
        · simp only [Act.put, List.setIfInBounds_toArray, List.set_cons_zero, List.set_cons_succ]
          rfl
        refine take_ (i := 5) (N := some 70) (v := ?_) (a' := ?_) #[true, true, true, true, true, true, false, false, false, false, false, false, false, false, false, false, false, false, false, false, false, false, false, false, false, false, false, false, false, false, false, false, false, false] rfl rfl (by kernel_rfl) (fun _ _ _ h => h) (Or.inl ⟨by rfl, ?_⟩) hHeld ?_ ?_
        rotate_left
        · rintro w' ⟨s0, s1⟩
          refine exec_load_row 25 (.tmp 10) ?_ gb ?_ 25 (dA d1) (0, 0) _ s1 Tryd.underlying25 ?_ HD1.out <;> rfl
        rotate_left
        · simp only [Act.put, List.setIfInBounds_toArray, List.set_cons_zero, List.set_cons_succ]
          rfl
        refine take_ (i := 6) (N := some 71) (v := ?_) (a' := ?_) #[true, true, true, true, true, true, true, false, false, false, false, false, false, false, false, false, false, false, false, false, false, false, false, false, false, false, false, false, false, false, false, false, false, false] rfl rfl (by kernel_rfl) (fun _ _ _ h => h) (Or.inl ⟨by rfl, ?_⟩) hHeld ?_ ?_
        rotate_left
        · rintro w' ⟨s0, s1⟩
          refine exec_load_row 25 (.tmp 9) ?_ ga ?_ 25 (dA d1) (0, 0) _ s0 Tryd.underlying25 ?_ HD1.out <;> rfl
        rotate_left
        · simp only [Act.put, List.setIfInBounds_toArray, List.set_cons_zero, List.set_cons_succ]
          rfl
        refine pure_ (i := 7) (N := some 72) (v := ?_) (a' := ?_) #[true, true, true, true, true, true, true, true, false, false, false, false, false, false, false, false, false, false, false, false, false, false, false, false, false, false, false, false, false, false, false, false, false, false] rfl rfl (by kernel_rfl) (fun _ _ _ h => h) (Or.inl ⟨by rfl, ?_⟩) ?_ ?_
        rotate_left
        · intro w'
          go_simp
          with_reducible rfl
        rotate_left
        · simp only [Act.put, List.setIfInBounds_toArray, List.set_cons_zero, List.set_cons_succ]
          rfl
        refine pure_ (i := 8) (N := some 73) (v := ?_) (a' := ?_) #[true, true, true, true, true, true, true, true, true, false, false, false, false, false, false, false, false, false, false, false, false, false, false, false, false, false, false, false, false, false, false, false, false, false] rfl rfl (by kernel_rfl) (fun _ _ _ h => h) (Or.inl ⟨by rfl, ?_⟩) ?_ ?_
        rotate_left
        · intro w'
          go_simp
          with_reducible rfl
        rotate_left
        · simp only [Act.put, List.setIfInBounds_toArray, List.set_cons_zero, List.set_cons_succ]
          rfl
        refine pure_ (i := 9) (N := some 74) (v := ?_) (a' := ?_) #[true, true, true, true, true, true, true, true, true, true, false, false, false, false, false, false, false, false, false, false, false, false, false, false, false, false, false, false, false, false, false, false, false, false] rfl rfl (by kernel_rfl) (fun _ _ _ h => h) (Or.inl ⟨by rfl, ?_⟩) ?_ ?_
        rotate_left
        · intro w'
          go_simp
          with_reducible rfl
        rotate_left
        · simp only [Act.put, List.setIfInBounds_toArray, List.set_cons_zero, List.set_cons_succ]
          rfl
        refine pure_ (i := 10) (N := some 75) (v := ?_) (a' := ?_) #[true, true, true, true, true, true, true, true, true, true, true, false, false, false, false, false, false, false, false, false, false, false, false, false, false, false, false, false, false, false, false, false, false, false] rfl rfl (by kernel_rfl) (fun _ _ _ h => h) (Or.inl ⟨by rfl, ?_⟩) ?_ ?_
        rotate_left
        · intro w'
          go_simp
          with_reducible rfl
        rotate_left
        · simp only [Act.put, List.setIfInBounds_toArray, List.set_cons_zero, List.set_cons_succ]
          rfl
        refine pure_ (i := 12) (N := some 77) (v := ?_) (a' := ?_) #[true, true, true, true, true, true, true, true, true, true, true, false, true, false, false, false, false, false, false, false, false, false, false, false, false, false, false, false, false, false, false, false, false, false] rfl rfl (by kernel_rfl) (fun _ _ _ h => h) (Or.inl ⟨by rfl, ?_⟩) ?_ ?_
        rotate_left
        · intro w'
          go_simp
          with_reducible rfl
        rotate_left
        · simp only [Act.put, List.setIfInBounds_toArray, List.set_cons_zero, List.set_cons_succ]
          rfl
        refine one_ (i := 11) (N := some 76) #[true, true, true, true, true, true, true, true, true, true, true, true, true, false, false, false, false, false, false, false, false, false, false, false, false, false, false, false, false, false, false, false, false, false] rfl rfl (by kernel_rfl) (by decide) (fun K hK => ?_)
        refine goes_ Tryd.func14 (by kernel_rfl) rfl #[.pointer (some ⟨g1, 0, none⟩)] (by rfl) rfl rfl (by simp only [List.map_toArray, List.map_cons, List.map_nil]; rfl) ?_
        with_reducible refine (HSh.out _ HT21.out).mono ?_
        rintro e w22 ⟨rfl, hb⟩
        refine ⟨_, rfl, ?_⟩
        have HT22 := Aside0.mk (HTb.out _ _ HT21.out hb)
        have s0_22 := HEb.out _ _ _ s0_21 hb
        have s1_22 := HEb.out _ _ _ s1_21 hb
        clear hb
        refine hK.out _ _ ⟨s0_22, s1_22⟩ (fun hHeld => ?_)
        clear hK K
        refine norm_ (a' := ?_) ?_ ?_
        rotate_left
        · show Act.put _ (some 76) _ = _
          simp only [Act.put, List.setIfInBounds_toArray, List.set_cons_zero, List.set_cons_succ]
          rfl
        refine one_ (i := 13) (N := some 78) #[true, true, true, true, true, true, true, true, true, true, true, true, true, true, false, false, false, false, false, false, false, false, false, false, false, false, false, false, false, false, false, false, false, false] rfl rfl (by kernel_rfl) (by decide) (fun K hK => ?_)
        refine goes_ Tryd.func9 (by kernel_rfl) rfl #[.slice A14 (la.length + lb.length) c14] (by rfl) rfl rfl (by simp only [List.map_toArray, List.map_cons, List.map_nil]; rfl) ?_
        with_reducible refine (HS2.out _ HT22.out).mono ?_
        rintro e w23 ⟨rfl, hb⟩
        refine ⟨_, rfl, ?_⟩
        have HT23 := Aside0.mk (HTb.out _ _ HT22.out hb)
        have s0_23 := HEb.out _ _ _ s0_22 hb
        have s1_23 := HEb.out _ _ _ s1_22 hb
        clear hb
        refine hK.out _ _ ⟨s0_23, s1_23⟩ (fun hHeld => ?_)
        clear hK K
        refine norm_ (a' := ?_) ?_ ?_
        rotate_left
        · show Act.put _ (some 78) _ = _
          simp only [Act.put, List.setIfInBounds_toArray, List.set_cons_zero, List.set_cons_succ]
          rfl
        refine pure_ (i := 14) (N := some 79) (v := ?_) (a' := ?_) #[true, true, true, true, true, true, true, true, true, true, true, true, true, true, true, false, false, false, false, false, false, false, false, false, false, false, false, false, false, false, false, false, false, false] rfl rfl (by kernel_rfl) (fun _ _ _ h => h) (Or.inl ⟨by rfl, ?_⟩) ?_ ?_
        rotate_left
        · intro w'
          go_simp
          with_reducible rfl
        rotate_left
        · simp only [Act.put, List.setIfInBounds_toArray, List.set_cons_zero, List.set_cons_succ]
          rfl
        refine pure_ (i := 15) (N := some 80) (v := ?_) (a' := ?_) #[true, true, true, true, true, true, true, true, true, true, true, true, true, true, true, true, false, false, false, false, false, false, false, false, false, false, false, false, false, false, false, false, false, false] rfl rfl (by kernel_rfl) (fun _ _ _ h => h) (Or.inl ⟨by rfl, ?_⟩) ?_ ?_
        rotate_left
        · intro w'
          go_simp
          with_reducible rfl
        rotate_left
        · simp only [Act.put, List.setIfInBounds_toArray, List.set_cons_zero, List.set_cons_succ]
          rfl
        refine pure_ (i := 16) (N := some 81) (v := ?_) (a' := ?_) #[true, true, true, true, true, true, true, true, true, true, true, true, true, true, true, true, true, false, false, false, false, false, false, false, false, false, false, false, false, false, false, false, false, false] rfl rfl (by kernel_rfl) (fun _ _ _ h => h) (Or.inl ⟨by rfl, ?_⟩) ?_ ?_
        rotate_left
        · intro w'
          go_simp
          with_reducible rfl
        rotate_left
        · simp only [Act.put, List.setIfInBounds_toArray, List.set_cons_zero, List.set_cons_succ]
          rfl
        refine pure_ (i := 17) (N := some 82) (v := ?_) (a' := ?_) #[true, true, true, true, true, true, true, true, true, true, true, true, true, true, true, true, true, true, false, false, false, false, false, false, false, false, false, false, false, false, false, false, false, false] rfl rfl (by kernel_rfl) (fun _ _ _ h => h) (Or.inl ⟨by rfl, ?_⟩) ?_ ?_
        rotate_left
        · intro w'
          go_simp
          with_reducible rfl
        rotate_left
        · simp only [Act.put, List.setIfInBounds_toArray, List.set_cons_zero, List.set_cons_succ]
          rfl
        refine pure_ (i := 19) (N := some 84) (v := ?_) (a' := ?_) #[true, true, true, true, true, true, true, true, true, true, true, true, true, true, true, true, true, true, false, true, false, false, false, false, false, false, false, false, false, false, false, false, false, false] rfl rfl (by kernel_rfl) (fun _ _ _ h => h) (Or.inl ⟨by rfl, ?_⟩) ?_ ?_
        rotate_left
        · intro w'
          go_simp
          with_reducible rfl
        rotate_left
        · simp only [Act.put, List.setIfInBounds_toArray, List.set_cons_zero, List.set_cons_succ]
          rfl
        refine one_ (i := 18) (N := some 83) #[true, true, true, true, true, true, true, true, true, true, true, true, true, true, true, true, true, true, true, true, false, false, false, false, false, false, false, false, false, false, false, false, false, false] rfl rfl (by kernel_rfl) (by decide) (fun K hK => ?_)
        refine goes_ Tryd.func14 (by kernel_rfl) rfl #[.pointer (some ⟨g2, 0, none⟩)] (by rfl) rfl rfl (by simp only [List.map_toArray, List.map_cons, List.map_nil]; rfl) ?_
        with_reducible refine (HSg.out _ HT23.out).mono ?_
        rintro e w24 ⟨rfl, hb⟩
        refine ⟨_, rfl, ?_⟩
        have HT24 := Aside0.mk (HTb.out _ _ HT23.out hb)
        have s0_24 := HEb.out _ _ _ s0_23 hb
        have s1_24 := HEb.out _ _ _ s1_23 hb
        clear hb
        refine hK.out _ _ ⟨s0_24, s1_24⟩ (fun hHeld => ?_)
        clear hK K
        refine norm_ (a' := ?_) ?_ ?_
        rotate_left
        · show Act.put _ (some 83) _ = _
          simp only [Act.put, List.setIfInBounds_toArray, List.set_cons_zero, List.set_cons_succ]
          rfl
        refine one_ (i := 20) (N := some 85) #[true, true, true, true, true, true, true, true, true, true, true, true, true, true, true, true, true, true, true, true, true, false, false, false, false, false, false, false, false, false, false, false, false, false] rfl rfl (by kernel_rfl) (by decide) (fun K hK => ?_)
        refine goes_ Tryd.func9 (by kernel_rfl) rfl #[.slice Ab lb.length cb] (by rfl) rfl rfl (by simp only [List.map_toArray, List.map_cons, List.map_nil]; rfl) ?_
        with_reducible refine (HSB.out _ HT24.out.b).mono ?_
        rintro e w25 ⟨rfl, hb⟩
        refine ⟨_, rfl, ?_⟩
        have HT25 := Aside0.mk (HTb.out _ _ HT24.out hb)
        have s0_25 := HEb.out _ _ _ s0_24 hb
        have s1_25 := HEb.out _ _ _ s1_24 hb
        clear hb
        refine hK.out _ _ ⟨s0_25, s1_25⟩ (fun hHeld => ?_)
        clear hK K
        refine norm_ (a' := ?_) ?_ ?_
        rotate_left
        · show Act.put _ (some 85) _ = _
          simp only [Act.put, List.setIfInBounds_toArray, List.set_cons_zero, List.set_cons_succ]
          rfl
        refine pure_ (i := 21) (N := some 86) (v := ?_) (a' := ?_) #[true, true, true, true, true, true, true, true, true, true, true, true, true, true, true, true, true, true, true, true, true, true, false, false, false, false, false, false, false, false, false, false, false, false] rfl rfl (by kernel_rfl) (fun _ _ _ h => h) (Or.inl ⟨by rfl, ?_⟩) ?_ ?_
        rotate_left
        · intro w'
          go_simp
          with_reducible rfl
        rotate_left
        · simp only [Act.put, List.setIfInBounds_toArray, List.set_cons_zero, List.set_cons_succ]
          rfl
        refine pure_ (i := 22) (N := some 87) (v := ?_) (a' := ?_) #[true, true, true, true, true, true, true, true, true, true, true, true, true, true, true, true, true, true, true, true, true, true, true, false, false, false, false, false, false, false, false, false, false, false] rfl rfl (by kernel_rfl) (fun _ _ _ h => h) (Or.inl ⟨by rfl, ?_⟩) ?_ ?_
        rotate_left
        · intro w'
          go_simp
          with_reducible rfl
        rotate_left
        · simp only [Act.put, List.setIfInBounds_toArray, List.set_cons_zero, List.set_cons_succ]
          rfl
        refine pure_ (i := 23) (N := some 88) (v := ?_) (a' := ?_) #[true, true, true, true, true, true, true, true, true, true, true, true, true, true, true, true, true, true, true, true, true, true, true, true, false, false, false, false, false, false, false, false, false, false] rfl rfl (by kernel_rfl) (fun _ _ _ h => h) (Or.inl ⟨by rfl, ?_⟩) ?_ ?_
        rotate_left
        · intro w'
          go_simp
          with_reducible rfl
        rotate_left
        · simp only [Act.put, List.setIfInBounds_toArray, List.set_cons_zero, List.set_cons_succ]
          rfl
        refine pure_ (i := 24) (N := some 89) (v := ?_) (a' := ?_) #[true, true, true, true, true, true, true, true, true, true, true, true, true, true, true, true, true, true, true, true, true, true, true, true, true, false, false, false, false, false, false, false, false, false] rfl rfl (by kernel_rfl) (fun _ _ _ h => h) (Or.inl ⟨by rfl, ?_⟩) ?_ ?_
        rotate_left
        · intro w'
          go_simp
          with_reducible rfl
        rotate_left
        · simp only [Act.put, List.setIfInBounds_toArray, List.set_cons_zero, List.set_cons_succ]
          rfl
        refine pure_ (i := 26) (N := some 91) (v := ?_) (a' := ?_) #[true, true, true, true, true, true, true, true, true, true, true, true, true, true, true, true, true, true, true, true, true, true, true, true, true, false, true, false, false, false, false, false, false, false] rfl rfl (by kernel_rfl) (fun _ _ _ h => h) (Or.inl ⟨by rfl, ?_⟩) ?_ ?_
        rotate_left
        · intro w'
          go_simp
          with_reducible rfl
        rotate_left
        · simp only [Act.put, List.setIfInBounds_toArray, List.set_cons_zero, List.set_cons_succ]
          rfl
        refine pure_ (i := 27) (N := some 92) (v := ?_) (a' := ?_) #[true, true, true, true, true, true, true, true, true, true, true, true, true, true, true, true, true, true, true, true, true, true, true, true, true, false, true, true, false, false, false, false, false, false] rfl rfl (by kernel_rfl) (fun _ _ _ h => h) (Or.inl ⟨by rfl, ?_⟩) ?_ ?_
        rotate_left
        · intro w'
          go_simp
          with_reducible rfl
        rotate_left
        · simp only [Act.put, List.setIfInBounds_toArray, List.set_cons_zero, List.set_cons_succ]
          rfl
        refine one_ (i := 25) (N := some 90) #[true, true, true, true, true, true, true, true, true, true, true, true, true, true, true, true, true, true, true, true, true, true, true, true, true, true, true, true, false, false, false, false, false, false] rfl rfl (by kernel_rfl) (by decide) (fun K hK => ?_)
        refine goes_ Tryd.func13 (by kernel_rfl) rfl #[.pointer (some ⟨g2, 0, none⟩)] (by rfl) rfl rfl (by simp only [List.map_toArray, List.map_cons, List.map_nil]; rfl) ?_
        with_reducible refine (holds_len_calls g1 g2 v9 lb _ HT25.out.h2).mono ?_
        rintro e w26 ⟨rfl, rfl⟩
        refine ⟨_, rfl, ?_⟩
        refine hK.out _ _ ⟨s0_25, s1_25⟩ (fun hHeld => ?_)
        clear hK K
        refine norm_ (a' := ?_) ?_ ?_
        rotate_left
        · show Act.put _ (some 90) _ = _
          simp only [Act.put, List.setIfInBounds_toArray, List.set_cons_zero, List.set_cons_succ]
          rfl
        refine pure_ (i := 28) (N := some 93) (v := ?_) (a' := ?_) #[true, true, true, true, true, true, true, true, true, true, true, true, true, true, true, true, true, true, true, true, true, true, true, true, true, true, true, true, true, false, false, false, false, false] rfl rfl (by kernel_rfl) (fun _ _ _ h => h) (Or.inl ⟨by rfl, ?_⟩) ?_ ?_
        rotate_left
        · intro w'
          go_simp
          with_reducible rfl
        rotate_left
        · simp only [Act.put, List.setIfInBounds_toArray, List.set_cons_zero, List.set_cons_succ]
          rfl
        refine pure_ (i := 29) (N := some 94) (v := ?_) (a' := ?_) #[true, true, true, true, true, true, true, true, true, true, true, true, true, true, true, true, true, true, true, true, true, true, true, true, true, true, true, true, true, true, false, false, false, false] rfl rfl (by kernel_rfl) (fun _ _ _ h => h) (Or.inl ⟨by rfl, ?_⟩) ?_ ?_
        rotate_left
        · intro w'
          go_simp
          with_reducible rfl
        rotate_left
        · simp only [Act.put, List.setIfInBounds_toArray, List.set_cons_zero, List.set_cons_succ]
          rfl
        refine pure_ (i := 30) (N := some 95) (v := ?_) (a' := ?_) #[true, true, true, true, true, true, true, true, true, true, true, true, true, true, true, true, true, true, true, true, true, true, true, true, true, true, true, true, true, true, true, false, false, false] rfl rfl (by kernel_rfl) (fun _ _ _ h => h) (Or.inl ⟨by rfl, ?_⟩) ?_ ?_
        rotate_left
        · intro w'
          go_simp
          with_reducible rfl
        rotate_left
        · simp only [Act.put, List.setIfInBounds_toArray, List.set_cons_zero, List.set_cons_succ]
          rfl
        refine one_ (i := 31) (N := some 96) #[true, true, true, true, true, true, true, true, true, true, true, true, true, true, true, true, true, true, true, true, true, true, true, true, true, true, true, true, true, true, true, true, false, false] rfl rfl (by kernel_rfl) (by decide) (fun K hK => ?_)
        refine goes_ Tryd.func8 (by kernel_rfl) rfl #[] (by rfl) rfl rfl (by simp only [List.map_toArray, List.map_nil]) ?_
        with_reducible refine (awake_calls _ (HLfx.out _ HT25.out.b) (HLx.out _ HT25.out.b)).mono ?_
        rintro e w27 ⟨rfl, hb⟩
        refine ⟨_, rfl, ?_⟩
        have HT27 := Aside0.mk (HTb.out _ _ HT25.out hb).b
        have s0_27 := HEb.out _ _ _ s0_25 hb
        have s1_27 := HEb.out _ _ _ s1_25 hb
        refine hK.out _ _ ⟨s0_27, s1_27⟩ (fun hHeld => ?_)
        clear hK K
        refine norm_ (a' := ?_) ?_ ?_
        rotate_left
        · show Act.put _ (some 96) _ = _
          simp only [Act.put, List.setIfInBounds_toArray, List.set_cons_zero, List.set_cons_succ]
          rfl
        refine pure_ (i := 32) (N := some 97) (v := ?_) (a' := ?_) #[true, true, true, true, true, true, true, true, true, true, true, true, true, true, true, true, true, true, true, true, true, true, true, true, true, true, true, true, true, true, true, true, true, false] rfl rfl (by kernel_rfl) (fun _ _ _ h => h) (Or.inl ⟨by rfl, ?_⟩) ?_ ?_
        rotate_left
        · intro w'
          go_simp
          with_reducible rfl
        rotate_left
        · simp only [Act.put, List.setIfInBounds_toArray, List.set_cons_zero, List.set_cons_succ]
          rfl
        refine pure_ (i := 33) (N := some 4) (v := ?_) (a' := ?_) #[true, true, true, true, true, true, true, true, true, true, true, true, true, true, true, true, true, true, true, true, true, true, true, true, true, true, true, true, true, true, true, true, true, true] rfl rfl (by kernel_rfl) (fun _ _ _ h => h) (Or.inl ⟨by rfl, ?_⟩) ?_ ?_
        rotate_left
        · intro w'
          go_simp
          with_reducible rfl
        rotate_left
        · simp only [Act.put, List.setIfInBounds_toArray, List.set_cons_zero, List.set_cons_succ]
          rfl
        refine done_ (by kernel_rfl) ?_
        go_wp2
        go_ret
        exact ⟨rfl, by rw [HGg.out]; exact HT27.out⟩
end Go.Proofs.YtlgljlgbnjjieaaDoor.Sha
