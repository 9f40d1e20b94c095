/- lamport's reference's Bit; a guarded load of a part of a block. -/
import Derived.Test.YtpdficnjjmapmaaDoorRRRBunL6
namespace Go.Proofs.YtpdficnjjmapmaaDoorRRR.Lam
open Go.RowKit Go.Proofs.YtpdficnjjmapmaaDoorRRRW.PrintWords Go.Proofs.YtpdficnjjmapmaaDoorRRRW.PrintLast Go.Proofs.YtpdficnjjmapmaaDoorRRRW.PrintMore Go.Proofs.YtpdficnjjmapmaaDoorRRR.K Go.Proofs.YtpdficnjjmapmaaDoorRRR.Sha Go.Proofs.YtpdficnjjmapmaaDoorRRR.RI
set_option linter.unusedVariables false
set_option linter.unusedSimpArgs false
def BtF (w : World) (pn qd md sd : Nat) (x pw y z : Int) (iv : Nat) (xv : Value) : Prop := match iv with
  | 0 => xv = .int .i64 (pn : Int)
  | 1 => xv = .int .i64 (qd : Int)
  | 2 => xv = .pointer (some ⟨w.heap.size, qd, none⟩)
  | 3 => xv = .int .u8 x
  | 4 => xv = .int .i64 x
  | 5 => xv = .int .i64 (pn : Int)
  | 6 => xv = .int .i64 (md : Int)
  | 7 => xv = .int .i64 (sd : Int)
  | 8 => xv = .int .i64 pw
  | 9 => xv = .int .i64 y
  | 10 => xv = .int .i64 z
  | _ => True
/-- More rounds find what fewer found. -/
theorem reach_le {md : Region.Mode} {ops : Array Oper} {i : Nat} : ∀ (f n d : Nat), f ≤ n → Region.reachB md ops i f d = true → Region.reachB md ops i n d = true
  | 0, _, _, _, h => by cases h
  | f + 1, 0, _, hn, _ => absurd hn (by omega)
  | f + 1, n + 1, d, hn, h => by
    unfold Region.reachB at h ⊢
    cases ho : ops[d]? with
    | none => rw [ho] at h; cases h
    | some o =>
      rw [ho] at h
      obtain ⟨e, he, h1⟩ := Array.any_eq_true'.1 h
      simp only [Bool.and_eq_true, Bool.or_eq_true, beq_iff_eq] at h1
      refine Array.any_eq_true'.2 ⟨e, he, ?_⟩
      simp only [Bool.and_eq_true, Bool.or_eq_true, beq_iff_eq]
      exact ⟨h1.1, h1.2.imp id (fun h2 => reach_le f n e.on (by omega) h2)⟩
theorem reach2 {md : Region.Mode} {ops : Array Oper} {i d : Nat} (h : Region.reachB md ops i 2 d = true) (hn : Nat.ble 2 ops.size = true) : Region.reachB md ops i ops.size d = true := reach_le 2 _ d (Nat.le_of_ble_eq_true hn) h
/-- A guard that holds. -/
theorem wanted_of {ops : Array Oper} {o : Oper} {tm : Array Value} (j d : Nat) (b : Bool) (hg : o.guard = some (j, b)) (hd : (ops[j]?).bind (·.dst) = some d) (ht : tm[d]? = some (.bool b)) : Region.wanted o (yielded ops tm) = true := by
  unfold Region.wanted
  rw [hg]
  simp [yielded, hd, ht]
/-- Two values compared, guarded or not: one step. -/
theorem step_eql {P : Program} {ops : Array Oper} {Q : Exit → Act → World → Prop} {o : Oper} {a : Act} {W : World} {G : Value → World → Prop} {t u : TypeId} {x y : Operand} {X Y V : Value} (hw : Region.wanted o (yielded ops a.tmps) = true) (ho : o.op = .binOp .eql t x y u)
    (hx : a.eval x = X) (hy : a.eval y = Y) (hq : (eqGuard .eql t x y X Y).run P W = .ok () W) (hrun : (binOp .eql t X Y).run P W = .ok V W) (h : G V W) : StepOk P ops Q o a W G :=
  step_value hw (by
    unfold execOp
    simp only [ho, hx, hy, Sem.run_bind, Sem.run_pure, Result.andThen_ok, hq, hrun]) h
theorem guard_dig (x y : Operand) (a b : Array Value) (W : World) : (eqGuard .eql 23 x y (.agg a) (.agg b)).run Tryd.prog W = .ok () W := by simp [eqGuard, go_sem]
/-- A load of a part of a block, guarded or not, that is carried out. -/
theorem wpList_load_midon {P : Program} {ops : Array Oper} {rest : List Oper} {op : Oper} {a : Act} {w : World} {Q : Exit → Act → World → Prop} (hw : Region.wanted op (yielded ops a.tmps) = true) (ty : TypeId) (x : Operand) (ho : op.op = .load ty x)
    (b o : Nat) (hx : a.eval x = .pointer (some ⟨b, o, none⟩)) (cs : List Value) (d : TypeDesc) (hc : w.rangeAt b o cs)
    (hu : P.underlying ty = some d) (hd : d.isRow = true) (hi : (P.info? ty).map (·.size) = some cs.length)
    (h : wpList P ops Q rest (a.put op.dst (.agg cs.toArray)) w) : wpList P ops Q (op :: rest) a w :=
  wpList_step fun K hK => by
    rw [if_pos hw]
    exact wp_load_mid ty x ho b o hx cs d hc hu hd hi (hK _ _ h)
theorem pow_f : ∀ n : Nat, n < 8 → PLamportSecrets.cupelref01_Power.f 90 (n : Int) = some ((2 ^ n : Nat) : Int)
  | 0, _ => by kernel_rfl
  | 1, _ => by kernel_rfl
  | 2, _ => by kernel_rfl
  | 3, _ => by kernel_rfl
  | 4, _ => by kernel_rfl
  | 5, _ => by kernel_rfl
  | 6, _ => by kernel_rfl
  | 7, _ => by kernel_rfl
  | n + 8, h => absurd h (by omega)
set_option maxHeartbeats 4000000 in
set_option maxRecDepth 100000 in
theorem rbit_calls (d : List Int) (pn : Nat) (w : World) (hd : d.length = 32) (hby : ∀ x ∈ d, 0 ≤ x ∧ x < 256) (hi : pn < 256) :
    Calls Tryd.prog 12 #[.agg (dA d), .int .i64 (pn : Int)] w fun e w' => e = .returned (.int .i64 (bitV d pn : Nat)) ∧ Below w.heap.size w w' := by
  have HB1 : Aside0 (Below w.heap.size w (w.alloc (.cells (dA d) 23))) := ⟨bel_alloc (Below.refl _ _) _⟩
  have hx := byte_at hby (pn / 8)
  have HC : Aside0 ((w.alloc (.cells (dA d) 23)).cell? ⟨w.heap.size, pn / 8, none⟩ = some (.int .u8 (d.getD (pn / 8) 0))) := ⟨(blk_cell (heap_alloc_new w (.cells (dA d) 23)) (pn / 8)).trans (dA_get d _ (by omega))⟩
  have HV : Aside0 (bitV d pn = (d.getD (pn / 8) 0).toNat / 2 ^ (7 - pn % 8) % 2) := ⟨rfl⟩
  have HQ0 : Aside0 ((pn : Int) / 8 = ((pn / 8 : Nat) : Int) ∧ pn / 8 < 32 ∧ (pn : Int) % 8 = ((pn % 8 : Nat) : Int) ∧ IntKind.i64.wrap (7 - ((pn % 8 : Nat) : Int)) = ((7 - pn % 8 : Nat) : Int) ∧ 7 - ((pn % 8 : Nat) : Int) = ((7 - pn % 8 : Nat) : Int)) := ⟨by omega, by omega, by omega, by rw [IntKind.wrap_i64]; omega, by omega⟩
  have HP0 := Aside0.mk (pow_f (7 - pn % 8) (by omega))
  have HP1 : Aside0 (0 < 2 ^ (7 - pn % 8)) := ⟨Nat.pow_pos (by decide)⟩
  obtain ⟨V, hVe⟩ : ∃ V, V = bitV d pn := ⟨_, rfl⟩
  rw [← hVe] at HV ⊢
  clear hby hd hi hVe
  generalize d.getD (pn / 8) 0 = x at *
  generalize 7 - pn % 8 = sd at *
  generalize pn % 8 = md at *
  generalize pn / 8 = qd at *
  have HQ := HQ0
  have HX : Aside0 (0 ≤ x ∧ x < 256 ∧ IntKind.i64.wrap x = x) := ⟨hx.1, hx.2, by rw [IntKind.wrap_i64]; omega⟩
  obtain ⟨n, rfl⟩ : ∃ n : Nat, x = (n : Int) := ⟨x.toNat, by omega⟩
  rw [Int.toNat_natCast] at HV
  generalize 2 ^ sd = pp at *
  have h2 : n / pp ≤ n := Nat.div_le_self _ _
  obtain ⟨x, hxe⟩ : ∃ x : Int, x = (n : Int) := ⟨_, rfl⟩
  obtain ⟨pw, hpe⟩ : ∃ pw : Int, pw = (pp : Int) := ⟨_, rfl⟩
  obtain ⟨y, hye⟩ : ∃ y : Int, y = ((n / pp : Nat) : Int) := ⟨_, rfl⟩
  obtain ⟨z, hze⟩ : ∃ z : Int, z = ((n / pp % 2 : Nat) : Int) := ⟨_, rfl⟩
  have HP : Aside0 (PLamportSecrets.cupelref01_Power.f 90 (sd : Int) = some pw ∧ 0 < pw) := ⟨by rw [hpe]; exact HP0.out, by rw [hpe]; have := HP1.out; omega⟩
  have h3 : (0 : Int) ≤ ((n / pp : Nat) : Int) := Int.natCast_nonneg _
  have HY : Aside0 (x / pw = y ∧ IntKind.i64.wrap y = y ∧ y % 2 = z ∧ 0 ≤ y) := ⟨by rw [hxe, hpe, hye]; simp, by rw [IntKind.wrap_i64]; omega, by rw [hye, hze]; omega, by omega⟩
  have HY2 : Aside0 (wrap64 (x.tdiv pw) = y) := ⟨by rw [Int.tdiv_eq_ediv_of_nonneg (by omega), HY.out.1]; unfold wrap64; omega⟩
  have HQw : Aside0 (wrap64 ((qd : Nat) : Int) = (qd : Int)) := ⟨by have := HQ.out.2.1; unfold wrap64; omega⟩
  have HZ : Aside0 (z = (V : Int)) := ⟨by rw [hze, HV.out]⟩
  rw [← hxe] at HC HX
  clear HP0 HP1 HV hxe hpe hye hze h2 h3 hx HQ0
  go_enter Tryd.func12, Tryd.ntmps12
  go_upto_region 1 with (fail)
  generalize w.alloc (.cells (dA d) 23) = w1 at *
  refine wp_region_mono 11 [false, false, false, false, true, true, true, true, true, true, true, true, true, true, true, true] (by kernel_rfl) (by kernel_rfl) (fun W => Drawn0 w1 W) (fun W W' => True) (fun iv xv _ => BtF w pn qd md sd x pw y z iv xv) (fun _ _ _ _ _ _ h => h) ⟨⟨1, rfl⟩⟩ ?_
  refine ⟨?_, ?_, ?_, ?_, ?_, ?_, ?_, ?_, ?_, ?_, ?_, ?_, trivial⟩
  · intro v W hb hd
    obtain ⟨⟨nd, rfl⟩⟩ := hb
    refine step_list fun K hK => ?_
    simp only [fill_lit, fillL, Act.put, List.setIfInBounds_toArray, List.set_cons_zero, List.set_cons_succ, Nat.reduceAdd] at hK ⊢
    clear hd
    go_wp2
    first | first | exact ⟨⟨⟨nd, rfl⟩⟩, trivial, rfl⟩ | exact ⟨⟨⟨nd, rfl⟩⟩, rfl⟩ | exact rfl | exact ⟨⟨⟨nd, rfl⟩⟩, rfl⟩
  · intro v W hb hd
    obtain ⟨⟨nd, rfl⟩⟩ := hb
    have hq := HQ.out.1
    have h0 : v 5 = .int .i64 (pn : Int) := hd 0 (by kernel_rfl)
    refine step_list fun K hK => ?_
    simp only [fill_lit, fillL, Act.put, List.setIfInBounds_toArray, List.set_cons_zero, List.set_cons_succ, Nat.reduceAdd] at hK ⊢
    rw [h0] at hK ⊢
    clear hd h0
    go_wp2
    first | exact ⟨⟨⟨nd, rfl⟩⟩, trivial, by rw [HQw.out]; rfl⟩ | exact ⟨⟨⟨nd, rfl⟩⟩, by rw [HQw.out]; rfl⟩
  · intro v W hb hd
    obtain ⟨⟨nd, rfl⟩⟩ := hb
    have hql := HQ.out.2.1
    have h1 : v 6 = .int .i64 (qd : Int) := hd 1 (by kernel_rfl)
    refine step_list fun K hK => ?_
    simp only [fill_lit, fillL, Act.put, List.setIfInBounds_toArray, List.set_cons_zero, List.set_cons_succ, Nat.reduceAdd] at hK ⊢
    rw [h1] at hK ⊢
    clear hd h1
    go_wp2
    first | first | exact ⟨⟨⟨nd, rfl⟩⟩, trivial, rfl⟩ | exact ⟨⟨⟨nd, rfl⟩⟩, rfl⟩ | exact rfl | exact ⟨⟨⟨nd, rfl⟩⟩, rfl⟩
  · intro v W hb hd
    obtain ⟨⟨nd, rfl⟩⟩ := hb
    have hc : (w1.drewN nd).cell? ⟨w.heap.size, qd, none⟩ = some (.int .u8 x) := HC.out
    have h2 : v 7 = .pointer (some ⟨w.heap.size, qd, none⟩) := hd 2 (by kernel_rfl)
    refine step_list fun K hK => ?_
    simp only [fill_lit, fillL, Act.put, List.setIfInBounds_toArray, List.set_cons_zero, List.set_cons_succ, Nat.reduceAdd] at hK ⊢
    rw [h2] at hK ⊢
    clear hd h2
    go_wp2
    first | first | exact ⟨⟨⟨nd, rfl⟩⟩, trivial, rfl⟩ | exact ⟨⟨⟨nd, rfl⟩⟩, rfl⟩ | exact rfl | exact ⟨⟨⟨nd, rfl⟩⟩, rfl⟩
  · intro v W hb hd
    obtain ⟨⟨nd, rfl⟩⟩ := hb
    have hx := HX.out.1
    have hx2 := HX.out.2.1
    have hwx := HX.out.2.2
    have h3 : v 8 = .int .u8 x := hd 3 (by kernel_rfl)
    refine step_list fun K hK => ?_
    simp only [fill_lit, fillL, Act.put, List.setIfInBounds_toArray, List.set_cons_zero, List.set_cons_succ, Nat.reduceAdd] at hK ⊢
    rw [h3] at hK ⊢
    clear hd h3
    go_wp2
    first | first | exact ⟨⟨⟨nd, rfl⟩⟩, trivial, rfl⟩ | exact ⟨⟨⟨nd, rfl⟩⟩, rfl⟩ | exact rfl | exact ⟨⟨⟨nd, rfl⟩⟩, rfl⟩
  · intro v W hb hd
    obtain ⟨⟨nd, rfl⟩⟩ := hb
    refine step_list fun K hK => ?_
    simp only [fill_lit, fillL, Act.put, List.setIfInBounds_toArray, List.set_cons_zero, List.set_cons_succ, Nat.reduceAdd] at hK ⊢
    clear hd
    go_wp2
    first | first | exact ⟨⟨⟨nd, rfl⟩⟩, trivial, rfl⟩ | exact ⟨⟨⟨nd, rfl⟩⟩, rfl⟩ | exact rfl | exact ⟨⟨⟨nd, rfl⟩⟩, rfl⟩
  · intro v W hb hd
    obtain ⟨⟨nd, rfl⟩⟩ := hb
    have h5 : v 10 = .int .i64 (pn : Int) := hd 5 (by kernel_rfl)
    refine step_list fun K hK => ?_
    simp only [fill_lit, fillL, Act.put, List.setIfInBounds_toArray, List.set_cons_zero, List.set_cons_succ, Nat.reduceAdd] at hK ⊢
    rw [h5] at hK ⊢
    clear hd h5
    go_wp2
    first | exact ⟨⟨⟨nd, rfl⟩⟩, trivial, by rw [HQ.out.2.2.1]; rfl⟩ | exact ⟨⟨⟨nd, rfl⟩⟩, by rw [HQ.out.2.2.1]; rfl⟩
  · intro v W hb hd
    obtain ⟨⟨nd, rfl⟩⟩ := hb
    have hs1 := HQ.out.2.2.2.1
    have hs2 := HQ.out.2.2.2.2
    have h6 : v 11 = .int .i64 (md : Int) := hd 6 (by kernel_rfl)
    refine step_list fun K hK => ?_
    simp only [fill_lit, fillL, Act.put, List.setIfInBounds_toArray, List.set_cons_zero, List.set_cons_succ, Nat.reduceAdd] at hK ⊢
    rw [h6] at hK ⊢
    clear hd h6
    go_wp2
    first | first | exact ⟨⟨⟨nd, rfl⟩⟩, trivial, rfl⟩ | exact ⟨⟨⟨nd, rfl⟩⟩, rfl⟩ | exact rfl | exact ⟨⟨⟨nd, rfl⟩⟩, rfl⟩
  · intro v W hb hd
    obtain ⟨⟨nd, rfl⟩⟩ := hb
    have h7 : v 12 = .int .i64 (sd : Int) := hd 7 (by kernel_rfl)
    refine step_list fun K hK => ?_
    simp only [fill_lit, fillL, Act.put, List.setIfInBounds_toArray, List.set_cons_zero, List.set_cons_succ, Nat.reduceAdd] at hK ⊢
    rw [h7] at hK ⊢
    clear hd h7
    go_wp2_with (refine (power_q 90 (sd : Int) pw w1 nd HP.out.1).mono ?_; rintro e w6 ⟨rfl, nm, rfl⟩)
    first | exact ⟨⟨⟨_, rfl⟩⟩, trivial, rfl⟩ | exact ⟨⟨⟨_, rfl⟩⟩, rfl⟩ | exact rfl
  · intro v W hb hd
    obtain ⟨⟨nd, rfl⟩⟩ := hb
    have hpw0 := HP.out.2
    have hpw1 : (pw == 0) = false := by simp; omega
    have h4 : v 9 = .int .i64 x := hd 4 (by kernel_rfl)
    have h8 : v 13 = .int .i64 pw := hd 8 (by kernel_rfl)
    refine step_list fun K hK => ?_
    simp only [fill_lit, fillL, Act.put, List.setIfInBounds_toArray, List.set_cons_zero, List.set_cons_succ, Nat.reduceAdd] at hK ⊢
    rw [h4, h8] at hK ⊢
    clear hd h4 h8
    go_wp2
    first | exact ⟨⟨⟨nd, rfl⟩⟩, trivial, by rw [HY2.out]; rfl⟩ | exact ⟨⟨⟨nd, rfl⟩⟩, by rw [HY2.out]; rfl⟩
  · intro v W hb hd
    obtain ⟨⟨nd, rfl⟩⟩ := hb
    have hy0 := HY.out.2.2.2
    have h9 : v 14 = .int .i64 y := hd 9 (by kernel_rfl)
    refine step_list fun K hK => ?_
    simp only [fill_lit, fillL, Act.put, List.setIfInBounds_toArray, List.set_cons_zero, List.set_cons_succ, Nat.reduceAdd] at hK ⊢
    rw [h9] at hK ⊢
    clear hd h9
    go_wp2
    first | exact ⟨⟨⟨nd, rfl⟩⟩, trivial, by rw [HY.out.2.2.1]; rfl⟩ | exact ⟨⟨⟨nd, rfl⟩⟩, by rw [HY.out.2.2.1]; rfl⟩
  · intro v W hb hd
    obtain ⟨⟨nd, rfl⟩⟩ := hb
    have h10 : v 15 = .int .i64 z := hd 10 (by kernel_rfl)
    refine step_list fun K hK => ?_
    simp only [fill_lit, fillL, Act.put, List.setIfInBounds_toArray, List.set_cons_zero, List.set_cons_succ, Nat.reduceAdd] at hK ⊢
    rw [h10] at hK ⊢
    clear hd h10
    go_wp2
    go_ret
    exact ⟨by rw [← HZ.out]; rfl, pw_below_drewN HB1.out nd⟩
end Go.Proofs.YtpdficnjjmapmaaDoorRRR.Lam

