/- Texts put together: LamAwake, RefJoin, RefPure, RefThree. -/
import Derived.Test.YtpdficnjjmapmaaDoorRRRBunL3
import Derived.Test.YtpdficnjjmapmaaDoorRRRPLamportSecretsx1
import Derived.Great.BuildSlice
import Derived.Deep.WholeRow
set_option linter.unusedVariables false
set_option linter.unusedSimpArgs false
namespace Go.Proofs.YtpdficnjjmapmaaDoorRRR.Lam
open Go.RowKit Go.Proofs.YtpdficnjjmapmaaDoorRRRW.PrintWords Go.Proofs.YtpdficnjjmapmaaDoorRRRW.PrintLast Go.Proofs.YtpdficnjjmapmaaDoorRRRW.PrintMore Go.Proofs.YtpdficnjjmapmaaDoorRRR.K Go.Proofs.YtpdficnjjmapmaaDoorRRR.Sha Go.Proofs.YtpdficnjjmapmaaDoorRRR.RI
set_option linter.unusedVariables false
set_option linter.unusedSimpArgs false
/-- A guarded load of a whole array that is carried out. -/
theorem wpList_load_on {P : Program} {ops : Array Oper} {rest : List Oper} {o : Oper} {a : Act} {w : World} {Q : Exit → Act → World → Prop} (hw : Region.wanted o (yielded ops a.tmps) = true) (ty : TypeId) (x : Operand) (ho : o.op = .load ty x)
    (g : Nat) (hx : a.eval x = .pointer (some ⟨g, 0, none⟩)) (t : TypeId) (cs : Array Value) (fr : Nat × Nat) (d : TypeDesc) (hg : w.heap[g]? = some (.cells cs t fr))
    (hu : P.underlying ty = some d) (hd : (match d with | .struct _ | .array _ _ => true | _ => false) = true) (hi : (P.info? ty).map (·.size) = some cs.size)
    (h : wpList P ops Q rest (a.put o.dst (.agg cs)) w) : wpList P ops Q (o :: rest) a w :=
  wpList_step fun K hK => by
    rw [if_pos hw]
    exact wp_load_row ty x ho g hx t cs fr d hg hu hd hi (hK _ _ h)
def seedL : List Int := 1 :: List.replicate 31 0
def msgL : List Int := 2 :: 3 :: List.replicate 30 0
theorem seed_lit : (#[.int .u8 1, .int .u8 0, .int .u8 0, .int .u8 0, .int .u8 0, .int .u8 0, .int .u8 0, .int .u8 0, .int .u8 0, .int .u8 0, .int .u8 0, .int .u8 0, .int .u8 0, .int .u8 0, .int .u8 0, .int .u8 0, .int .u8 0, .int .u8 0, .int .u8 0, .int .u8 0, .int .u8 0, .int .u8 0, .int .u8 0, .int .u8 0, .int .u8 0, .int .u8 0, .int .u8 0, .int .u8 0, .int .u8 0, .int .u8 0, .int .u8 0, .int .u8 0] : Array Value) = dA seedL := by kernel_rfl
theorem msg_lit : (#[.int .u8 2, .int .u8 3, .int .u8 0, .int .u8 0, .int .u8 0, .int .u8 0, .int .u8 0, .int .u8 0, .int .u8 0, .int .u8 0, .int .u8 0, .int .u8 0, .int .u8 0, .int .u8 0, .int .u8 0, .int .u8 0, .int .u8 0, .int .u8 0, .int .u8 0, .int .u8 0, .int .u8 0, .int .u8 0, .int .u8 0, .int .u8 0, .int .u8 0, .int .u8 0, .int .u8 0, .int .u8 0, .int .u8 0, .int .u8 0, .int .u8 0, .int .u8 0] : Array Value) = dA msgL := by kernel_rfl
theorem seed_len : seedL.length = 32 := rfl
theorem msg_len : msgL.length = 32 := rfl
theorem seed_byte : ∀ x ∈ seedL, 0 ≤ x ∧ x < 256 := by decide
theorem msg_byte : ∀ x ∈ msgL, 0 ≤ x ∧ x < 256 := by decide
theorem bit0 : bitV msgL 0 = 0 := by decide
theorem shaV_two (l : List Int) (h : 56 ≤ l.length) (h2 : l.length < 64) : shaV l = digL (turnV (turnV init ((l ++ (tail1 l.length ++ be8 (8 * l.length))).take 64)) ((l ++ (tail1 l.length ++ be8 (8 * l.length))).drop 64)) := by
  have e : (l ++ (tail1 l.length ++ be8 (8 * l.length))).length = 128 := by
    simp only [List.length_append, tail1, List.length_cons, List.length_replicate, be8, List.length_nil]
    omega
  unfold shaV sumOf
  rw [absorb_ge (by omega), absorb_ge (by rw [List.length_drop]; omega), absorb_lt (by rw [List.length_drop, List.length_drop]; omega), List.take_of_length_le (l := List.drop 64 _) (by rw [List.length_drop]; omega)]
set_option maxRecDepth 100000 in
theorem sec0 : (secV seedL 0 0 == zeros 32) = false := by
  unfold secV
  rw [shaV_two _ (by decide) (by decide)]
  decide +kernel
theorem sigV_byte (s m : List Int) : ∀ x ∈ sigV s m, 0 ≤ x ∧ x < 256 := fun x hx => by
  rcases List.mem_append.1 hx with h | h
  · exact spread_byte (openF_byte s m) 256 x h
  · exact spread_byte (restF_byte s m) 256 x h
def AwF (S P X : List Int) (iv : Nat) (xv : Value) (W : World) : Prop := match iv with
  | 0 => xv = .agg (dA msgL)
  | 1 => xv = .agg (dA S)
  | 2 => xv = .agg (dA P)
  | 3 => xv = .agg (dA seedL)
  | 4 => xv = .agg (dA P)
  | 5 => xv = .bool true
  | 6 => xv = .bool true
  | 7 => xv = .agg (dA X)
  | 8 => xv = .agg (dA X)
  | 9 => xv = .bool true
  | 10 => xv = .bool true
  | 11 => xv = .bool true
  | 12 => xv = .int .i64 0
  | 13 => xv = .bool true
  | 14 => xv = .bool true
  | 15 => xv = .bool true
  | 16 => xv = .agg (dA X)
  | 17 => xv = .agg (dA (zeros 32))
  | 18 => xv = .bool true
  | 19 => xv = .bool true
  | 20 => xv = .bool true
  | 21 => xv = .agg (dA S)
  | 22 => ∃ A c, xv = .slice A 16384 c ∧ Kd.C (Kd.int .u8) W A 16384 S
  | 23 => xv = .int .i64 16384
  | 24 => xv = .bool true
  | 25 => xv = .bool true
  | _ => True
theorem AwF.step (S P X : List Int) (i : Nat) (x : Value) (W W' : World) (hb : Below W.heap.size W W') (h : AwF S P X i x W) : AwF S P X i x W' := by
  unfold AwF at *
  split <;> simp only at h ⊢
  · exact h
  · exact h
  · exact h
  · exact h
  · exact h
  · exact h
  · exact h
  · exact h
  · exact h
  · exact h
  · exact h
  · exact h
  · exact h
  · exact h
  · exact h
  · exact h
  · exact h
  · exact h
  · exact h
  · exact h
  · exact h
  · exact h
  · obtain ⟨A, c, e, h⟩ := h; exact ⟨A, c, e, Kd.C_below h hb⟩
  · exact h
  · exact h
  · exact h
set_option maxHeartbeats 8000000 in
set_option maxRecDepth 100000 in
theorem awake_calls (w : World) (hLf : LaidAt w 0 firstA) (hL : LaidAt w 1 constA) :
    Calls Tryd.prog 7 #[] w fun e w' => e = .returned (.bool true) ∧ Below w.heap.size w w' := by
  have HLf := Aside0.mk hLf
  have HL := Aside0.mk hL
  have HSi := Aside0.mk (dig_info seed_len)
  have HSz := Aside0.mk (zz_size seed_len)
  have HSo := Aside0.mk (dA_one seedL)
  have HMi := Aside0.mk (dig_info msg_len)
  have HMz := Aside0.mk (zz_size msg_len)
  have HMo := Aside0.mk (dA_one msgL)
  have HSd1 : Aside0 ((w.alloc (.cells (dA seedL) 23)).heap[w.heap.size]? = some (.cells (dA seedL) 23 (0, 0))) := ⟨heap_alloc_new _ _⟩
  have HB1 : Aside0 (Below w.heap.size w (w.alloc (.cells (dA seedL) 23))) := ⟨bel_alloc (Below.refl _ _) _⟩
  clear hLf hL
  go_enter Tryd.func7, Tryd.ntmps7
  go_upto_region 2 with (rw [z32_lit]; rw [seed_lit]; (with_reducible refine wpList_store_row rfl 23 (.tmp 1) (.tmp 7) rfl w.heap.size (dA seedL) rfl rfl 23 (dA (List.replicate 32 0)) (heap_alloc_new _ _) HSi.out HSz.out HSo.out ?_); rw [World.setRow_alloc_new])
  generalize w.alloc (.cells (dA seedL) 23) = w1 at *
  have HMs2 : Aside0 ((w1.alloc (.cells (dA msgL) 23)).heap[w1.heap.size]? = some (.cells (dA msgL) 23 (0, 0))) := ⟨heap_alloc_new _ _⟩
  have HB2 : Aside0 (Below w.heap.size w (w1.alloc (.cells (dA msgL) 23))) := ⟨bel_alloc HB1.out _⟩
  have HSd2 : Aside0 ((w1.alloc (.cells (dA msgL) 23)).heap[w.heap.size]? = some (.cells (dA seedL) 23 (0, 0))) := ⟨((bel_alloc (Below.refl _ _) _).block _ (blk_lt HSd1.out)).trans HSd1.out⟩
  go_upto_region 3 with (rw [z32_lit]; rw [msg_lit]; (with_reducible refine wpList_store_row rfl 23 (.tmp 2) (.tmp 8) rfl w1.heap.size (dA msgL) rfl rfl 23 (dA (List.replicate 32 0)) (heap_alloc_new _ _) HMi.out HMz.out HMo.out ?_); rw [World.setRow_alloc_new])
  generalize w1.heap.size = gm at *
  generalize w1.alloc (.cells (dA msgL) 23) = w2 at *
  go_wp2_with (first
    | (with_reducible refine wpList_load_row rfl 23 (.tmp 1) rfl w.heap.size rfl 23 (dA seedL) (0, 0) _ HSd2.out Tryd.underlying23 rfl HSi.out ?_)
    | (with_reducible refine wpList_load_row rfl 23 (.tmp 2) rfl (gm) rfl 23 (dA msgL) (0, 0) _ HMs2.out Tryd.underlying23 rfl HMi.out ?_))
  refine (sign_calls seedL msgL w2 seed_len seed_byte msg_len msg_byte (HLf.out.below HB2.out) (HL.out.below HB2.out)).mono ?_
  rintro e w3 ⟨rfl, hb⟩
  have HB3 := Aside0.mk (below_step HB2.out hb)
  have HSd3 : Aside0 (w3.heap[w.heap.size]? = some (.cells (dA seedL) 23 (0, 0))) := ⟨(hb.block _ (blk_lt HSd2.out)).trans HSd2.out⟩
  have HMs3 : Aside0 (w3.heap[gm]? = some (.cells (dA msgL) 23 (0, 0))) := ⟨(hb.block _ (blk_lt HMs2.out)).trans HMs2.out⟩
  have HVl := Aside0.mk (sigV_len seedL msgL)
  have HVy := Aside0.mk (sigV_byte seedL msgL)
  have HPe0 := Aside0.mk (keyOf_sig seedL msgL)
  have HO0 : Aside0 (openA (sigV seedL msgL) 0 = secV seedL 0 0) := ⟨by rw [openA_sig _ _ 0 (by decide)]; unfold openF; rw [bit0]⟩
  clear hb HB2 HSd2 HMs2
  obtain ⟨S, hS⟩ : ∃ S, S = sigV seedL msgL := ⟨_, rfl⟩
  rw [← hS] at HVl HVy HPe0 HO0 ⊢
  clear hS
  have HPl : Aside0 ((pubV seedL).length = 32) := ⟨shaV_length _⟩
  obtain ⟨P, hP⟩ : ∃ P, P = pubV seedL := ⟨_, rfl⟩
  rw [← hP] at HPl HPe0
  have HPf := Aside0.mk hP
  have HPe := Aside0.mk HPe0.out.symm
  have HXl := Aside0.mk (secV_len seedL 0 0)
  have HXn := Aside0.mk sec0
  obtain ⟨X, hX⟩ : ∃ X, X = secV seedL 0 0 := ⟨_, rfl⟩
  rw [← hX] at HXl HXn HO0
  have HXe := Aside0.mk hX
  clear hP hX HPe0
  have HVi : Aside0 ((Tryd.prog.info? 34).map (·.size) = some (dA S).size) := ⟨by rw [sig_size, dA_size, HVl.out]⟩
  have HVz : Aside0 ((dA (zeros 16384)).size = (dA S).size) := ⟨by rw [dA_size, dA_size, HVl.out]; simp [zeros]⟩
  have HVo := Aside0.mk (dA_one S)
  have HXi := Aside0.mk (dig_info HXl.out)
  have HXz := Aside0.mk (zz_size HXl.out)
  have HXo := Aside0.mk (dA_one X)
  have HXr : Aside0 ((Tryd.prog.info? 23).map (·.size) = some (nums .u8 X).length) := ⟨by rw [HXi.out, dA_size]; simp [nums]⟩
  have HRg : Aside0 ((w3.alloc (.cells (dA S) 34)).rangeAt w3.heap.size 0 (nums .u8 X)) := ⟨by
    have h1 := dA_range (heap_alloc_new w3 (.cells (dA S) 34)) 0 32
    rw [← HO0.out]
    exact h1⟩
  have HB4 : Aside0 (Below w.heap.size w (w3.alloc (.cells (dA S) 34))) := ⟨bel_alloc HB3.out _⟩
  have HSd4 : Aside0 ((w3.alloc (.cells (dA S) 34)).heap[w.heap.size]? = some (.cells (dA seedL) 23 (0, 0))) := ⟨((bel_alloc (Below.refl _ _) _).block _ (blk_lt HSd3.out)).trans HSd3.out⟩
  have HMs4 : Aside0 ((w3.alloc (.cells (dA S) 34)).heap[gm]? = some (.cells (dA msgL) 23 (0, 0))) := ⟨((bel_alloc (Below.refl _ _) _).block _ (blk_lt HMs3.out)).trans HMs3.out⟩
  have HSg4 : Aside0 ((w3.alloc (.cells (dA S) 34)).heap[w3.heap.size]? = some (.cells (dA S) 34 (0, 0))) := ⟨heap_alloc_new _ _⟩
  go_upto_region 4 with (first
    | (with_reducible refine wpList_alloc_big rfl 34 rfl (some 3) rfl _ _ sig_zero ?_)
    | ((with_reducible refine wpList_store_row rfl 34 (.tmp 3) (.tmp 11) rfl w3.heap.size (dA S) rfl rfl 34 (dA (zeros 16384)) (heap_alloc_new _ _) HVi.out HVz.out HVo.out ?_); rw [World.setRow_alloc_new]))
  generalize w3.heap.size = g3 at *
  generalize w3.alloc (.cells (dA S) 34) = w4 at *
  clear HB3 HSd3 HMs3
  have HK5 : Aside0 (∀ (g : Nat) (o : Obj), w4.heap[g]? = some o → (w4.alloc (.cells (dA X) 23)).heap[g]? = some o) := ⟨fun g o h => ((bel_alloc (Below.refl _ _) _).block _ (Array.getElem?_eq_some_iff.1 h).1).trans h⟩
  have HSd5 := Aside0.mk (HK5.out _ _ HSd4.out)
  have HMs5 := Aside0.mk (HK5.out _ _ HMs4.out)
  have HSg5 := Aside0.mk (HK5.out _ _ HSg4.out)
  have HX5 : Aside0 ((w4.alloc (.cells (dA X) 23)).heap[w4.heap.size]? = some (.cells (dA X) 23 (0, 0))) := ⟨heap_alloc_new _ _⟩
  have HB5 : Aside0 (Below w.heap.size w (w4.alloc (.cells (dA X) 23))) := ⟨bel_alloc HB4.out _⟩
  go_wp2_with (first
    | (with_reducible refine wpList_load_mid rfl 23 (.tmp 13) rfl _ _ rfl (nums .u8 X) _ HRg.out Tryd.underlying23 rfl HXr.out ?_)
    | (rw [z32_lit]; (with_reducible refine wpList_store_row rfl 23 (.tmp 4) (.tmp 14) rfl w4.heap.size (dA X) rfl rfl 23 (dA (List.replicate 32 0)) (heap_alloc_new _ _) HXi.out HXz.out HXo.out ?_); rw [World.setRow_alloc_new])
    | (with_reducible refine wpList_load_row rfl 23 (.tmp 1) rfl w.heap.size rfl 23 (dA seedL) (0, 0) _ HSd5.out Tryd.underlying23 rfl HSi.out ?_))
  generalize w4.heap.size = g4 at *
  generalize w4.alloc (.cells (dA X) 23) = w5 at *
  clear HB4 HSd4 HMs4 HSg4 HK5 HRg
  refine (secrets_ok seedL 0 0 w5 seed_len seed_byte (by decide) (by decide) (HLf.out.below HB5.out) (HL.out.below HB5.out)).mono ?_
  rintro e w6 ⟨rfl, hb⟩
  have HB6' := Aside0.mk (below_step HB5.out hb)
  have HSd6 : Aside0 (w6.heap[w.heap.size]? = some (.cells (dA seedL) 23 (0, 0))) := ⟨(hb.block _ (blk_lt HSd5.out)).trans HSd5.out⟩
  have HMs6 : Aside0 (w6.heap[gm]? = some (.cells (dA msgL) 23 (0, 0))) := ⟨(hb.block _ (blk_lt HMs5.out)).trans HMs5.out⟩
  have HSg6 : Aside0 (w6.heap[g3]? = some (.cells (dA S) 34 (0, 0))) := ⟨(hb.block _ (blk_lt HSg5.out)).trans HSg5.out⟩
  have HX6 : Aside0 (w6.heap[g4]? = some (.cells (dA X) 23 (0, 0))) := ⟨(hb.block _ (blk_lt HX5.out)).trans HX5.out⟩
  clear hb HB5 HSd5 HMs5 HSg5 HX5
  rw [← HXe.out]
  have HK : Aside0 (∀ (g : Nat) (o : Obj), w6.heap[g]? = some o → (w6.alloc (.cells (dA X) 23)).heap[g]? = some o) := ⟨fun g o h => ((bel_alloc (Below.refl _ _) _).block _ (Array.getElem?_eq_some_iff.1 h).1).trans h⟩
  have HSd := Aside0.mk (HK.out _ _ HSd6.out)
  have HMs := Aside0.mk (HK.out _ _ HMs6.out)
  have HSg := Aside0.mk (HK.out _ _ HSg6.out)
  have HX4 := Aside0.mk (HK.out _ _ HX6.out)
  have HX5 : Aside0 ((w6.alloc (.cells (dA X) 23)).heap[w6.heap.size]? = some (.cells (dA X) 23 (0, 0))) := ⟨heap_alloc_new _ _⟩
  have HB6 : Aside0 (Below w.heap.size w (w6.alloc (.cells (dA X) 23))) := ⟨bel_alloc HB6'.out _⟩
  go_upto_region 6 with (rw [z32_lit]; (with_reducible refine wpList_store_row rfl 23 (.tmp 5) (.tmp 18) rfl w6.heap.size (dA X) rfl rfl 23 (dA (List.replicate 32 0)) (heap_alloc_new _ _) HXi.out HXz.out HXo.out ?_); rw [World.setRow_alloc_new])
  generalize w6.heap.size = g5 at *
  generalize w6.alloc (.cells (dA X) 23) = wq at *
  clear HB6' HSd6 HMs6 HSg6 HX6 HK w6
  rename World => w6
  refine wp_region_mono 26 [true, false, false, false, false, false, false, false, false, false, false, false, false, false, false, false, false, false, false, false, true, true, true, true, true, true, true, true, true, true, true, true, true, true, true, true, true, true, true, true, true, true, true, true, true, true] (by kernel_rfl) (by kernel_rfl) (fun W => Below w6.heap.size w6 W) (fun W W' => Below W.heap.size W W') (AwF S P X) (fun iv xv W W' _ hb h => AwF.step S P X iv xv W W' hb h) (below_drew (Below.refl _ _)) ?_
  refine ⟨?_, ?_, ?_, ?_, ?_, ?_, ?_, ?_, ?_, ?_, ?_, ?_, ?_, ?_, ?_, ?_, ?_, ?_, ?_, ?_, ?_, ?_, ?_, ?_, ?_, ?_, ?_, trivial⟩
  · intro v W hb hd
    have HMsw : Aside0 (W.heap[gm]? = some (.cells (dA msgL) 23 (0, 0))) := ⟨(hb.block _ (blk_lt HMs.out)).trans HMs.out⟩
    refine step_list fun K hK => ?_
    simp only [fill_lit, fillL, Act.put, List.setIfInBounds_toArray, List.set_cons_zero, List.set_cons_succ, Nat.reduceAdd] at hK ⊢
    clear hd
    go_wp2_with (refine wpList_load_on (by rfl) 23 (.tmp 2) rfl gm rfl 23 (dA msgL) (0, 0) _ HMsw.out Tryd.underlying23 rfl HMi.out ?_)
    exact ⟨hb, Below.refl _ _, rfl⟩
  · intro v W hb hd
    have HSgw : Aside0 (W.heap[g3]? = some (.cells (dA S) 34 (0, 0))) := ⟨(hb.block _ (blk_lt HSg.out)).trans HSg.out⟩
    refine step_list fun K hK => ?_
    simp only [fill_lit, fillL, Act.put, List.setIfInBounds_toArray, List.set_cons_zero, List.set_cons_succ, Nat.reduceAdd] at hK ⊢
    clear hd
    go_wp2_with (refine wpList_load_on (by rfl) 34 (.tmp 3) rfl g3 rfl 34 (dA S) (0, 0) _ HSgw.out Tryd.underlying34 rfl HVi.out ?_)
    exact ⟨hb, Below.refl _ _, rfl⟩
  · intro v W hb hd
    have HLw := Aside0.mk (And.intro (HLf.out.below (below_step HB6.out hb)) (HL.out.below (below_step HB6.out hb)))
    have h0 : v 20 = .agg (dA msgL) := hd 0 (by kernel_rfl)
    have h1 : v 21 = .agg (dA S) := hd 1 (by kernel_rfl)
    refine step_list fun K hK => ?_
    simp only [fill_lit, fillL, Act.put, List.setIfInBounds_toArray, List.set_cons_zero, List.set_cons_succ, Nat.reduceAdd] at hK ⊢
    rw [h0, h1] at hK ⊢
    clear hd h0 h1
    go_wp2_with (fail)
    refine (keys_calls msgL S W msg_len msg_byte HVl.out HVy.out HLw.out.1 HLw.out.2).mono ?_
    rintro e W' ⟨rfl, hb'⟩
    have HB' := Aside0.mk hb'
    clear hb'
    go_wp2_with (fail)
    exact ⟨below_step hb HB'.out, HB'.out, by rw [← HPe.out]; rfl⟩
  · intro v W hb hd
    have HSdw : Aside0 (W.heap[w.heap.size]? = some (.cells (dA seedL) 23 (0, 0))) := ⟨(hb.block _ (blk_lt HSd.out)).trans HSd.out⟩
    refine step_list fun K hK => ?_
    simp only [fill_lit, fillL, Act.put, List.setIfInBounds_toArray, List.set_cons_zero, List.set_cons_succ, Nat.reduceAdd] at hK ⊢
    clear hd
    go_wp2_with (refine wpList_load_on (by rfl) 23 (.tmp 1) rfl w.heap.size rfl 23 (dA seedL) (0, 0) _ HSdw.out Tryd.underlying23 rfl HSi.out ?_)
    exact ⟨hb, Below.refl _ _, rfl⟩
  · intro v W hb hd
    have HLw := Aside0.mk (And.intro (HLf.out.below (below_step HB6.out hb)) (HL.out.below (below_step HB6.out hb)))
    have h3 : v 23 = .agg (dA seedL) := hd 3 (by kernel_rfl)
    refine step_list fun K hK => ?_
    simp only [fill_lit, fillL, Act.put, List.setIfInBounds_toArray, List.set_cons_zero, List.set_cons_succ, Nat.reduceAdd] at hK ⊢
    rw [h3] at hK ⊢
    clear hd h3
    go_wp2_with (fail)
    refine (public_calls seedL W seed_len seed_byte HLw.out.1 HLw.out.2).mono ?_
    rintro e W' ⟨rfl, hb'⟩
    have HB' := Aside0.mk hb'
    clear hb'
    go_wp2_with (fail)
    exact ⟨below_step hb HB'.out, HB'.out, by rw [← HPf.out]; rfl⟩
  · intro v W hb hd
    have heq : ∀ W0 : World, (binOp .eql 23 (.agg (dA P)) (.agg (dA P))).run Tryd.prog W0 = .ok (.bool true) W0 := fun W0 => eql_same HPl.out W0
    have h2 : v 22 = .agg (dA P) := hd 2 (by kernel_rfl)
    have h4 : v 24 = .agg (dA P) := hd 4 (by kernel_rfl)
    refine step_list fun K hK => ?_
    simp only [fill_lit, fillL, Act.put, List.setIfInBounds_toArray, List.set_cons_zero, List.set_cons_succ, Nat.reduceAdd] at hK ⊢
    rw [h2, h4] at hK ⊢
    clear hd h2 h4
    go_wp2
    exact ⟨hb, Below.refl _ _, rfl⟩
  · intro v W hb hd
    have h5 : v 25 = .bool true := hd 5 (by kernel_rfl)
    refine step_list fun K hK => ?_
    simp only [fill_lit, fillL, Act.put, List.setIfInBounds_toArray, List.set_cons_zero, List.set_cons_succ, Nat.reduceAdd] at hK ⊢
    rw [h5] at hK ⊢
    clear hd h5
    go_wp2
    exact ⟨hb, Below.refl _ _, rfl⟩
  · intro v W hb hd
    have HX4w : Aside0 (W.heap[g4]? = some (.cells (dA X) 23 (0, 0))) := ⟨(hb.block _ (blk_lt HX4.out)).trans HX4.out⟩
    have h6 : v 26 = .bool true := hd 6 (by kernel_rfl)
    refine step_list fun K hK => ?_
    simp only [fill_lit, fillL, Act.put, List.setIfInBounds_toArray, List.set_cons_zero, List.set_cons_succ, Nat.reduceAdd] at hK ⊢
    rw [h6] at hK ⊢
    clear hd h6
    go_wp2_with (refine wpList_load_on (by rfl) 23 (.tmp 4) rfl g4 rfl 23 (dA X) (0, 0) _ HX4w.out Tryd.underlying23 rfl HXi.out ?_)
    exact ⟨hb, Below.refl _ _, rfl⟩
  · intro v W hb hd
    have HX5w : Aside0 (W.heap[g5]? = some (.cells (dA X) 23 (0, 0))) := ⟨(hb.block _ (blk_lt HX5.out)).trans HX5.out⟩
    have h6 : v 26 = .bool true := hd 6 (by kernel_rfl)
    refine step_list fun K hK => ?_
    simp only [fill_lit, fillL, Act.put, List.setIfInBounds_toArray, List.set_cons_zero, List.set_cons_succ, Nat.reduceAdd] at hK ⊢
    rw [h6] at hK ⊢
    clear hd h6
    go_wp2_with (refine wpList_load_on (by rfl) 23 (.tmp 5) rfl g5 rfl 23 (dA X) (0, 0) _ HX5w.out Tryd.underlying23 rfl HXi.out ?_)
    exact ⟨hb, Below.refl _ _, rfl⟩
  · intro v W hb hd
    have heq : ∀ W0 : World, (binOp .eql 23 (.agg (dA X)) (.agg (dA X))).run Tryd.prog W0 = .ok (.bool true) W0 := fun W0 => eql_same HXl.out W0
    have h7 : v 27 = .agg (dA X) := hd 7 (by kernel_rfl)
    have h8 : v 28 = .agg (dA X) := hd 8 (by kernel_rfl)
    have h6 : v 26 = .bool true := hd 6 (by kernel_rfl)
    refine step_list fun K hK => ?_
    simp only [fill_lit, fillL, Act.put, List.setIfInBounds_toArray, List.set_cons_zero, List.set_cons_succ, Nat.reduceAdd] at hK ⊢
    rw [h7, h8, h6] at hK ⊢
    clear hd h7 h8 h6
    go_wp2
    exact ⟨hb, Below.refl _ _, rfl⟩
  · intro v W hb hd
    have h6 : v 26 = .bool true := hd 6 (by kernel_rfl)
    have h9 : v 29 = .bool true := hd 9 (by kernel_rfl)
    refine step_list fun K hK => ?_
    simp only [fill_lit, fillL, Act.put, List.setIfInBounds_toArray, List.set_cons_zero, List.set_cons_succ, Nat.reduceAdd] at hK ⊢
    rw [h6, h9] at hK ⊢
    clear hd h6 h9
    go_wp2
    exact ⟨hb, Below.refl _ _, rfl⟩
  · intro v W hb hd
    have h10 : v 30 = .bool true := hd 10 (by kernel_rfl)
    refine step_list fun K hK => ?_
    simp only [fill_lit, fillL, Act.put, List.setIfInBounds_toArray, List.set_cons_zero, List.set_cons_succ, Nat.reduceAdd] at hK ⊢
    rw [h10] at hK ⊢
    clear hd h10
    go_wp2
    exact ⟨hb, Below.refl _ _, rfl⟩
  · intro v W hb hd
    have h11 : v 31 = .bool true := hd 11 (by kernel_rfl)
    refine step_list fun K hK => ?_
    simp only [fill_lit, fillL, Act.put, List.setIfInBounds_toArray, List.set_cons_zero, List.set_cons_succ, Nat.reduceAdd] at hK ⊢
    rw [h11] at hK ⊢
    clear hd h11
    go_wp2
    exact ⟨hb, Below.refl _ _, rfl⟩
  · intro v W hb hd
    have h12 : v 32 = .int .i64 0 := hd 12 (by kernel_rfl)
    have h11 : v 31 = .bool true := hd 11 (by kernel_rfl)
    refine step_list fun K hK => ?_
    simp only [fill_lit, fillL, Act.put, List.setIfInBounds_toArray, List.set_cons_zero, List.set_cons_succ, Nat.reduceAdd] at hK ⊢
    rw [h12, h11] at hK ⊢
    clear hd h12 h11
    go_wp2
    exact ⟨hb, Below.refl _ _, rfl⟩
  · intro v W hb hd
    have h11 : v 31 = .bool true := hd 11 (by kernel_rfl)
    have h13 : v 33 = .bool true := hd 13 (by kernel_rfl)
    refine step_list fun K hK => ?_
    simp only [fill_lit, fillL, Act.put, List.setIfInBounds_toArray, List.set_cons_zero, List.set_cons_succ, Nat.reduceAdd] at hK ⊢
    rw [h11, h13] at hK ⊢
    clear hd h11 h13
    go_wp2
    exact ⟨hb, Below.refl _ _, rfl⟩
  · intro v W hb hd
    have h14 : v 34 = .bool true := hd 14 (by kernel_rfl)
    refine step_list fun K hK => ?_
    simp only [fill_lit, fillL, Act.put, List.setIfInBounds_toArray, List.set_cons_zero, List.set_cons_succ, Nat.reduceAdd] at hK ⊢
    rw [h14] at hK ⊢
    clear hd h14
    go_wp2
    exact ⟨hb, Below.refl _ _, rfl⟩
  · intro v W hb hd
    have HX4w : Aside0 (W.heap[g4]? = some (.cells (dA X) 23 (0, 0))) := ⟨(hb.block _ (blk_lt HX4.out)).trans HX4.out⟩
    have h15 : v 35 = .bool true := hd 15 (by kernel_rfl)
    refine step_list fun K hK => ?_
    simp only [fill_lit, fillL, Act.put, List.setIfInBounds_toArray, List.set_cons_zero, List.set_cons_succ, Nat.reduceAdd] at hK ⊢
    rw [h15] at hK ⊢
    clear hd h15
    go_wp2_with (refine wpList_load_on (by rfl) 23 (.tmp 4) rfl g4 rfl 23 (dA X) (0, 0) _ HX4w.out Tryd.underlying23 rfl HXi.out ?_)
    exact ⟨hb, Below.refl _ _, rfl⟩
  · intro v W hb hd
    have h15 : v 35 = .bool true := hd 15 (by kernel_rfl)
    refine step_list fun K hK => ?_
    simp only [fill_lit, fillL, Act.put, List.setIfInBounds_toArray, List.set_cons_zero, List.set_cons_succ, Nat.reduceAdd] at hK ⊢
    rw [h15] at hK ⊢
    clear hd h15
    go_wp2
    exact ⟨hb, Below.refl _ _, by rw [z32_lit]; rfl⟩
  · intro v W hb hd
    have hne : ∀ W0 : World, (binOp .neq 23 (.agg (dA X)) (.agg (dA (zeros 32)))).run Tryd.prog W0 = .ok (.bool true) W0 := fun W0 => by rw [neq_dig HXl.out (show (zeros 32).length = 32 from rfl) W0, HXn.out]; rfl
    have h16 : v 36 = .agg (dA X) := hd 16 (by kernel_rfl)
    have h17 : v 37 = .agg (dA (zeros 32)) := hd 17 (by kernel_rfl)
    have h15 : v 35 = .bool true := hd 15 (by kernel_rfl)
    refine step_list fun K hK => ?_
    simp only [fill_lit, fillL, Act.put, List.setIfInBounds_toArray, List.set_cons_zero, List.set_cons_succ, Nat.reduceAdd] at hK ⊢
    rw [h16, h17, h15] at hK ⊢
    clear hd h16 h17 h15
    go_wp2
    exact ⟨hb, Below.refl _ _, rfl⟩
  · intro v W hb hd
    have h15 : v 35 = .bool true := hd 15 (by kernel_rfl)
    have h18 : v 38 = .bool true := hd 18 (by kernel_rfl)
    refine step_list fun K hK => ?_
    simp only [fill_lit, fillL, Act.put, List.setIfInBounds_toArray, List.set_cons_zero, List.set_cons_succ, Nat.reduceAdd] at hK ⊢
    rw [h15, h18] at hK ⊢
    clear hd h15 h18
    go_wp2
    exact ⟨hb, Below.refl _ _, rfl⟩
  · intro v W hb hd
    have h19 : v 39 = .bool true := hd 19 (by kernel_rfl)
    refine step_list fun K hK => ?_
    simp only [fill_lit, fillL, Act.put, List.setIfInBounds_toArray, List.set_cons_zero, List.set_cons_succ, Nat.reduceAdd] at hK ⊢
    rw [h19] at hK ⊢
    clear hd h19
    go_wp2
    exact ⟨hb, Below.refl _ _, rfl⟩
  · intro v W hb hd
    have HSgw : Aside0 (W.heap[g3]? = some (.cells (dA S) 34 (0, 0))) := ⟨(hb.block _ (blk_lt HSg.out)).trans HSg.out⟩
    have h20 : v 40 = .bool true := hd 20 (by kernel_rfl)
    refine step_list fun K hK => ?_
    simp only [fill_lit, fillL, Act.put, List.setIfInBounds_toArray, List.set_cons_zero, List.set_cons_succ, Nat.reduceAdd] at hK ⊢
    rw [h20] at hK ⊢
    clear hd h20
    go_wp2_with (refine wpList_load_on (by rfl) 34 (.tmp 3) rfl g3 rfl 34 (dA S) (0, 0) _ HSgw.out Tryd.underlying34 rfl HVi.out ?_)
    exact ⟨hb, Below.refl _ _, rfl⟩
  · intro v W hb hd
    have h21 : v 41 = .agg (dA S) := hd 21 (by kernel_rfl)
    have h20 : v 40 = .bool true := hd 20 (by kernel_rfl)
    refine step_list fun K hK => ?_
    simp only [fill_lit, fillL, Act.put, List.setIfInBounds_toArray, List.set_cons_zero, List.set_cons_succ, Nat.reduceAdd] at hK ⊢
    rw [h21, h20] at hK ⊢
    clear hd h21 h20
    go_wp2_with (fail)
    refine (encode_calls S W HVl.out HVy.out).mono ?_
    rintro e W' ⟨ve, rfl, hR, hb'⟩
    obtain ⟨Ae, ce, rfl⟩ := Kd.R_slice hR
    have HR := Aside0.mk (Kd.R_reads' hR).2.2
    have HB' := Aside0.mk hb'
    clear hb' hR
    rw [HVl.out] at HR ⊢
    go_wp2_with (fail)
    exact ⟨below_step hb HB'.out, HB'.out, Ae, ce, rfl, HR.out⟩
  · intro v W hb hd
    have h22 : ∃ A c, v 42 = .slice A 16384 c ∧ Kd.C (Kd.int .u8) W A 16384 S := hd 22 (by kernel_rfl)
    obtain ⟨Ae, ce, hv, _⟩ := h22
    have h20 : v 40 = .bool true := hd 20 (by kernel_rfl)
    refine step_list fun K hK => ?_
    simp only [fill_lit, fillL, Act.put, List.setIfInBounds_toArray, List.set_cons_zero, List.set_cons_succ, Nat.reduceAdd] at hK ⊢
    rw [hv, h20] at hK ⊢
    clear hd hv h20
    go_wp2
    exact ⟨hb, Below.refl _ _, rfl⟩
  · intro v W hb hd
    have h23 : v 43 = .int .i64 16384 := hd 23 (by kernel_rfl)
    have h20 : v 40 = .bool true := hd 20 (by kernel_rfl)
    refine step_list fun K hK => ?_
    simp only [fill_lit, fillL, Act.put, List.setIfInBounds_toArray, List.set_cons_zero, List.set_cons_succ, Nat.reduceAdd] at hK ⊢
    rw [h23, h20] at hK ⊢
    clear hd h23 h20
    go_wp2
    exact ⟨hb, Below.refl _ _, rfl⟩
  · intro v W hb hd
    have h20 : v 40 = .bool true := hd 20 (by kernel_rfl)
    have h24 : v 44 = .bool true := hd 24 (by kernel_rfl)
    refine step_list fun K hK => ?_
    simp only [fill_lit, fillL, Act.put, List.setIfInBounds_toArray, List.set_cons_zero, List.set_cons_succ, Nat.reduceAdd] at hK ⊢
    rw [h20, h24] at hK ⊢
    clear hd h20 h24
    go_wp2
    exact ⟨hb, Below.refl _ _, rfl⟩
  · intro v W hb hd
    have h25 : v 45 = .bool true := hd 25 (by kernel_rfl)
    refine step_list fun K hK => ?_
    simp only [fill_lit, fillL, Act.put, List.setIfInBounds_toArray, List.set_cons_zero, List.set_cons_succ, Nat.reduceAdd] at hK ⊢
    rw [h25] at hK ⊢
    clear hd h25
    go_wp2
    go_ret
    exact ⟨rfl, below_step HB6.out hb⟩
end Go.Proofs.YtpdficnjjmapmaaDoorRRR.Lam
namespace Go.Proofs.YtpdficnjjmapmaaDoorRRR.Ref
open Go.RowKit Go.Proofs.YtpdficnjjmapmaaDoorRRRW.PrintWords Go.Proofs.YtpdficnjjmapmaaDoorRRRW.PrintLast Go.Proofs.YtpdficnjjmapmaaDoorRRRW.PrintMore Go.Proofs.YtpdficnjjmapmaaDoorRRR.K Go.Proofs.YtpdficnjjmapmaaDoorRRR.Codec
set_option linter.unusedVariables false
set_option maxHeartbeats 1000000 in
set_option maxRecDepth 100000 in
theorem rjoin_calls (A0 : Option Addr) (c0 : Nat) (l0 : List (List Int)) (w : World) (hr0 : Kd.C (Kd.slice 5 (Kd.int .u8)) w A0 l0.length l0) (hb : (joinL l0).length ≤ 140737488355328) :
    Calls Tryd.prog 31 #[.slice A0 l0.length c0] w fun e w' => ∃ v0_ : Value, e = .returned (v0_) ∧ Kd.R (Kd.int .u8) 5 w' w.heap.size (fun _ => True) v0_ (joinL l0) ∧ Below w.heap.size w w' := by
  have HR0 := Aside0.mk hr0
  have HBd := Aside0.mk hb
  have hm := hr0.2.1
  clear hr0 hb
  go_enter Tryd.func31, Tryd.ntmps31
  go_wp2
  go_loopw [3, 4] (fun v3 v4 w' => ∃ (k : Nat), k ≤ l0.length ∧ v4 = .int .i64 k ∧ Aside0 (w'.ownsRow w.heap.size 5 1 v3 (joinL (l0.take k)).length (nums .u8 (joinL (l0.take k)))) ∧ Aside0 (Below w.heap.size w w')) (fun _ v4 _ => l0.length - (intOf v4).toNat)
  case atStart => exact ⟨0, Nat.zero_le _, rfl, ⟨own_nil _ _ _ _⟩, ⟨Below.refl _ _⟩⟩
  case round =>
    obtain ⟨k, hk, rfl, HO, HB⟩ := hrel
    by_cases hlt : k < l0.length
    · obtain ⟨ad, A1, c1, rfl, hxa, hl1, hi1⟩ := row_get HR0.out k hlt
      have HX := Aside0.mk hxa
      have hx := hxa wr HB.out
      clear hxa
      have HS := Aside0.mk (joinL_snoc l0 k hlt)
      have HLe := Aside0.mk (joinL_le l0 (k + 1))
      have hm1 := hi1.2.1
      obtain ⟨A3, c3, rfl⟩ := own_slice HO.out
      generalize l0.getD k [] = p at *
      generalize hxs : joinL (l0.take k) = xs at *
      clear hxs
      have HR1 := Aside0.mk (reads_int hi1)
      have HLim : Aside0 (xs.length + 4 + p.length ≤ 140737488355328) := ⟨by
        have h1 := congrArg List.length HS.out
        have h2 := HLe.out
        have h3 := HBd.out
        simp only [List.length_append, be4, List.length_cons, List.length_nil] at h1
        omega⟩
      clear hi1 hl1
      go_wp2_with (first
        | (at_builtin; refine print_append_row (w0 := w) w.heap.size rfl (.tmp 17) (.tmp 33) 38 5 .u8 1 rfl Tryd.underlying38 info_u8 (by decide) (.slice A3 xs.length c3) xs (be4 p.length) (some ⟨wr.heap.size, 0, none⟩) 4 4 rfl rfl (HO.out.alloc _) (reads_lit wr .u8 5 (be4 p.length) (by simp [be4])) (bel_alloc HB.out _) (bel_size HB.out _) (by have := HLim.out; omega) ?_; intro v1 w1 ho hb hg hat; have HO1 := Aside0.mk ho; have HB1 := Aside0.mk hb; have hx1 := HX.out w1 hb; clear ho hb hg hat HO)
        | (at_builtin; refine print_append_row (w0 := w) w.heap.size rfl (.tmp 35) (.tmp 39) 38 5 .u8 1 rfl Tryd.underlying38 info_u8 (by decide) v1 (xs ++ be4 p.length) p A1 p.length c1 rfl rfl HO1.out (HR1.out.below HB1.out) HB1.out HB1.out.size (by have := HLim.out; simp only [List.length_append, be4, List.length_cons, List.length_nil]; omega) ?_; intro v2 w2 ho hb hg hat; have HO2 := Aside0.mk ho; have HB2 := Aside0.mk hb; clear ho hb hg hat))
      go_roundw
      case measure => simp [intOf]; omega
      case rel => exact ⟨k + 1, by omega, by go_num, ⟨by rw [HS.out]; exact HO2.out⟩, HB2⟩
    · obtain rfl : k = l0.length := by omega
      go_wp2
      go_ret
      exact ⟨_, rfl, R_int (by rw [← List.take_length (l := l0)]; simpa using HO.out), HB.out⟩
theorem rjoin_n (A0 : Option Addr) (n c0 : Nat) (l0 : List (List Int)) (w : World) (hr0 : Kd.C (Kd.slice 5 (Kd.int .u8)) w A0 n l0) (hb : (joinL l0).length ≤ 140737488355328) :
    Calls Tryd.prog 31 #[.slice A0 n c0] w fun e w' => ∃ v0_ : Value, e = .returned (v0_) ∧ Kd.R (Kd.int .u8) 5 w' w.heap.size (fun _ => True) v0_ (joinL l0) ∧ Below w.heap.size w w' := by
  obtain rfl := hr0.1
  exact rjoin_calls A0 c0 l0 w hr0 hb
end Go.Proofs.YtpdficnjjmapmaaDoorRRR.Ref
namespace Go.Proofs.YtpdficnjjmapmaaDoorRRR.Sha
open Go.RowKit Go.Proofs.YtpdficnjjmapmaaDoorRRRW.PrintWords Go.Proofs.YtpdficnjjmapmaaDoorRRRW.PrintLast Go.Proofs.YtpdficnjjmapmaaDoorRRRW.PrintMore Go.Proofs.YtpdficnjjmapmaaDoorRRR.K Go.Proofs.YtpdficnjjmapmaaDoorRRR.PLamportSecrets
set_option linter.unusedVariables false
theorem w64_in (x : Int) (h0 : -9223372036854775808 ≤ x) (h1 : x < 9223372036854775808) : wrap64 x = x := by
  rw [wrap64]
  omega
theorem rotr_nat (x : W32) (k : Nat) (h1 : 0 < k) (h2 : k < 32) : (rotr x k).toNat = (x.toNat / 2 ^ k + x.toNat * 2 ^ (32 - k)) % 4294967296 := by
  have hx := x.isLt
  have hp : 2 ^ k * 2 ^ (32 - k) = 4294967296 := by rw [← Nat.pow_add, show k + (32 - k) = 32 by omega]
  have hlt : x.toNat / 2 ^ k < 2 ^ (32 - k) := Nat.div_lt_of_lt_mul (by rw [hp]; exact hx)
  have hm : x.toNat * 2 ^ (32 - k) % 4294967296 = (x.toNat % 2 ^ k) * 2 ^ (32 - k) := by rw [← hp, Nat.mul_mod_mul_right]
  have hlt2 : x.toNat % 2 ^ k < 2 ^ k := Nat.mod_lt _ (Nat.two_pow_pos k)
  have hb : (x.toNat % 2 ^ k) * 2 ^ (32 - k) + x.toNat / 2 ^ k < 4294967296 := by
    have h3 : (x.toNat % 2 ^ k + 1) * 2 ^ (32 - k) ≤ 2 ^ k * 2 ^ (32 - k) := Nat.mul_le_mul_right _ hlt2
    rw [hp, Nat.add_mul, Nat.one_mul] at h3
    omega
  unfold rotr
  rw [BitVec.toNat_or, BitVec.toNat_ushiftRight, BitVec.toNat_shiftLeft, Nat.shiftRight_eq_div_pow, Nat.shiftLeft_eq, show (2 : Nat) ^ 32 = 4294967296 from rfl, hm, Nat.or_comm, ← Nat.shiftLeft_eq, ← Nat.shiftLeft_add_eq_or_of_lt hlt, Nat.shiftLeft_eq, Nat.add_mod, hm,
    Nat.mod_eq_of_lt (show x.toNat / 2 ^ k < 4294967296 by omega), Nat.add_comm (x.toNat / 2 ^ k), Nat.mod_eq_of_lt hb]
theorem turned_f (x : W32) (k : Nat) (h1 : 2 ≤ k) (h2 : k < 32) : cupelref01_turned.f (wi x) (k : Int) = some (wi (rotr x k)) := by
  have hx := x.isLt
  have e1 : wrap64 (32 - (k : Int)) = ((32 - k : Nat) : Int) := by rw [w64_in _ (by omega) (by omega)]; omega
  have hle : 2 ^ (32 - k) ≤ 2 ^ 30 := Nat.pow_le_pow_right (by decide) (by omega)
  have hmul : x.toNat * 2 ^ (32 - k) ≤ 4294967296 * 2 ^ 30 := Nat.mul_le_mul (by omega) hle
  have hdv : x.toNat / 2 ^ k ≤ x.toNat := Nat.div_le_self _ _
  have hr := rotr_nat x k (by omega) h2
  have hk : min k IntKind.i64.bits = k := Nat.min_eq_left (by show k ≤ 64; omega)
  have hk2 : min (32 - k) IntKind.i64.bits = 32 - k := Nat.min_eq_left (by show 32 - k ≤ 64; omega)
  have e2 : shr .i64 (wi x) (k : Int) = ((x.toNat / 2 ^ k : Nat) : Int) := by
    unfold wi
    simp [shr, hk]
  have e3 : shl .i64 (wi x) ((32 - k : Nat) : Int) = IntKind.i64.wrap ((x.toNat * 2 ^ (32 - k) : Nat) : Int) := by
    unfold wi
    simp only [shl, Int.toNat_natCast, hk2]
    first
    | (push_cast; rfl)
    | simp
  rw [cupelref01_turned.f, e1, e2, e3]
  generalize x.toNat / 2 ^ k = q at *
  generalize x.toNat * 2 ^ (32 - k) = m at *
  have hm4 : m ≤ 4611686018427387904 := by omega
  have e5 : IntKind.i64.wrap (m : Int) = (m : Int) := by rw [IntKind.wrap_i64]; omega
  rw [e5, if_pos (by omega), if_pos (by omega), w64_in _ (by omega) (by omega)]
  congr 1
  rw [wi, hr, show (4294967296 : Int) = ((4294967296 : Nat) : Int) from rfl, ← Int.natCast_add, ← Int.ofNat_tmod]
theorem i64_xor (x y : W32) : Go.bits .xor .i64 (wi x) (wi y) = wi (x ^^^ y) := by
  have h1 := x.isLt
  have h2 := y.isLt
  have h3 := (x ^^^ y).isLt
  rw [BitVec.toNat_xor] at h3
  show IntKind.i64.wrap ((BitVec.ofInt 64 (wi x) ^^^ BitVec.ofInt 64 (wi y)).toNat : Int) = _
  have e : ∀ z : W32, (BitVec.ofInt 64 (wi z)).toNat = z.toNat := fun z => by
    have := z.isLt
    unfold wi
    rw [BitVec.toNat_ofInt]
    omega
  rw [BitVec.toNat_xor, e, e, IntKind.wrap_i64, wi, BitVec.toNat_xor]
  omega
theorem i64_and (x y : W32) : Go.bits .and .i64 (wi x) (wi y) = wi (x &&& y) := by
  have h1 := x.isLt
  have h2 := y.isLt
  have h3 := (x &&& y).isLt
  rw [BitVec.toNat_and] at h3
  show IntKind.i64.wrap ((BitVec.ofInt 64 (wi x) &&& BitVec.ofInt 64 (wi y)).toNat : Int) = _
  have e : ∀ z : W32, (BitVec.ofInt 64 (wi z)).toNat = z.toNat := fun z => by
    have := z.isLt
    unfold wi
    rw [BitVec.toNat_ofInt]
    omega
  rw [BitVec.toNat_and, e, e, IntKind.wrap_i64, wi, BitVec.toNat_and]
  omega
theorem wi_not (x : W32) : 4294967295 - wi x = wi (~~~x) := by
  have := x.isLt
  unfold wi
  rw [BitVec.toNat_not]
  omega
theorem wi_add (x y : W32) : wi (x + y) = (wi x + wi y) % 4294967296 := by
  unfold wi
  rw [BitVec.toNat_add]
  omega
theorem ch_eq (e f g : W32) : (e &&& f) ^^^ (~~~e &&& g) = g ^^^ e &&& (f ^^^ g) := by
  apply BitVec.eq_of_getLsbD_eq
  intro i hi
  simp only [BitVec.getLsbD_xor, BitVec.getLsbD_and, BitVec.getLsbD_not, hi, decide_true, Bool.true_and]
  cases e.getLsbD i <;> cases f.getLsbD i <;> cases g.getLsbD i <;> rfl
theorem maj_eq (a b c : W32) : (a &&& b) ^^^ (a &&& c) ^^^ (b &&& c) = a &&& b ||| c &&& (a ||| b) := by
  apply BitVec.eq_of_getLsbD_eq
  intro i hi
  simp only [BitVec.getLsbD_xor, BitVec.getLsbD_and, BitVec.getLsbD_or]
  cases a.getLsbD i <;> cases b.getLsbD i <;> cases c.getLsbD i <;> rfl
end Go.Proofs.YtpdficnjjmapmaaDoorRRR.Sha
namespace Go.Proofs.YtpdficnjjmapmaaDoorRRR.Sha
open Go.RowKit Go.Proofs.YtpdficnjjmapmaaDoorRRRW.PrintWords Go.Proofs.YtpdficnjjmapmaaDoorRRRW.PrintLast Go.Proofs.YtpdficnjjmapmaaDoorRRRW.PrintMore Go.Proofs.YtpdficnjjmapmaaDoorRRR.K Go.Proofs.YtpdficnjjmapmaaDoorRRR.PLamportSecrets
set_option linter.unusedVariables false
theorem turned_q (x : W32) (k : Int) (w : World) (n : Nat) (h1 : 2 ≤ k) (h2 : k < 32) :
    Calls Tryd.prog 39 #[.int .i64 (wi x), .int .i64 k] (w.drewN n) fun e w' => e = .returned (.int .i64 (wi (rotr x k.toNat))) ∧ ∃ m, w' = w.drewN m := by
  obtain ⟨j, rfl⟩ := Int.eq_ofNat_of_zero_le (show 0 ≤ k by omega)
  refine (cupelref01_turned.calls (wi x) (j : Int) _ _ (turned_f x j (by omega) (by omega))).mono ?_
  rintro e w' ⟨he, m, hm⟩
  exact ⟨he, n + m, by rw [hm, World.drewN_drewN]⟩
theorem turned_p (x : W32) (k : Int) (w : World) (h1 : 2 ≤ k) (h2 : k < 32) :
    Calls Tryd.prog 39 #[.int .i64 (wi x), .int .i64 k] w fun e w' => e = .returned (.int .i64 (wi (rotr x k.toNat))) ∧ Drawn0 w w' := by
  obtain ⟨j, rfl⟩ := Int.eq_ofNat_of_zero_le (show 0 ≤ k by omega)
  exact cupelref01_turned.calls (wi x) (j : Int) _ _ (turned_f x j (by omega) (by omega))
def threeV (x : W32) (k0 k1 k2 : Nat) (down : Bool) : W32 := rotr x k0 ^^^ rotr x k1 ^^^ if down then x >>> k2 else rotr x k2
set_option maxHeartbeats 1000000 in
theorem three_calls (x : W32) (k0 k1 k2 : Nat) (down : Bool) (w : World) (h0 : 2 ≤ k0 ∧ k0 < 32) (h1 : 2 ≤ k1 ∧ k1 < 32) (h2 : 2 ≤ k2 ∧ k2 < 32) :
    Calls Tryd.prog 35 #[.int .i64 (wi x), .agg #[.int .i64 (k0 : Int), .int .i64 (k1 : Int), .int .i64 (k2 : Int)], .bool down] w fun e w' => e = .returned (.int .i64 (wi (threeV x k0 k1 k2 down))) ∧ Below w.heap.size w w' := by
  obtain ⟨a0, b0⟩ := h0
  obtain ⟨a1, b1⟩ := h1
  obtain ⟨a2, b2⟩ := h2
  have c0 : (2 : Int) ≤ k0 := by omega
  have c1 : (2 : Int) ≤ k1 := by omega
  have c2 : (2 : Int) ≤ k2 := by omega
  have d0 : (k0 : Int) < 32 := by omega
  have d1 : (k1 : Int) < 32 := by omega
  have d2 : (k2 : Int) < 32 := by omega
  have hsh : wi x / 2 ^ k2 = wi (x >>> k2) := u32_shr x k2
  have hk : min k2 IntKind.i64.bits = k2 := Nat.min_eq_left (by show k2 ≤ 64; omega)
  have HB : Aside0 (Below w.heap.size w (w.alloc (.cells #[.int .i64 (k0 : Int), .int .i64 (k1 : Int), .int .i64 (k2 : Int)] 70))) := ⟨bel_alloc (Below.refl _ _) _⟩
  have HT : Aside0 (∀ d, threeV x k0 k1 k2 d = rotr x k0 ^^^ rotr x k1 ^^^ if d then x >>> k2 else rotr x k2) := ⟨fun _ => rfl⟩
  go_enter Tryd.func35, Tryd.ntmps35
  go_wp2_with (fail)
  refine (turned_p x (k2 : Int) _ c2 d2).mono ?_
  rintro e w1 ⟨rfl, hd⟩
  rw [Int.toNat_natCast]
  have HB1 : Aside0 (Below w.heap.size w w1) := ⟨below_step HB.out hd.below⟩
  have g0 : w1.cell? ⟨w.heap.size, 0, none⟩ = some (.int .i64 (k0 : Int)) := by rw [drawn_cell hd, World.cell?, heap_alloc_new]; rfl
  have g1 : w1.cell? ⟨w.heap.size, 1, none⟩ = some (.int .i64 (k1 : Int)) := by rw [drawn_cell hd, World.cell?, heap_alloc_new]; rfl
  have g2 : w1.cell? ⟨w.heap.size, 2, none⟩ = some (.int .i64 (k2 : Int)) := by rw [drawn_cell hd, World.cell?, heap_alloc_new]; rfl
  clear hd
  have ax : ∀ p q : W32, Go.bits .xor .i64 (wi p) (wi q) = wi (p ^^^ q) := i64_xor
  cases down with
  | true =>
    go_wp2
    go_quiet ((go_at_call 39; exact turned_q _ _ _ _ (by assumption) (by assumption)))
    rw [Int.toNat_natCast, Int.toNat_natCast]
    go_wp2
    go_ret
    exact ⟨by rw [HT.out]; rfl, pw_below_drewN HB1.out _⟩
  | false =>
    go_wp2
    go_quiet ((go_at_call 39; exact turned_q _ _ _ _ (by assumption) (by assumption)))
    rw [Int.toNat_natCast, Int.toNat_natCast]
    go_wp2
    go_ret
    exact ⟨by rw [HT.out]; rfl, pw_below_drewN HB1.out _⟩
def nArr (l : List W32) : Array Value := (nums .i64 (l.map wi)).toArray
theorem nArr_one (l : List W32) : (nArr l).all (·.oneCell') = true := by
  rw [Array.all_eq_true_iff_forall_mem]
  intro v hv
  simp only [nArr, nums, List.mem_toArray, List.mem_map] at hv
  obtain ⟨x, _, rfl⟩ := hv
  rfl
theorem nArr_size (l : List W32) : (nArr l).size = l.length := by simp [nArr, nums]
theorem z64_lit : (#[.int .i64 0, .int .i64 0, .int .i64 0, .int .i64 0, .int .i64 0, .int .i64 0, .int .i64 0, .int .i64 0, .int .i64 0, .int .i64 0, .int .i64 0, .int .i64 0, .int .i64 0, .int .i64 0, .int .i64 0, .int .i64 0, .int .i64 0, .int .i64 0, .int .i64 0, .int .i64 0, .int .i64 0, .int .i64 0, .int .i64 0, .int .i64 0, .int .i64 0, .int .i64 0, .int .i64 0, .int .i64 0, .int .i64 0, .int .i64 0, .int .i64 0, .int .i64 0, .int .i64 0, .int .i64 0, .int .i64 0, .int .i64 0, .int .i64 0, .int .i64 0, .int .i64 0, .int .i64 0, .int .i64 0, .int .i64 0, .int .i64 0, .int .i64 0, .int .i64 0, .int .i64 0, .int .i64 0, .int .i64 0, .int .i64 0, .int .i64 0, .int .i64 0, .int .i64 0, .int .i64 0, .int .i64 0, .int .i64 0, .int .i64 0, .int .i64 0, .int .i64 0, .int .i64 0, .int .i64 0, .int .i64 0, .int .i64 0, .int .i64 0, .int .i64 0] : Array Value) = nArr (List.replicate 64 0) := by kernel_rfl
theorem kA_info : (Tryd.prog.info? 68).map (·.size) = some (nArr kL).size := by rw [nArr_size]; kernel_rfl
set_option maxRecDepth 100000 in
set_option maxHeartbeats 1000000 in
theorem constants_calls (w : World) :
    Calls Tryd.prog 36 #[] w fun e w' => e = .returned (.agg (nArr kL)) ∧ Below w.heap.size w w' := by
  have HK1 := Aside0.mk kA_info
  have HK2 := Aside0.mk (nArr_one kL)
  have HK3 : Aside0 ((nArr (List.replicate 64 0)).size = (nArr kL).size) := ⟨by rw [nArr_size, nArr_size]; rfl⟩
  go_enter Tryd.func36, Tryd.ntmps36
  go_wp2_with (first
    | (refine wpList_buildTo rfl 68 _ rfl (some 1) rfl (nArr kL) (by kernel_rfl) ?_; simp only [Act.put, List.setIfInBounds_toArray, List.set_cons_zero, List.set_cons_succ])
    | (rw [z64_lit]; with_reducible refine wpList_store_rowTo rfl 68 (.tmp 0) (.tmp 1) rfl rfl w.heap.size (nArr kL) rfl rfl 68 (nArr (List.replicate 64 0)) (heap_alloc_new _ _) HK1.out HK3.out HK2.out ?_; rw [World.setRow_alloc_new]; have HB : Aside0 (Below w.heap.size w (w.alloc (.cells (nArr kL) 68))) := ⟨bel_alloc (Below.refl _ _) _⟩; have HR : Aside0 ((w.alloc (.cells (nArr kL) 68)).heap[w.heap.size]? = some (.cells (nArr kL) 68 (0, 0))) := ⟨heap_alloc_new _ _⟩; generalize w.alloc (.cells (nArr kL) 68) = w1 at *))
  exact bodyPost_ret (results_cell_row Tryd.results36 _ _ w.heap.size 68 (nArr kL) (0, 0) _ rfl HR.out Tryd.underlying68 rfl HK1.out) rfl ⟨rfl, HB.out⟩
end Go.Proofs.YtpdficnjjmapmaaDoorRRR.Sha
