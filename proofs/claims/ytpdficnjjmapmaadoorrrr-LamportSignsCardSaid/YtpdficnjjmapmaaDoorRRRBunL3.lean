/- Texts put together: CodecJoin, CodecClone, CodecNumbers, LamSec, LamBit, ShaHold, LamKey, LamPub, LamZero, LamSign, LamKeyS, LamEnc, LamScr, DigEq. -/
import Derived.Test.YtpdficnjjmapmaaDoorRRRBunL2
import Derived.Great.Walk
import Derived.Great.CaseRows
set_option linter.unusedVariables false
set_option linter.unusedSimpArgs false
namespace Go.Proofs.YtpdficnjjmapmaaDoorRRR.Codec
open Go.RowKit Go.Proofs.YtpdficnjjmapmaaDoorRRRW.PrintWords Go.Proofs.YtpdficnjjmapmaaDoorRRRW.PrintLast Go.Proofs.YtpdficnjjmapmaaDoorRRRW.PrintMore Go.Proofs.YtpdficnjjmapmaaDoorRRR.K
theorem info_u8 : (Tryd.prog.info? 5).map (fun i => (i.zero, i.size, i.bytes)) = some (some (.int .u8 0), 1, 1) := by kernel_rfl
set_option maxHeartbeats 1000000 in
set_option maxRecDepth 100000 in
theorem join_calls (A0 : Option Addr) (c0 : Nat) (l0 : List (List Int)) (w : World) (hr0 : Kd.C (Kd.slice 5 (Kd.int .u8)) w A0 l0.length l0) (hb : (joinL l0).length ≤ 140737488355328) :
    Calls Tryd.prog 26 #[.slice A0 l0.length c0] w fun e w' => ∃ v0_ : Value, e = .returned (v0_) ∧ Kd.R (Kd.int .u8) 5 w' w.heap.size (fun _ => True) v0_ (joinL l0) ∧ Below w.heap.size w w' := by
  have HR0 := Aside0.mk hr0
  have HBd := Aside0.mk hb
  have hm := hr0.2.1
  clear hr0 hb
  go_enter Tryd.func26, Tryd.ntmps26
  go_wp2
  go_loopw [3, 10] (fun v3 v10 w' => ∃ (k : Nat), k ≤ l0.length ∧ v10 = .int .i64 k ∧ Aside0 (w'.ownsRow w.heap.size 5 1 v3 (joinL (l0.take k)).length (nums .u8 (joinL (l0.take k)))) ∧ Aside0 (Below w.heap.size w w')) (fun _ v10 _ => l0.length - (intOf v10).toNat)
  case atStart => exact ⟨0, Nat.zero_le _, rfl, ⟨own_nil _ _ _ _⟩, ⟨Below.refl _ _⟩⟩
  case round =>
    obtain ⟨k, hk, rfl, HO, HB⟩ := hrel
    by_cases hlt : k < l0.length
    · obtain ⟨ad, A1, c1, rfl, hx, hl1, hi1⟩ := row_at' HR0.out HB.out k hlt
      have HS := Aside0.mk (joinL_snoc l0 k hlt)
      have HLe := Aside0.mk (joinL_le l0 (k + 1))
      obtain ⟨A3, c3, rfl⟩ := own_slice HO.out
      generalize l0.getD k [] = p at *
      generalize hxs : joinL (l0.take k) = xs at *
      clear hxs
      have HR1 := Aside0.mk (reads_int hi1)
      have HLim : Aside0 (xs.length + 4 + p.length ≤ 140737488355328) := ⟨by
        have h1 := congrArg List.length HS.out
        have h2 := HLe.out
        have h3 := HBd.out
        simp only [List.length_append, be4, List.length_cons, List.length_nil] at h1
        omega⟩
      clear hi1 hl1
      go_wp2
      refine wp_loop_rounds 5 ?_
      rw [rounds_succ]
      go_wp2
      rw [rounds_succ]
      go_wp2
      rw [rounds_succ]
      go_wp2
      rw [rounds_succ]
      go_wp2
      rw [rounds_succ]
      go_wp2_with (first
        | (at_builtin; refine print_append_row (w0 := w) w.heap.size rfl (.tmp 27) (.tmp 28) 38 5 .u8 1 rfl Tryd.underlying38 info_u8 (by decide) (.slice A3 xs.length c3) xs (be4 p.length) (some ⟨wr.heap.size, 0, none⟩) 4 4 rfl rfl (HO.out.alloc _) (reads_lit wr .u8 67 (be4 p.length) (by simp [be4])) (bel_alloc HB.out _) (bel_size HB.out _) (by have := HLim.out; omega) ?_; intro v1 w1 ho hb hg hat; have HO1 := Aside0.mk ho; have HB1 := Aside0.mk hb; clear ho hb hg hat HO)
        | (at_builtin; refine print_append_row (w0 := w) w.heap.size rfl (.tmp 29) (.tmp 30) 38 5 .u8 1 rfl Tryd.underlying38 info_u8 (by decide) v1 (xs ++ be4 p.length) p A1 p.length c1 rfl rfl HO1.out (HR1.out.below HB1.out) HB1.out HB1.out.size (by have := HLim.out; simp only [List.length_append, be4, List.length_cons, List.length_nil]; omega) ?_; intro v2 w2 ho hb hg hat; have HO2 := Aside0.mk ho; have HB2 := Aside0.mk hb; clear ho hb hg hat))
      go_roundw
      case measure => simp [intOf]; omega
      case rel => exact ⟨k + 1, by omega, by go_num, ⟨by rw [HS.out]; exact HO2.out⟩, HB2⟩
    · obtain rfl : k = l0.length := by omega
      go_wp2
      go_ret
      exact ⟨_, rfl, R_int (by rw [← List.take_length (l := l0)]; simpa using HO.out), HB.out⟩
theorem join_n (A0 : Option Addr) (n c0 : Nat) (l0 : List (List Int)) (w : World) (hr0 : Kd.C (Kd.slice 5 (Kd.int .u8)) w A0 n l0) (hb : (joinL l0).length ≤ 140737488355328) :
    Calls Tryd.prog 26 #[.slice A0 n c0] w fun e w' => ∃ v0_ : Value, e = .returned (v0_) ∧ Kd.R (Kd.int .u8) 5 w' w.heap.size (fun _ => True) v0_ (joinL l0) ∧ Below w.heap.size w w' := by
  obtain rfl := hr0.1
  exact join_calls A0 c0 l0 w hr0 hb
end Go.Proofs.YtpdficnjjmapmaaDoorRRR.Codec
namespace Go.Proofs.YtpdficnjjmapmaaDoorRRR.Codec
open Go.RowKit Go.Proofs.YtpdficnjjmapmaaDoorRRRW.PrintWords Go.Proofs.YtpdficnjjmapmaaDoorRRRW.PrintLast Go.Proofs.YtpdficnjjmapmaaDoorRRRW.PrintMore Go.Proofs.YtpdficnjjmapmaaDoorRRR.K
set_option maxHeartbeats 400000 in
theorem clone_calls (A : Option Addr) (n c : Nat) (l : List Int) (w : World) (hr0 : Kd.C (Kd.int .u8) w A n l) (hb : n ≤ 140737488355328) :
    Calls Tryd.prog 34 #[.slice A n c] w fun e w' => ∃ v0_ : Value, e = .returned (v0_) ∧ Kd.R (Kd.int .u8) 5 w' w.heap.size (fun _ => True) v0_ l ∧ Below w.heap.size w w' := by
  have HR0 := Aside0.mk (reads_int hr0)
  have HN := Aside0.mk (C_len hr0)
  have HL := Aside0.mk hb
  clear hr0 hb
  cases A with
  | none =>
    have h0 : l = [] := by
      have h1 := HR0.out
      have h2 := HN.out
      rcases Nat.eq_zero_or_pos n with h | h
      · exact List.eq_nil_of_length_eq_zero (by omega)
      · obtain ⟨_, h3, _⟩ := h1.2.2 h
        cases h3
    subst h0
    have hnil := fun (w : World) => Lib.run_eql_slice_nil (P := Tryd.prog) w 38 5 none n c 0 0 Tryd.underlying38
    go_enter Tryd.func34, Tryd.ntmps34
    go_wp2
    go_ret
    exact ⟨_, rfl, R_int (own_nil _ _ _ _), Below.refl _ _⟩
  | some a =>
    have hnil := fun (w : World) => Lib.run_eql_slice_nil (P := Tryd.prog) w 38 5 (some a) n c 0 0 Tryd.underlying38
    go_enter Tryd.func34, Tryd.ntmps34
    go_wp2_with (at_builtin; refine print_append_row (w0 := w) w.heap.size rfl (.tmp 5) (.tmp 6) 38 5 .u8 1 rfl Tryd.underlying38 info_u8 (by decide) (.slice (some ⟨w.heap.size, 0, none⟩) 0 0) [] l (some a) n c rfl rfl (own_lit w w.heap.size 5 .u8 [] (Nat.le_refl _) (by decide)) ((HR0.out).below (bel_alloc (Below.refl _ _) _)) (bel_alloc (Below.refl _ _) _) (bel_size (Below.refl _ _) _) (by have := HL.out; simp; omega) ?_; intro v1 w1 ho hb hg hat; have HO1 := Aside0.mk ho; have HB1 := Aside0.mk hb; clear ho hb hg hat)
    go_ret
    exact ⟨_, rfl, R_int (by simpa using HO1.out), HB1.out⟩
end Go.Proofs.YtpdficnjjmapmaaDoorRRR.Codec
namespace Go.Proofs.YtpdficnjjmapmaaDoorRRR.Codec
open Go.RowKit Go.Proofs.YtpdficnjjmapmaaDoorRRRW.PrintWords Go.Proofs.YtpdficnjjmapmaaDoorRRRW.PrintLast Go.Proofs.YtpdficnjjmapmaaDoorRRRW.PrintMore Go.Proofs.YtpdficnjjmapmaaDoorRRR.K
set_option linter.unusedVariables false
set_option maxHeartbeats 1000000 in
set_option maxRecDepth 100000 in
theorem numbers_calls (A0 : Option Addr) (c0 : Nat) (l0 : List Int) (w : World) (hr0 : Kd.C (Kd.int .i64) w A0 l0.length l0) (hb : l0.length * 8 ≤ 140737488355328) :
    Calls Tryd.prog 27 #[.slice A0 l0.length c0] w fun e w' => ∃ v0_ : Value, e = .returned (v0_) ∧ Kd.R (Kd.int .u8) 5 w' w.heap.size (fun _ => True) v0_ (numsL l0) ∧ Below w.heap.size w w' := by
  have HR0 := Aside0.mk hr0
  have HBd := Aside0.mk hb
  have hm := hr0.2.1
  clear hr0 hb
  go_enter Tryd.func27, Tryd.ntmps27
  go_wp2
  go_loopw [3, 10] (fun v3 v10 w' => ∃ (k : Nat), k ≤ l0.length ∧ v10 = .int .i64 k ∧ Aside0 (w'.ownsRow w.heap.size 5 1 v3 (numsL (l0.take k)).length (nums .u8 (numsL (l0.take k)))) ∧ Aside0 (Below w.heap.size w w')) (fun _ v10 _ => l0.length - (intOf v10).toNat)
  case atStart => exact ⟨0, Nat.zero_le _, rfl, ⟨own_nil _ _ _ _⟩, ⟨Below.refl _ _⟩⟩
  case round =>
    obtain ⟨k, hk, rfl, HO, HB⟩ := hrel
    by_cases hlt : k < l0.length
    · obtain ⟨ad, rfl, hx⟩ := int_at' HR0.out HB.out k hlt
      have HS := Aside0.mk (numsL_snoc l0 k hlt)
      have HLn := Aside0.mk (numsL_len (l0.take k))
      obtain ⟨A3, c3, rfl⟩ := own_slice HO.out
      generalize l0.getD k 0 = p at *
      generalize hxs : numsL (l0.take k) = xs at *
      clear hxs
      have HLim : Aside0 (xs.length + 8 ≤ 140737488355328) := ⟨by
        have h2 := HLn.out
        have h3 := HBd.out
        rw [List.length_take] at h2
        omega⟩
      obtain ⟨q, hq⟩ : ∃ q, IntKind.u64.wrap p = q := ⟨_, rfl⟩
      obtain ⟨hbe, hq0⟩ := be8_wrap p q hq
      have HQ := Aside0.mk hbe
      clear hbe
      go_wp2
      refine wp_loop_rounds 9 ?_
      rw [rounds_succ]
      go_wp2
      rw [rounds_succ]
      go_wp2
      rw [rounds_succ]
      go_wp2
      rw [rounds_succ]
      go_wp2
      rw [rounds_succ]
      go_wp2
      rw [rounds_succ]
      go_wp2
      rw [rounds_succ]
      go_wp2
      rw [rounds_succ]
      go_wp2
      rw [rounds_succ]
      go_wp2_with (at_builtin; refine print_append_row (w0 := w) w.heap.size rfl (.tmp 27) (.tmp 28) 38 5 .u8 1 rfl Tryd.underlying38 info_u8 (by decide) (.slice A3 xs.length c3) xs (be8 q) (some ⟨wr.heap.size, 0, none⟩) 8 8 rfl rfl (HO.out.alloc _) (reads_lit wr .u8 66 (be8 q) (by simp [be8])) (bel_alloc HB.out _) (bel_size HB.out _) (by have := HLim.out; omega) ?_; intro v1 w1 ho hb hg hat; have HO1 := Aside0.mk ho; have HB1 := Aside0.mk hb; clear ho hb hg hat HO)
      go_roundw
      case measure => simp [intOf]; omega
      case rel => exact ⟨k + 1, by omega, by go_num, ⟨by rw [HS.out, HQ.out]; exact HO1.out⟩, HB1⟩
    · obtain rfl : k = l0.length := by omega
      go_wp2
      go_ret
      exact ⟨_, rfl, R_int (by rw [← List.take_length (l := l0)]; simpa using HO.out), HB.out⟩
theorem numbers_n (A0 : Option Addr) (n c0 : Nat) (l0 : List Int) (w : World) (hr0 : Kd.C (Kd.int .i64) w A0 n l0) (hb : l0.length * 8 ≤ 140737488355328) :
    Calls Tryd.prog 27 #[.slice A0 n c0] w fun e w' => ∃ v0_ : Value, e = .returned (v0_) ∧ Kd.R (Kd.int .u8) 5 w' w.heap.size (fun _ => True) v0_ (numsL l0) ∧ Below w.heap.size w w' := by
  obtain rfl := hr0.1
  exact numbers_calls A0 c0 l0 w hr0 hb
end Go.Proofs.YtpdficnjjmapmaaDoorRRR.Codec
namespace Go.Proofs.YtpdficnjjmapmaaDoorRRR.Lam
open Go.RowKit Go.Proofs.YtpdficnjjmapmaaDoorRRRW.PrintWords Go.Proofs.YtpdficnjjmapmaaDoorRRRW.PrintLast Go.Proofs.YtpdficnjjmapmaaDoorRRRW.PrintMore Go.Proofs.YtpdficnjjmapmaaDoorRRR.K Go.Proofs.YtpdficnjjmapmaaDoorRRR.Sha Go.Proofs.YtpdficnjjmapmaaDoorRRR.Codec Go.Proofs.YtpdficnjjmapmaaDoorRRR.RI
set_option linter.unusedVariables false
set_option linter.unusedSimpArgs false
theorem joinTwo (a r : List Int) : joinL [a, r] = be4 a.length ++ a ++ (be4 r.length ++ r) := by simp [joinL]
theorem joinTwo_len (a r : List Int) : (joinL [a, r]).length = a.length + r.length + 8 := by
  rw [joinTwo]; simp only [List.length_append, be4, List.length_cons, List.length_nil]; omega
theorem joinTwo_byte {a r : List Int} (ha : ∀ x ∈ a, 0 ≤ x ∧ x < 256) (hr : ∀ x ∈ r, 0 ≤ x ∧ x < 256) : ∀ x ∈ joinL [a, r], 0 ≤ x ∧ x < 256 := by
  have hb : ∀ n : Nat, ∀ x ∈ be4 n, 0 ≤ x ∧ x < 256 := fun n x hx => by
    simp only [be4, List.mem_cons, List.not_mem_nil, or_false] at hx
    omega
  intro x hx
  rw [joinTwo] at hx
  simp only [List.mem_append] at hx
  rcases hx with (h | h) | (h | h)
  · exact hb _ _ h
  · exact ha _ h
  · exact hb _ _ h
  · exact hr _ h
theorem numsL_byte (l : List Int) : ∀ x ∈ numsL l, 0 ≤ x ∧ x < 256 := by
  intro x hx
  obtain ⟨n, _, h⟩ := List.mem_flatMap.1 hx
  exact be8_byte n x h
theorem dig_reads {W : World} {g t : Nat} {d : List Int} {n : Nat} (h : W.heap[g]? = some (.cells (dA d) t (0, 0))) (hn : d.length = n) (hm : n ≤ 9223372036854775807) : Kd.C (Kd.int .u8) W (some ⟨g, 0, none⟩) n d := by
  refine C_int ⟨hn, hm, fun _ => ⟨_, rfl, fun j hj => ?_⟩⟩
  rw [add_plain]
  exact (blk_cell h j).trans (dA_get d j (by omega))
def SecF (d : List Int) (i b : Nat) (w : World) (k : Nat) (x : Value) (W : World) : Prop := match k with
  | 0 => x = .slice (some ⟨w.heap.size, 0, none⟩) 32 32
  | 1 => x = .int .i64 (i : Int)
  | 2 => x = .int .i64 (b : Int)
  | 3 => ∃ g, x = .slice (some ⟨g, 0, none⟩) 2 2 ∧ Kd.C (Kd.int .i64) W (some ⟨g, 0, none⟩) 2 [(i : Int), (b : Int)]
  | 4 => Kd.R (Kd.int .u8) 5 W w.heap.size (fun _ => True) x (numsL [(i : Int), (b : Int)])
  | 5 => ∃ g, x = .slice (some ⟨g, 0, none⟩) 2 2 ∧ Kd.C (Kd.slice 5 (Kd.int .u8)) W (some ⟨g, 0, none⟩) 2 [d, numsL [(i : Int), (b : Int)]]
  | 6 => Kd.R (Kd.int .u8) 5 W w.heap.size (fun _ => True) x (joinL [d, numsL [(i : Int), (b : Int)]])
  | 7 => x = .agg (dA (secV d i b))
  | _ => True
theorem SecF.step {d : List Int} {i b : Nat} {w : World} (k : Nat) (x : Value) (W W' : World) (hb : Below W.heap.size W W') (h : SecF d i b w k x W) : SecF d i b w k x W' := by
  unfold SecF at *
  split <;> simp only at h ⊢
  · exact h
  · exact h
  · exact h
  · obtain ⟨g, e, h⟩ := h; exact ⟨g, e, Kd.C_below h hb⟩
  · exact Kd.R_below h hb
  · obtain ⟨g, e, h⟩ := h; exact ⟨g, e, Kd.C_below h hb⟩
  · exact Kd.R_below h hb
  · exact h
set_option maxHeartbeats 4000000 in
set_option maxRecDepth 100000 in
theorem secret_calls (d : List Int) (i b : Nat) (w : World) (hd : d.length = 32) (hby : ∀ x ∈ d, 0 ≤ x ∧ x < 256)
    (hLf : LaidAt w 0 firstA) (hL : LaidAt w 1 constA) :
    Calls Tryd.prog 14 #[.agg (dA d), .int .i64 (i : Int), .int .i64 (b : Int)] w fun e w' => e = .returned (.agg (dA (secV d i b))) ∧ Below w.heap.size w w' := by
  have HBy := Aside0.mk hby
  have HDl := Aside0.mk hd
  have HLf := Aside0.mk hLf
  have HL := Aside0.mk hL
  clear hLf hL hby hd
  go_enter Tryd.func14, Tryd.ntmps14
  go_upto_region 1 with fail
  rw [z32_lit]
  have HB1 : Aside0 (Below w.heap.size w ((w.alloc (.cells (dA d) 23)).alloc (.cells (dA (List.replicate 32 0)) 23))) := ⟨bel_alloc (bel_alloc (Below.refl _ _) _) _⟩
  have HR1 : Aside0 (((w.alloc (.cells (dA d) 23)).alloc (.cells (dA (List.replicate 32 0)) 23)).heap[w.heap.size]? = some (.cells (dA d) 23 (0, 0))) := ⟨((bel_alloc (Below.refl _ _) _).block _ (blk_lt (heap_alloc_new w (.cells (dA d) 23)))).trans (heap_alloc_new _ _)⟩
  have HZ1 : Aside0 (((w.alloc (.cells (dA d) 23)).alloc (.cells (dA (List.replicate 32 0)) 23)).heap[w.heap.size + 1]? = some (.cells (dA (List.replicate 32 0)) 23 (0, 0))) := ⟨by have := heap_alloc_new (w.alloc (.cells (dA d) 23)) (.cells (dA (List.replicate 32 0)) 23); rwa [World.size_alloc] at this⟩
  generalize (w.alloc (.cells (dA d) 23)).alloc (.cells (dA (List.replicate 32 0)) 23) = w1 at *
  refine wp_region_mono 8 [false, false, false, false, false, false, false, true, true, true, true, true, true, true, true] (by kernel_rfl) (by kernel_rfl) (fun W => Below w1.heap.size w1 W) (fun W W' => Below W.heap.size W W') (SecF d i b w) (fun i x W W' _ hb h => h.step i x W W' hb) (below_drew (Below.refl _ _)) ?_
  refine ⟨?_, ?_, ?_, ?_, ?_, ?_, ?_, ?_, ?_, trivial⟩
  · intro v W hb hd
    refine step_list fun K hK => ?_
    simp only [fill_lit, fillL, Act.put, List.setIfInBounds_toArray, List.set_cons_zero, List.set_cons_succ, Nat.reduceAdd] at hK ⊢
    clear hd
    go_wp2
    exact ⟨hb, Below.refl _ _, rfl⟩
  · intro v W hb hd
    refine step_list fun K hK => ?_
    simp only [fill_lit, fillL, Act.put, List.setIfInBounds_toArray, List.set_cons_zero, List.set_cons_succ, Nat.reduceAdd] at hK ⊢
    clear hd
    go_wp2
    exact ⟨hb, Below.refl _ _, rfl⟩
  · intro v W hb hd
    refine step_list fun K hK => ?_
    simp only [fill_lit, fillL, Act.put, List.setIfInBounds_toArray, List.set_cons_zero, List.set_cons_succ, Nat.reduceAdd] at hK ⊢
    clear hd
    go_wp2
    exact ⟨hb, Below.refl _ _, rfl⟩
  · intro v W hb hd
    have h1 : v 8 = .int .i64 (i : Int) := hd 1 (by kernel_rfl)
    have h2 : v 9 = .int .i64 (b : Int) := hd 2 (by kernel_rfl)
    refine step_list fun K hK => ?_
    simp only [fill_lit, fillL, Act.put, List.setIfInBounds_toArray, List.set_cons_zero, List.set_cons_succ, Nat.reduceAdd] at hK ⊢
    rw [h1, h2] at hK ⊢
    clear hd h1 h2
    go_wp2
    exact ⟨below_alloc hb _, below_alloc (Below.refl _ _) _, W.heap.size, rfl, C_int (reads_lit W .i64 3 [(i : Int), (b : Int)] (by simp))⟩
  · intro v W hb hd
    have h2 : ∃ g, v 10 = .slice (some ⟨g, 0, none⟩) 2 2 ∧ Kd.C (Kd.int .i64) W (some ⟨g, 0, none⟩) 2 [(i : Int), (b : Int)] := hd 3 (by kernel_rfl)
    obtain ⟨g, h1, hC⟩ := h2
    have HC := Aside0.mk hC
    refine step_list fun K hK => ?_
    simp only [fill_lit, fillL, Act.put, List.setIfInBounds_toArray, List.set_cons_zero, List.set_cons_succ, Nat.reduceAdd] at hK ⊢
    rw [h1] at hK ⊢
    clear hd h1 hC
    go_wp2_with (fail)
    refine (numbers_n (some ⟨g, 0, none⟩) 2 2 [(i : Int), (b : Int)] W HC.out (by simp)).mono ?_
    rintro e W' ⟨v0, rfl, hR, hb'⟩
    have HR := Aside0.mk hR
    have HB' := Aside0.mk hb'
    clear hR hb'
    go_wp2_with (fail)
    exact ⟨below_step hb HB'.out, HB'.out, Kd.R_lower HR.out (Nat.le_trans HB1.out.size hb.size)⟩
  · intro v W hb hd
    have h0 : v 7 = .slice (some ⟨w.heap.size, 0, none⟩) 32 32 := hd 0 (by kernel_rfl)
    have h3 : Kd.R (Kd.int .u8) 5 W w.heap.size (fun _ => True) (v 11) (numsL [(i : Int), (b : Int)]) := hd 4 (by kernel_rfl)
    obtain ⟨A, cc, hA⟩ := Kd.R_slice h3
    rw [hA] at h3
    have HR := Aside0.mk h3
    refine step_list fun K hK => ?_
    simp only [fill_lit, fillL, Act.put, List.setIfInBounds_toArray, List.set_cons_zero, List.set_cons_succ, Nat.reduceAdd] at hK ⊢
    rw [h0, hA] at hK ⊢
    clear hd h0 h3 hA
    go_wp2
    refine ⟨below_alloc hb _, below_alloc (Below.refl _ _) _, W.heap.size, rfl, ?_⟩
    exact rows_lit W 38 [.slice (some ⟨w.heap.size, 0, none⟩) 32 32, .slice A (numsL [(i : Int), (b : Int)]).length cc] [d, numsL [(i : Int), (b : Int)]] (by simp) (fun j x hj => by
      match j, hj with
      | 0, hj =>
        obtain rfl : d = x := by simpa using hj
        exact ⟨_, 32, by rw [HDl.out]; rfl, by rw [HDl.out]; exact Nat.le_refl _, by rw [HDl.out]; exact dig_reads ((hb.block _ (blk_lt HR1.out)).trans HR1.out) HDl.out (by decide)⟩
      | 1, hj =>
        obtain rfl : numsL [(i : Int), (b : Int)] = x := by simpa using hj
        exact ⟨A, cc, rfl, (Kd.R_reads' HR.out).2.1, (Kd.R_reads' HR.out).2.2⟩
      | j + 2, hj => simp at hj)
  · intro v W hb hd
    have h2 : ∃ g, v 12 = .slice (some ⟨g, 0, none⟩) 2 2 ∧ Kd.C (Kd.slice 5 (Kd.int .u8)) W (some ⟨g, 0, none⟩) 2 [d, numsL [(i : Int), (b : Int)]] := hd 5 (by kernel_rfl)
    obtain ⟨g, h1, hC⟩ := h2
    have HC := Aside0.mk hC
    refine step_list fun K hK => ?_
    simp only [fill_lit, fillL, Act.put, List.setIfInBounds_toArray, List.set_cons_zero, List.set_cons_succ, Nat.reduceAdd] at hK ⊢
    rw [h1] at hK ⊢
    clear hd h1 hC
    go_wp2_with (fail)
    refine (join_calls (some ⟨g, 0, none⟩) 2 [d, numsL [(i : Int), (b : Int)]] W HC.out (by rw [joinTwo_len, HDl.out, numsL_len]; simp)).mono ?_
    rintro e W' ⟨v0, rfl, hR, hb'⟩
    have HR := Aside0.mk hR
    have HB' := Aside0.mk hb'
    clear hR hb'
    go_wp2_with (fail)
    exact ⟨below_step hb HB'.out, HB'.out, Kd.R_lower HR.out (Nat.le_trans HB1.out.size hb.size)⟩
  · intro v W hb hd
    have h3 : Kd.R (Kd.int .u8) 5 W w.heap.size (fun _ => True) (v 13) (joinL [d, numsL [(i : Int), (b : Int)]]) := hd 6 (by kernel_rfl)
    obtain ⟨A, cc, hA⟩ := Kd.R_slice h3
    rw [hA] at h3
    have HR := Aside0.mk h3
    have HBw : Aside0 (Below w.heap.size w W) := ⟨below_step HB1.out hb⟩
    refine step_list fun K hK => ?_
    simp only [fill_lit, fillL, Act.put, List.setIfInBounds_toArray, List.set_cons_zero, List.set_cons_succ, Nat.reduceAdd] at hK ⊢
    rw [hA] at hK ⊢
    clear hd h3 hA
    go_wp2_with (fail)
    refine (sum_calls A _ cc (joinL [d, numsL [(i : Int), (b : Int)]]) W (Kd.R_reads' HR.out).2.2 (joinTwo_byte HBy.out (numsL_byte _)) (by rw [joinTwo_len, HDl.out, numsL_len]; simp) (HLf.out.below HBw.out) (HL.out.below HBw.out)).mono ?_
    rintro e W' ⟨rfl, hb'⟩
    have HB' := Aside0.mk hb'
    clear hb'
    go_wp2_with (fail)
    exact ⟨below_step hb HB'.out, HB'.out, rfl⟩
  · intro v W hb hd
    have h6 : v 14 = .agg (dA (secV d i b)) := hd 7 (by kernel_rfl)
    have HZ : Aside0 (W.heap[w.heap.size + 1]? = some (.cells (dA (List.replicate 32 0)) 23 (0, 0))) := ⟨(hb.block _ (blk_lt HZ1.out)).trans HZ1.out⟩
    have HBw : Aside0 (Below w.heap.size w W) := ⟨below_step HB1.out hb⟩
    have HD1 := Aside0.mk (dig_info (secV_len d i b))
    have HD2 : Aside0 ((dA (List.replicate 32 0)).size = (dA (secV d i b)).size) := ⟨by rw [dA_size, dA_size, secV_len]; rfl⟩
    have HI3 := Aside0.mk (dA_one (secV d i b))
    refine step_list fun K hK => ?_
    simp only [fill_lit, fillL, Act.put, List.setIfInBounds_toArray, List.set_cons_zero, List.set_cons_succ, Nat.reduceAdd] at hK ⊢
    rw [h6] at hK ⊢
    clear hd h6
    obtain ⟨D, hD⟩ : ∃ D, D = secV d i b := ⟨_, rfl⟩
    rw [← hD] at HD1 HD2 HI3 hK ⊢
    have HDe := Aside0.mk hD
    clear hD
    go_wp2_with (with_reducible refine wpList_store_row rfl 23 (.tmp 6) (.tmp 14) rfl (w.heap.size + 1) (dA D) rfl rfl 23 _ HZ.out HD1.out HD2.out HI3.out ?_)
    refine hK undef _ ?_
    rw [if_pos trivial]
    go_wp2
    exact bodyPost_ret (results_cell_row Tryd.results14 _ _ (w.heap.size + 1) 23 (dA D) (0, 0) _ rfl (setRow_heap _ _ _ _ _ _ HZ.out) Tryd.underlying23 rfl HD1.out) rfl ⟨by rw [HDe.out], below_setRow HBw.out (Nat.le_succ _) _⟩
end Go.Proofs.YtpdficnjjmapmaaDoorRRR.Lam
namespace Go.Proofs.YtpdficnjjmapmaaDoorRRR.Lam
open Go.RowKit Go.Proofs.YtpdficnjjmapmaaDoorRRRW.PrintWords Go.Proofs.YtpdficnjjmapmaaDoorRRRW.PrintLast Go.Proofs.YtpdficnjjmapmaaDoorRRRW.PrintMore Go.Proofs.YtpdficnjjmapmaaDoorRRR.K Go.Proofs.YtpdficnjjmapmaaDoorRRR.Sha
set_option linter.unusedVariables false
set_option linter.unusedSimpArgs false
theorem and_one' (x : Int) (h0 : 0 ≤ x) (h1 : x < 9223372036854775808) : Go.bits .and .i64 x 1 = x % 2 :=
  bits_mask .i64 63 (by decide) (fun n h0 h1 => IntWalk.i64_in _ (by omega)) 1 (by decide) x h0 h1
set_option maxHeartbeats 4000000 in
set_option maxRecDepth 100000 in
theorem bit_calls (d : List Int) (i : Nat) (w : World) (hd : d.length = 32) (hby : ∀ x ∈ d, 0 ≤ x ∧ x < 256) (hi : i < 256) :
    Calls Tryd.prog 21 #[.agg (dA d), .int .i64 (i : Int)] w fun e w' => e = .returned (.int .i64 (bitV d i : Nat)) ∧ Below w.heap.size w w' := by
  have HB1 : Aside0 (Below w.heap.size w (w.alloc (.cells (dA d) 23))) := ⟨bel_alloc (Below.refl _ _) _⟩
  have hx := byte_at hby (i / 8)
  have hc : (w.alloc (.cells (dA d) 23)).cell? ⟨w.heap.size, i / 8, none⟩ = some (.int .u8 (d.getD (i / 8) 0)) := (blk_cell (heap_alloc_new w (.cells (dA d) 23)) (i / 8)).trans (dA_get d _ (by omega))
  have hq : (i : Int) / 8 = ((i / 8 : Nat) : Int) := by omega
  have hm : (i : Int) % 8 = ((i % 8 : Nat) : Int) := by omega
  have hV : bitV d i = (d.getD (i / 8) 0).toNat / 2 ^ (7 - i % 8) % 2 := rfl
  have hql : i / 8 < 32 := by omega
  have hml : i % 8 < 8 := by omega
  obtain ⟨V, hVe⟩ : ∃ V, V = bitV d i := ⟨_, rfl⟩
  rw [← hVe] at hV ⊢
  have HVe := Aside0.mk hVe
  have HV := Aside0.mk hV
  have HI := Aside0.mk hi
  clear hVe hV hby hd
  generalize d.getD (i / 8) 0 = x at *
  generalize i / 8 = q at *
  generalize i % 8 = m at *
  go_enter Tryd.func21, Tryd.ntmps21
  go_wp2
  have hE : Go.bits .and .i64 (wrap64 (x / 2 ^ (7 - m))) 1 = (V : Int) := by
    obtain ⟨n, rfl⟩ : ∃ n : Nat, x = (n : Int) := ⟨x.toNat, by omega⟩
    have h1 : ((n : Int) / 2 ^ (7 - m)) = ((n / 2 ^ (7 - m) : Nat) : Int) := by simp
    have h2 : n / 2 ^ (7 - m) ≤ n := Nat.div_le_self _ _
    have hV := HV.out
    rw [Int.toNat_natCast] at hV
    rw [h1]
    generalize n / 2 ^ (7 - m) = y at *
    rw [show wrap64 (y : Int) = (y : Int) by unfold wrap64; omega, and_one' _ (by omega) (by omega)]
    omega
  go_ret
  exact ⟨by rw [hE]; rfl, HB1.out⟩
end Go.Proofs.YtpdficnjjmapmaaDoorRRR.Lam
namespace Go.Proofs.YtpdficnjjmapmaaDoorRRR.Sha
open Go.RowKit Go.Proofs.YtpdficnjjmapmaaDoorRRRW.PrintWords Go.Proofs.YtpdficnjjmapmaaDoorRRRW.PrintLast Go.Proofs.YtpdficnjjmapmaaDoorRRRW.PrintMore Go.Proofs.YtpdficnjjmapmaaDoorRRR.K
set_option linter.unusedVariables false
theorem HashAt.grown {W w1 : World} {B g : Nat} {v : Value} {s : St} {r : List Int} {n : Int} {row : Option Nat} (h : HashAt W B g v s r n) (hg : W.grownBy w1 row) (h1 : some g ≠ row) (h2 : ∀ k, v.ownBlock = some k → some k ≠ row) : HashAt w1 B g v s r n :=
  ⟨h.1, blk_grown h.2.1 hg h1, Kd.Q_mono (Kd.Q_grown (Kd.Q_tight rfl h.2.2) hg (fun k hk => h2 k hk.symm)) (fun _ _ => trivial)⟩
theorem HashAt.kept {W w1 : World} {B g : Nat} {v : Value} {s : St} {r : List Int} {n : Int} {S : Nat → Prop} (h : HashAt W B g v s r n) (hk : Kept W w1 S) (h1 : ¬ S g) (h2 : ∀ k, v.ownBlock = some k → ¬ S k) : HashAt w1 B g v s r n :=
  ⟨h.1, blk_kept h.2.1 hk h1, Kd.Q_mono (Kd.Q_kept (Kd.Q_tight rfl h.2.2) hk (fun k hk => h2 k hk.symm)) (fun _ _ => trivial)⟩
def Holds (W : World) (B g : Nat) (v : Value) (F : List Int) : Prop := HashAt W B g v (absorb init F).1 (absorb init F).2 ((F.length : Nat) : Int)
theorem Holds.new (w : World) (B : Nat) (hB : B ≤ w.heap.size) : Holds (w.alloc (.cells (hCells init (.slice none 0 0) 0) 63)) B w.heap.size (.slice none 0 0) [] := by
  unfold Holds
  rw [absorb_lt (by decide)]
  exact HashAt.new w B hB
theorem Holds.lt {W : World} {B g : Nat} {v : Value} {F : List Int} (h : Holds W B g v F) : ∀ k, v.ownBlock = some k → k < W.heap.size := Kd.Q_lt h.2.2
theorem Holds.blk {W : World} {B g : Nat} {v : Value} {F : List Int} (h : Holds W B g v F) : g < W.heap.size := blk_lt h.2.1
theorem hnew_calls (w : World) (B : Nat) (hB : B ≤ w.heap.size) (hL : LaidAt w 0 firstA) :
    Calls Tryd.prog 23 #[] w fun e w' => e = .returned (.pointer (some ⟨w.heap.size, 0, none⟩)) ∧ Holds w' B w.heap.size (.slice none 0 0) [] ∧ Below w.heap.size w w' ∧ w'.heap.size = w.heap.size + 1 :=
  (new_calls w hL).mono fun e w' ⟨he, hw⟩ => ⟨he, by rw [hw]; exact Holds.new w B hB, by rw [hw]; exact bel_alloc (Below.refl _ _) _, by rw [hw, World.size_alloc]⟩
def WroteH (w : World) (B g : Nat) (v : Value) (F : List Int) (e : Ending) (w' : World) : Prop :=
  e = .returned (.tuple #[]) ∧ ∃ v', Holds w' B g v' F ∧ (v'.ownBlock = v.ownBlock ∨ ∃ b, v'.ownBlock = some b ∧ w.heap.size ≤ b) ∧ Kept w w' (HTouch g v) ∧ Below B w w'
theorem hwrite_calls (B g : Nat) (v : Value) (F : List Int) (A : Option Addr) (m c : Nat) (l : List Int) (w : World) (hH : Holds w B g v F) (hB : B ≤ w.heap.size) (hl : Kd.C (Kd.int .u8) w A m l)
    (hF : ∀ x ∈ F, 0 ≤ x ∧ x < 256) (hby : ∀ x ∈ l, 0 ≤ x ∧ x < 256) (hlen : F.length + m ≤ 140737488355328) (hg : 1 < B) (hL : LaidAt w 1 constA) :
    Calls Tryd.prog 24 #[.pointer (some ⟨g, 0, none⟩), .slice A m c] w (WroteH w B g v (F ++ l)) := by
  have hr := absorb_rest F.length init F (Nat.le_refl _)
  refine (write_calls B g v (absorb init F).1 (absorb init F).2 (F.length : Nat) A m c l w hH hB hl (fun x hx => by
    rcases List.mem_append.1 hx with h1 | h1
    · exact hr.2 hF x h1
    · exact hby x h1) (by rw [hr.1]; omega) (by omega) (by omega) hg hL).mono ?_
  intro e w' hw
  obtain ⟨he, v', h1, h2⟩ := hw
  refine ⟨he, v', ?_, h2⟩
  unfold Holds
  rw [absorb_append F.length init F l (Nat.le_refl _), List.length_append, hl.1, Int.natCast_add]
  exact h1
theorem holds_sum_calls (B g : Nat) (v : Value) (F : List Int) (w : World) (hH : Holds w B g v F) (hB : B ≤ w.heap.size) (hF : ∀ x ∈ F, 0 ≤ x ∧ x < 256) (hn : F.length ≤ 1125899906842624)
    (hg : 1 < B) (hL : LaidAt w 1 constA) :
    Calls Tryd.prog 25 #[.pointer (some ⟨g, 0, none⟩)] w fun e w' => e = .returned (.agg (dA (shaV F))) ∧ Below w.heap.size w w' := by
  have hr := absorb_rest F.length init F (Nat.le_refl _)
  have h := hsum_calls B g v (absorb init F).1 (absorb init F).2 F.length w hH hB (hr.2 hF) (by rw [hr.1]; omega) hr.1 hn hg hL
  rwa [sumOf_absorb] at h
/-- A row of the call's own beside a hash that is written. -/
theorem R_beside {w w1 : World} {B g : Nat} {v u : Value} {F xs : List Int} (hH : Holds w B g v F) (hR : Kd.R (Kd.int .u8) 5 w B (fun _ => True) u xs) (hne : ∀ k, u.ownBlock = some k → some k ≠ v.ownBlock) (hk : Kept w w1 (HTouch g v)) : Kd.R (Kd.int .u8) 5 w1 B (fun _ => True) u xs :=
  Kd.R_mono (Kd.R_kept (Kd.R_tight rfl hR) hk (fun k hk2 h3 => by
    rcases h3 with h4 | h4
    · have := Kd.R_ne hR hH.2.1 (by decide)
      exact this (by rw [← h4]; exact hk2)
    · exact hne k hk2.symm h4)) (fun _ _ => trivial)
theorem Holds.beside {w w1 : World} {B g : Nat} {v u : Value} {F xs : List Int} (hH : Holds w B g v F) (hR : Kd.R (Kd.int .u8) 5 w B (fun _ => True) u xs) (hne : ∀ k, u.ownBlock = some k → some k ≠ v.ownBlock) (hg : w.grownBy w1 u.ownBlock) : Holds w1 B g v F :=
  HashAt.grown hH hg (Kd.R_ne hR hH.2.1 (by decide)) (fun k hk he => hne k he.symm hk.symm)
theorem R_lt {w : World} {B : Nat} {u : Value} {xs : List Int} (h : Kd.R (Kd.int .u8) 5 w B (fun _ => True) u xs) : ∀ k, u.ownBlock = some k → k < w.heap.size := fun k hk => by
  obtain ⟨_, ho⟩ := Kd.R_own h
  exact own_lt ho k hk
theorem apart_write {u v v1 : Value} {n : Nat} (hne : ∀ j, u.ownBlock = some j → some j ≠ v.ownBlock) (hlt : ∀ j, u.ownBlock = some j → j < n) (hat : v1.ownBlock = v.ownBlock ∨ ∃ b, v1.ownBlock = some b ∧ n ≤ b) : ∀ j, u.ownBlock = some j → some j ≠ v1.ownBlock := fun j hj he => by
  rcases hat with h1 | ⟨b, h1, h2⟩
  · exact hne j hj (by rw [he, h1])
  · have h3 := hlt j hj
    rw [h1] at he
    have := Option.some.inj he
    omega
theorem apart_append {u u1 v : Value} {n : Nat} (hne : ∀ j, u.ownBlock = some j → some j ≠ v.ownBlock) (hlt : ∀ j, v.ownBlock = some j → j < n) (hat : u1.ownBlock = u.ownBlock ∨ ∃ b, u1.ownBlock = some b ∧ n ≤ b) : ∀ j, u1.ownBlock = some j → some j ≠ v.ownBlock := fun j hj he => by
  rcases hat with h1 | ⟨b, h1, h2⟩
  · exact hne j (by rw [← h1]; exact hj) he
  · have h3 := hlt j he.symm
    rw [h1] at hj
    have := Option.some.inj hj
    omega
end Go.Proofs.YtpdficnjjmapmaaDoorRRR.Sha
namespace Go.Proofs.YtpdficnjjmapmaaDoorRRR.Lam
open Go.RowKit Go.Proofs.YtpdficnjjmapmaaDoorRRRW.PrintWords Go.Proofs.YtpdficnjjmapmaaDoorRRRW.PrintLast Go.Proofs.YtpdficnjjmapmaaDoorRRRW.PrintMore Go.Proofs.YtpdficnjjmapmaaDoorRRR.K Go.Proofs.YtpdficnjjmapmaaDoorRRR.Sha
set_option linter.unusedVariables false
set_option linter.unusedSimpArgs false
def TellsD (fid : Nat) (fa lb : Array Value) (T : Nat → Nat → List Int) (w : World) : Prop := ∀ i b, i < 256 → b < 2 → ∀ W, Below w.heap.size w W → Calls Tryd.prog fid (fa ++ (#[.int .i64 ((i : Nat) : Int), .int .i64 ((b : Nat) : Int)] ++ lb)) W fun e W' => e = .returned (.agg (dA (T i b))) ∧ Below W.heap.size W W'
def KeyAt (w : World) (F : List Int) (wr : World) : Prop := ∃ v, Holds wr w.heap.size (w.heap.size + 1) v F ∧ Below w.heap.size w wr ∧ wr.heap[w.heap.size]? = some (.cells (dA (List.replicate 32 0)) 23 (0, 0)) ∧ (∀ k, v.ownBlock = some k → w.heap.size + 1 < k)
theorem pairs_len {T : Nat → Nat → List Int} (h : ∀ i b, (T i b).length = 32) (n : Nat) : (pairs T n).length = 64 * n := spread_len (fun i => by rw [List.length_append, h, h]) n
theorem pairs_byte {T : Nat → Nat → List Int} (h : ∀ i b, ∀ x ∈ T i b, 0 ≤ x ∧ x < 256) (n : Nat) : ∀ x ∈ pairs T n, 0 ≤ x ∧ x < 256 :=
  spread_byte (fun i x hx => by
    rcases List.mem_append.1 hx with h1 | h1
    · exact h i 0 x h1
    · exact h i 1 x h1) n
/-- What a place's first b digests are. -/
def inF (T : Nat → Nat → List Int) (i : Nat) : Nat → List Int
  | 0 => []
  | 1 => T i 0
  | _ => T i 0 ++ T i 1
theorem inF_succ (T : Nat → Nat → List Int) (i b : Nat) (hb : b < 2) : inF T i (b + 1) = inF T i b ++ T i b := by
  rcases (show b = 0 ∨ b = 1 by omega) with rfl | rfl
  · exact (List.nil_append _).symm
  · rfl
theorem inF_len {T : Nat → Nat → List Int} (h : ∀ i b, (T i b).length = 32) (i b : Nat) (hb : b ≤ 2) : (inF T i b).length ≤ 64 := by
  rcases (show b = 0 ∨ b = 1 ∨ b = 2 by omega) with rfl | rfl | rfl
  · exact Nat.zero_le _
  · show (T i 0).length ≤ 64
    rw [h]; decide
  · show (T i 0 ++ T i 1).length ≤ 64
    rw [List.length_append, h, h]; decide
theorem inF_byte {T : Nat → Nat → List Int} (h : ∀ i b, ∀ x ∈ T i b, 0 ≤ x ∧ x < 256) (i b : Nat) : ∀ x ∈ inF T i b, 0 ≤ x ∧ x < 256 := by
  intro x hx
  match b, hx with
  | 0, hx => cases hx
  | 1, hx => exact h i 0 x hx
  | b + 2, hx =>
    rcases List.mem_append.1 hx with h1 | h1
    · exact h i 0 x h1
    · exact h i 1 x h1
theorem KeyAt.wrote {w wa wb : World} {v v' : Value} {F l : List Int} (hB : Below w.heap.size w wa) (hH : Holds wa w.heap.size (w.heap.size + 1) v F) (hZ : wa.heap[w.heap.size]? = some (.cells (dA (List.replicate 32 0)) 23 (0, 0))) (hv : ∀ k, v.ownBlock = some k → w.heap.size + 1 < k)
    (h1 : Holds wb w.heap.size (w.heap.size + 1) v' (F ++ l)) (ho : v'.ownBlock = v.ownBlock ∨ ∃ b, v'.ownBlock = some b ∧ wa.heap.size ≤ b) (hk : Kept wa wb (HTouch (w.heap.size + 1) v)) (hb : Below w.heap.size wa wb) : KeyAt w (F ++ l) wb := by
  have hg := hH.blk
  refine ⟨v', h1, hB.trans hb, (hk.2 _ (by omega) ?_).trans hZ, fun k hk2 => ?_⟩
  · rintro (h2 | h2)
    · omega
    · have := hv _ h2.symm; omega
  · rcases ho with h2 | ⟨b, h2, h3⟩
    · exact hv k (by rw [← h2]; exact hk2)
    · rw [h2] at hk2
      have := Option.some.inj hk2
      omega
set_option maxHeartbeats 4000000 in
set_option maxRecDepth 100000 in
theorem key_calls (fid : Nat) (fa lb : Array Value) (T : Nat → Nat → List Int) (w : World) (eg : ∀ args w, (callFunc fid args).run Tryd.prog w = .ok (.enter fid args) w) (hTl : ∀ i b, (T i b).length = 32) (hTb : ∀ i b, ∀ x ∈ T i b, 0 ≤ x ∧ x < 256)
    (ht : TellsD fid fa lb T w) (hLf : LaidAt w 0 firstA) (hL : LaidAt w 1 constA) :
    Calls Tryd.prog 19 #[.func (.func fid) fa lb] w fun e w' => e = .returned (.agg (dA (keyV T))) ∧ Below w.heap.size w w' := by
  have HT := Aside0.mk ht
  have HTl := Aside0.mk hTl
  have HTb := Aside0.mk hTb
  have HLf := Aside0.mk hLf
  have HL := Aside0.mk hL
  have HG : Aside0 (1 < w.heap.size) := ⟨by obtain ⟨_, _, h⟩ := hL; exact blk_lt h⟩
  clear ht hTl hTb hLf hL
  go_enter Tryd.func19, Tryd.ntmps19
  go_wp2_with (fail)
  rw [z32_lit]
  have HB1 : Aside0 (Below w.heap.size w (w.alloc (.cells (dA (List.replicate 32 0)) 23))) := ⟨bel_alloc (Below.refl _ _) _⟩
  have HR1 : Aside0 ((w.alloc (.cells (dA (List.replicate 32 0)) 23)).heap[w.heap.size]? = some (.cells (dA (List.replicate 32 0)) 23 (0, 0))) := ⟨heap_alloc_new _ _⟩
  have HS1 : Aside0 ((w.alloc (.cells (dA (List.replicate 32 0)) 23)).heap.size = w.heap.size + 1) := ⟨World.size_alloc _ _⟩
  generalize w.alloc (.cells (dA (List.replicate 32 0)) 23) = w1 at *
  refine (hnew_calls w1 w.heap.size HB1.out.size (HLf.out.below HB1.out)).mono ?_
  rintro e w2 ⟨rfl, hH, hb, hs⟩
  rw [HS1.out] at hH hs ⊢
  have HI : Aside0 (KeyAt w (pairs T 0) w2) := ⟨_, hH, below_step HB1.out hb, (hb.block _ (blk_lt HR1.out)).trans HR1.out, fun k hk => by simp [Value.ownBlock] at hk⟩
  clear hH hb hs HB1 HR1 HS1
  go_wp2_with (fail)
  go_loopw [8] (fun v8 wr => ∃ k : Nat, k ≤ 256 ∧ v8 = .int .i64 (k : Int) ∧ Aside0 (KeyAt w (pairs T k) wr)) (fun v8 _ => 256 - (intOf v8).toNat)
  case atStart => exact ⟨0, Nat.zero_le _, rfl, HI⟩
  case round =>
    clear HI
    obtain ⟨k, hk, rfl, HO⟩ := hrel
    by_cases hlt : k < 256
    · have HI2 : Aside0 (KeyAt w (pairs T k ++ inF T k 0) wr) := ⟨by rw [show inF T k 0 = [] from rfl, List.append_nil]; exact HO.out⟩
      have HPl := Aside0.mk (pairs_len HTl.out k)
      have HPb := Aside0.mk (pairs_byte HTb.out k)
      have HPs : Aside0 (pairs T (k + 1) = pairs T k ++ inF T k 2) := ⟨rfl⟩
      have HPn : Aside0 (∀ b, b < 2 → pairs T k ++ inF T k (b + 1) = (pairs T k ++ inF T k b) ++ T k b) := ⟨fun b hb => by rw [inF_succ T k b hb, List.append_assoc]⟩
      have HIl := Aside0.mk (fun b (hb : b ≤ 2) => inF_len HTl.out k b hb)
      have HIb := Aside0.mk (fun b => inF_byte HTb.out k b)
      have HTk : Aside0 (∀ b, b < 2 → ∀ W, Below w.heap.size w W → Calls Tryd.prog fid (fa ++ (#[.int .i64 ((k : Nat) : Int), .int .i64 ((b : Nat) : Int)] ++ lb)) W fun e W' => e = .returned (.agg (dA (T k b))) ∧ Below W.heap.size W W') := ⟨fun b hb => HT.out k b hlt hb⟩
      have HTn := Aside0.mk (HTl.out k)
      have HTy := Aside0.mk (HTb.out k)
      clear HO
      generalize pairs T k = F0 at *
      have hd9 : decide ((k : Int) < 256) = true := by simp; omega
      go_wp2_with (fail)
      go_loopw [11] (fun v11 wr => ∃ b : Nat, b ≤ 2 ∧ v11 = .int .i64 (b : Int) ∧ Aside0 (KeyAt w (F0 ++ inF T k b) wr)) (fun v11 _ => 2 - (intOf v11).toNat)
      case atStart => exact ⟨0, by decide, rfl, HI2⟩
      case round =>
        clear HI2
        obtain ⟨b, hb2, rfl, HO⟩ := hrel
        by_cases hlt2 : b < 2
        · obtain ⟨v, hH, hB, hZ, hv⟩ := HO.out
          have HH := Aside0.mk hH
          have HB := Aside0.mk hB
          have HZ := Aside0.mk hZ
          have HV := Aside0.mk hv
          have HIl2 := Aside0.mk (HIl.out b hb2)
          have HIb2 := Aside0.mk (HIb.out b)
          have HPn2 := Aside0.mk (HPn.out b hlt2)
          have HE := Aside0.mk (HTk.out b hlt2 wr hB)
          have HDl := Aside0.mk (HTn.out b)
          have HDy := Aside0.mk (HTy.out b)
          clear hH hB hZ hv HO
          generalize inF T k b = F1 at *
          generalize T k b = D at *
          have HD1 := Aside0.mk (dig_info HDl.out)
          have HD2 : Aside0 ((dA (List.replicate 32 0)).size = (dA D).size) := ⟨by rw [dA_size, dA_size, HDl.out]; rfl⟩
          have HD3 := Aside0.mk (dA_one D)
          go_wp2_with (fail)
          refine HE.out.mono ?_
          rintro e wa ⟨rfl, hb⟩
          have HBa := Aside0.mk (below_step HB.out hb)
          have HHa := Aside0.mk (HashAt.below HH.out hb)
          have HZa : Aside0 (wa.heap[w.heap.size]? = some (.cells (dA (List.replicate 32 0)) 23 (0, 0))) := ⟨(hb.block _ (blk_lt HZ.out)).trans HZ.out⟩
          clear hb HE HH HB HZ
          go_wp2_with (rw [z32_lit]; (with_reducible refine wpList_store_row rfl 23 (.tmp 6) (.tmp 17) rfl wa.heap.size (dA D) rfl rfl 23 (dA (List.replicate 32 0)) (heap_alloc_new _ _) HD1.out HD2.out HD3.out ?_); rw [World.setRow_alloc_new])
          have HBb : Aside0 (Below w.heap.size w (wa.alloc (.cells (dA D) 23))) := ⟨bel_alloc HBa.out _⟩
          have HHb : Aside0 (Holds (wa.alloc (.cells (dA D) 23)) w.heap.size (w.heap.size + 1) v (F0 ++ F1)) := ⟨HashAt.below HHa.out (bel_alloc (Below.refl _ _) _)⟩
          have HZb : Aside0 ((wa.alloc (.cells (dA D) 23)).heap[w.heap.size]? = some (.cells (dA (List.replicate 32 0)) 23 (0, 0))) := ⟨((bel_alloc (Below.refl _ _) _).block _ (blk_lt HZa.out)).trans HZa.out⟩
          have HCb : Aside0 (Kd.C (Kd.int .u8) (wa.alloc (.cells (dA D) 23)) (some ⟨wa.heap.size, 0, none⟩) 32 D) := ⟨dig_reads (heap_alloc_new _ _) HDl.out (by decide)⟩
          generalize wa.heap.size = ga at *
          generalize wa.alloc (.cells (dA D) 23) = wb at *
          refine (hwrite_calls w.heap.size (w.heap.size + 1) v (F0 ++ F1) (some ⟨ga, 0, none⟩) 32 32 D wb HHb.out HBb.out.size HCb.out (fun x hx => by
            rcases List.mem_append.1 hx with h1 | h1
            · exact HPb.out x h1
            · exact HIb2.out x h1) HDy.out (by rw [List.length_append, HPl.out]; have := HIl2.out; omega) HG.out (HL.out.below HBb.out)).mono ?_
          rintro e wc ⟨rfl, v', h1, h2, h3, h4⟩
          have HO' : Aside0 (KeyAt w (F0 ++ F1 ++ D) wc) := ⟨KeyAt.wrote HBb.out HHb.out HZb.out HV.out h1 h2 h3 h4⟩
          clear h1 h2 h3 h4
          go_wp2_with (fail)
          go_roundw
          case rel => exact ⟨b + 1, by omega, by go_num, by rw [HPn2.out]; exact HO'⟩
          case measure => simp [intOf]; omega
        · obtain rfl : b = 2 := by omega
          go_wp2_with (fail)
          go_roundw
          case rel => exact ⟨k + 1, by omega, by go_num, by rw [HPs.out]; exact HO⟩
          case measure => simp [intOf]; omega
    · obtain rfl : k = 256 := by omega
      obtain ⟨v, hH, hB, hZ, hv⟩ := HO.out
      have HH := Aside0.mk hH
      have HB := Aside0.mk hB
      have HZ := Aside0.mk hZ
      have HKv : Aside0 (keyV T = shaV (pairs T 256)) := ⟨rfl⟩
      have HPl := Aside0.mk (pairs_len HTl.out 256)
      have HPb := Aside0.mk (pairs_byte HTb.out 256)
      clear hH hB hZ hv HO
      generalize pairs T 256 = F at *
      go_wp2_with (fail)
      refine (holds_sum_calls w.heap.size (w.heap.size + 1) v F wr HH.out HB.out.size HPb.out (by rw [HPl.out]; decide) HG.out (HL.out.below HB.out)).mono ?_
      rintro e wa ⟨rfl, hb⟩
      have HBa := Aside0.mk (below_step HB.out hb)
      have HZa : Aside0 (wa.heap[w.heap.size]? = some (.cells (dA (List.replicate 32 0)) 23 (0, 0))) := ⟨(hb.block _ (blk_lt HZ.out)).trans HZ.out⟩
      clear hb HH HB HZ
      rw [← HKv.out]
      have HD1 := Aside0.mk (dig_info (show (keyV T).length = 32 from shaV_length _))
      have HD2 : Aside0 ((dA (List.replicate 32 0)).size = (dA (keyV T)).size) := ⟨by rw [dA_size, dA_size, show (keyV T).length = 32 from shaV_length _]; rfl⟩
      have HD3 := Aside0.mk (dA_one (keyV T))
      obtain ⟨D, hD⟩ : ∃ D, D = keyV T := ⟨_, rfl⟩
      rw [← hD] at HD1 HD2 HD3 ⊢
      have HDe := Aside0.mk hD
      clear hD HKv
      go_wp2_with (with_reducible refine wpList_store_row rfl 23 (.tmp 2) (.tmp 24) rfl w.heap.size (dA D) rfl rfl 23 _ HZa.out HD1.out HD2.out HD3.out ?_)
      exact bodyPost_ret (results_cell_row Tryd.results19 _ _ w.heap.size 23 (dA D) (0, 0) _ rfl (setRow_heap _ _ _ _ _ _ HZa.out) Tryd.underlying23 rfl HD1.out) rfl ⟨by rw [HDe.out], below_setRow HBa.out (Nat.le_refl _) _⟩
end Go.Proofs.YtpdficnjjmapmaaDoorRRR.Lam
namespace Go.Proofs.YtpdficnjjmapmaaDoorRRR.Lam
open Go.RowKit Go.Proofs.YtpdficnjjmapmaaDoorRRRW.PrintWords Go.Proofs.YtpdficnjjmapmaaDoorRRRW.PrintLast Go.Proofs.YtpdficnjjmapmaaDoorRRRW.PrintMore Go.Proofs.YtpdficnjjmapmaaDoorRRR.K Go.Proofs.YtpdficnjjmapmaaDoorRRR.Sha
set_option linter.unusedVariables false
set_option linter.unusedSimpArgs false
theorem zz_size {d : List Int} (h : d.length = 32) : (dA (List.replicate 32 0)).size = (dA d).size := by rw [dA_size, dA_size, h]; rfl
set_option maxHeartbeats 4000000 in
set_option maxRecDepth 100000 in
theorem public1_calls (d : List Int) (i b g : Nat) (w : World) (hd : d.length = 32) (hby : ∀ x ∈ d, 0 ≤ x ∧ x < 256) (hG : w.heap[g]? = some (.cells (dA d) 23 (0, 0)))
    (hLf : LaidAt w 0 firstA) (hL : LaidAt w 1 constA) :
    Calls Tryd.prog 20 #[.int .i64 (i : Int), .int .i64 (b : Int), .pointer (some ⟨g, 0, none⟩)] w fun e w' => e = .returned (.agg (dA (shaV (secV d i b)))) ∧ Below w.heap.size w w' := by
  have HGo : Aside0 (∀ o, (w.alloc o).heap[g]? = some (.cells (dA d) 23 (0, 0))) := ⟨fun o => ((bel_alloc (Below.refl _ _) o).block _ (blk_lt hG)).trans hG⟩
  have HBy := Aside0.mk hby
  have HDl := Aside0.mk hd
  have HLf := Aside0.mk hLf
  have HL := Aside0.mk hL
  have HDi := Aside0.mk (dig_info hd)
  clear hLf hL hby hd hG
  go_enter Tryd.func20, Tryd.ntmps20
  go_wp2_with (with_reducible refine wpList_load_row rfl 23 (.tmp 2) rfl g rfl 23 (dA d) (0, 0) _ (HGo.out _) Tryd.underlying23 rfl HDi.out ?_)
  rw [z32_lit]
  have HB1 : Aside0 (Below w.heap.size w (w.alloc (.cells (dA (List.replicate 32 0)) 23))) := ⟨bel_alloc (Below.refl _ _) _⟩
  have HZ1 : Aside0 ((w.alloc (.cells (dA (List.replicate 32 0)) 23)).heap[w.heap.size]? = some (.cells (dA (List.replicate 32 0)) 23 (0, 0))) := ⟨heap_alloc_new _ _⟩
  generalize w.alloc (.cells (dA (List.replicate 32 0)) 23) = w1 at *
  refine (secret_calls d i b w1 HDl.out HBy.out (HLf.out.below HB1.out) (HL.out.below HB1.out)).mono ?_
  rintro e w2 ⟨rfl, hb⟩
  have HB2 := Aside0.mk (below_step HB1.out hb)
  have HZ2 : Aside0 (w2.heap[w.heap.size]? = some (.cells (dA (List.replicate 32 0)) 23 (0, 0))) := ⟨(hb.block _ (blk_lt HZ1.out)).trans HZ1.out⟩
  have HSl := Aside0.mk (secV_len d i b)
  have HSb := Aside0.mk (secV_byte d i b)
  clear hb HB1 HZ1 HGo
  obtain ⟨s, hs⟩ : ∃ s, s = secV d i b := ⟨_, rfl⟩
  rw [← hs] at HSl HSb ⊢
  have HSe := Aside0.mk hs
  clear hs
  have HS1 := Aside0.mk (dig_info HSl.out)
  have HS2 := Aside0.mk (zz_size HSl.out)
  have HS3 := Aside0.mk (dA_one s)
  have HB3 : Aside0 (Below w.heap.size w (w2.alloc (.cells (dA s) 23))) := ⟨bel_alloc HB2.out _⟩
  have HC3 : Aside0 (Kd.C (Kd.int .u8) (w2.alloc (.cells (dA s) 23)) (some ⟨w2.heap.size, 0, none⟩) 32 s) := ⟨dig_reads (heap_alloc_new _ _) HSl.out (by decide)⟩
  have HZ3 : Aside0 ((w2.alloc (.cells (dA s) 23)).heap[w.heap.size]? = some (.cells (dA (List.replicate 32 0)) 23 (0, 0))) := ⟨((bel_alloc (Below.refl _ _) _).block _ (blk_lt HZ2.out)).trans HZ2.out⟩
  go_wp2_with (rw [z32_lit]; (with_reducible refine wpList_store_row rfl 23 (.tmp 6) (.tmp 10) rfl w2.heap.size (dA s) rfl rfl 23 (dA (List.replicate 32 0)) (heap_alloc_new _ _) HS1.out HS2.out HS3.out ?_); rw [World.setRow_alloc_new])
  refine (sum_calls (some ⟨w2.heap.size, 0, none⟩) 32 32 s _ HC3.out HSb.out (by decide) (HLf.out.below HB3.out) (HL.out.below HB3.out)).mono ?_
  rintro e w4 ⟨rfl, hb⟩
  have HB4 := Aside0.mk (below_step HB3.out hb)
  have HZ4 : Aside0 (w4.heap[w.heap.size]? = some (.cells (dA (List.replicate 32 0)) 23 (0, 0))) := ⟨(hb.block _ (blk_lt HZ3.out)).trans HZ3.out⟩
  clear hb HB3 HC3 HZ3 HZ2 HB2
  have HDl2 := Aside0.mk (shaV_length s)
  obtain ⟨D, hD⟩ : ∃ D, D = shaV s := ⟨_, rfl⟩
  rw [← hD] at HDl2 ⊢
  have HDe := Aside0.mk hD
  clear hD
  have HD1 := Aside0.mk (dig_info HDl2.out)
  have HD2 := Aside0.mk (zz_size HDl2.out)
  have HD3 := Aside0.mk (dA_one D)
  go_wp2_with (with_reducible refine wpList_store_row rfl 23 (.tmp 5) (.tmp 12) rfl w.heap.size (dA D) rfl rfl 23 _ HZ4.out HD1.out HD2.out HD3.out ?_)
  exact bodyPost_ret (results_cell_row Tryd.results20 _ _ w.heap.size 23 (dA D) (0, 0) _ rfl (setRow_heap _ _ _ _ _ _ HZ4.out) Tryd.underlying23 rfl HD1.out) rfl ⟨by rw [HDe.out, HSe.out], below_setRow HB4.out (Nat.le_refl _) _⟩
set_option maxHeartbeats 4000000 in
set_option maxRecDepth 100000 in
theorem public_calls (d : List Int) (w : World) (hd : d.length = 32) (hby : ∀ x ∈ d, 0 ≤ x ∧ x < 256)
    (hLf : LaidAt w 0 firstA) (hL : LaidAt w 1 constA) :
    Calls Tryd.prog 9 #[.agg (dA d)] w fun e w' => e = .returned (.agg (dA (pubV d))) ∧ Below w.heap.size w w' := by
  have HBy := Aside0.mk hby
  have HDl := Aside0.mk hd
  have HLf := Aside0.mk hLf
  have HL := Aside0.mk hL
  clear hLf hL hby hd
  go_enter Tryd.func9, Tryd.ntmps9
  go_wp2_with (fail)
  rw [z32_lit]
  have HB1 : Aside0 (Below w.heap.size w ((w.alloc (.cells (dA d) 23)).alloc (.cells (dA (List.replicate 32 0)) 23))) := ⟨bel_alloc (bel_alloc (Below.refl _ _) _) _⟩
  have HR1 : Aside0 (((w.alloc (.cells (dA d) 23)).alloc (.cells (dA (List.replicate 32 0)) 23)).heap[w.heap.size]? = some (.cells (dA d) 23 (0, 0))) := ⟨((bel_alloc (Below.refl _ _) _).block _ (blk_lt (heap_alloc_new w (.cells (dA d) 23)))).trans (heap_alloc_new _ _)⟩
  have HZ1 : Aside0 (((w.alloc (.cells (dA d) 23)).alloc (.cells (dA (List.replicate 32 0)) 23)).heap[w.heap.size + 1]? = some (.cells (dA (List.replicate 32 0)) 23 (0, 0))) := ⟨by have := heap_alloc_new (w.alloc (.cells (dA d) 23)) (.cells (dA (List.replicate 32 0)) 23); rwa [World.size_alloc] at this⟩
  generalize (w.alloc (.cells (dA d) 23)).alloc (.cells (dA (List.replicate 32 0)) 23) = w1 at *
  have HT : Aside0 (TellsD 20 #[] #[.pointer (some ⟨w.heap.size, 0, none⟩)] (fun i b => shaV (secV d i b)) w1) := ⟨fun i b hi hb W hW =>
    public1_calls d i b w.heap.size W HDl.out HBy.out ((hW.block _ (blk_lt HR1.out)).trans HR1.out) ((HLf.out.below HB1.out).below hW) ((HL.out.below HB1.out).below hW)⟩
  refine (key_calls 20 #[] #[.pointer (some ⟨w.heap.size, 0, none⟩)] (fun i b => shaV (secV d i b)) w1 (enters_ Tryd.func20 (by kernel_rfl) rfl) (fun i b => shaV_length _) (fun i b => shaV_byte _) HT.out (HLf.out.below HB1.out) (HL.out.below HB1.out)).mono ?_
  rintro e w2 ⟨rfl, hb⟩
  have HB2 := Aside0.mk (below_step HB1.out hb)
  have HZ2 : Aside0 (w2.heap[w.heap.size + 1]? = some (.cells (dA (List.replicate 32 0)) 23 (0, 0))) := ⟨(hb.block _ (blk_lt HZ1.out)).trans HZ1.out⟩
  clear hb HT HB1 HR1 HZ1
  rw [show keyV (fun i b => shaV (secV d i b)) = pubV d from rfl]
  have HDl2 : Aside0 ((pubV d).length = 32) := ⟨shaV_length _⟩
  obtain ⟨D, hD⟩ : ∃ D, D = pubV d := ⟨_, rfl⟩
  rw [← hD] at HDl2 ⊢
  have HDe := Aside0.mk hD
  clear hD
  have HD1 := Aside0.mk (dig_info HDl2.out)
  have HD2 := Aside0.mk (zz_size HDl2.out)
  have HD3 := Aside0.mk (dA_one D)
  go_wp2_with (with_reducible refine wpList_store_row rfl 23 (.tmp 2) (.tmp 4) rfl (w.heap.size + 1) (dA D) rfl rfl 23 _ HZ2.out HD1.out HD2.out HD3.out ?_)
  exact bodyPost_ret (results_cell_row Tryd.results9 _ _ (w.heap.size + 1) 23 (dA D) (0, 0) _ rfl (setRow_heap _ _ _ _ _ _ HZ2.out) Tryd.underlying23 rfl HD1.out) rfl ⟨by rw [HDe.out], below_setRow HB2.out (Nat.le_succ _) _⟩
end Go.Proofs.YtpdficnjjmapmaaDoorRRR.Lam
namespace Go.Proofs.YtpdficnjjmapmaaDoorRRR.Lam
open Go.RowKit Go.Proofs.YtpdficnjjmapmaaDoorRRRW.PrintWords Go.Proofs.YtpdficnjjmapmaaDoorRRRW.PrintLast Go.Proofs.YtpdficnjjmapmaaDoorRRRW.PrintMore Go.Proofs.YtpdficnjjmapmaaDoorRRR.K Go.Proofs.YtpdficnjjmapmaaDoorRRR.Sha
set_option linter.unusedVariables false
def isz : Value → Bool
  | .int .u8 0 => true
  | _ => false
theorem isz_eq {v : Value} (h : isz v = true) : v = .int .u8 0 := by
  unfold isz at h
  split at h
  · rfl
  · cases h
def eat : Nat → List Value → Option (List Value)
  | 0, l => some l
  | n + 1, x :: l => if isz x then eat n l else none
  | _ + 1, [] => none
theorem eat_eq : ∀ (n : Nat) (l r : List Value), eat n l = some r → l = List.replicate n (.int .u8 0) ++ r
  | 0, l, r, h => by
    injection h
  | n + 1, [], r, h => by cases h
  | n + 1, x :: l, r, h => by
    rw [eat] at h
    split at h
    · rename_i hx
      rw [isz_eq hx, eat_eq n l r h, List.replicate_succ]
      rfl
    · cases h
def eats : Nat → List Value → Bool
  | 0, [] => true
  | 0, _ :: _ => false
  | n + 1, l => match eat 64 l with
    | some r => eats n r
    | none => false
theorem eats_eq : ∀ (n : Nat) (l : List Value), eats n l = true → l = List.replicate (64 * n) (.int .u8 0)
  | 0, [], _ => rfl
  | 0, _ :: _, h => by cases h
  | n + 1, l, h => by
    rw [eats] at h
    split at h
    · rename_i r hr
      rw [eat_eq 64 l r hr, eats_eq n r h, List.replicate_append_replicate]
      congr 1
      omega
    · cases h
def zChk (n : Nat) : Option Value → Bool
  | some (.agg a) => eats n a.toList
  | _ => false
theorem zChk_eq {n : Nat} {z : Option Value} (h : zChk n z = true) : z = some (.agg (dA (List.replicate (64 * n) 0))) := by
  unfold zChk at h
  split at h
  · rename_i a
    have h1 := eats_eq n _ h
    rw [show a = dA (List.replicate (64 * n) 0) from by
      apply Array.ext'
      rw [h1]
      simp [dA, nums]]
  · cases h
theorem zero_of_chk {P : Program} {t n m : Nat} (h : (P.info? t).map (fun i => (zChk n i.zero, i.size)) = some (true, m)) : (P.info? t).map (fun i => (i.zero, i.size)) = some (some (.agg (dA (List.replicate (64 * n) 0))), m) := by
  obtain ⟨i, hi, h2⟩ := Option.map_eq_some_iff.1 h
  simp only [Prod.mk.injEq] at h2
  rw [hi, Option.map_some, zChk_eq h2.1, h2.2]
/-- Noughts: a word of its own, that no walk writes them out. -/
def zeros (n : Nat) : List Int := List.replicate n 0
theorem sig_size : (Tryd.prog.info? 34).map (·.size) = some 16384 := by kernel_rfl
theorem half_size : (Tryd.prog.info? 32).map (·.size) = some 8192 := by kernel_rfl
theorem sig_zero : (Tryd.prog.info? 34).map (fun i => (i.zero, i.size)) = some (some (.agg (dA (zeros 16384))), 16384) := zero_of_chk (n := 256) (by kernel_rfl)
theorem half_zero : (Tryd.prog.info? 32).map (fun i => (i.zero, i.size)) = some (some (.agg (dA (zeros 8192))), 8192) := zero_of_chk (n := 128) (by kernel_rfl)
/-- A large variable is made. -/
theorem wpList_alloc_big {P : Program} {ops : Array Oper} {rest : List Oper} {o : Oper} {a : Act} {w : World} {Q : Exit → Act → World → Prop} (hg : o.guard = none) (t : TypeId) (ho : o.op = .alloc t) (dst : Option Tmp) (hdst : o.dst = dst)
    (cells : Array Value) (n : Nat) (hz : (P.info? t).map (fun i => (i.zero, i.size)) = some (some (.agg cells), n))
    (h : wpList P ops Q rest (a.put dst (.pointer (some ⟨w.heap.size, 0, none⟩))) (w.alloc (.cells cells t))) : wpList P ops Q (o :: rest) a w :=
  Go.Great.wpList_allocTo hg dst hdst _ _ (by
    unfold execOp
    simp only [ho]
    simp [Instr.alloc, Sem.run_bind, (zero_of_info hz).1, go_sem]) h
end Go.Proofs.YtpdficnjjmapmaaDoorRRR.Lam
namespace Go.Proofs.YtpdficnjjmapmaaDoorRRR.Lam
open Go.RowKit Go.Proofs.YtpdficnjjmapmaaDoorRRRW.PrintWords Go.Proofs.YtpdficnjjmapmaaDoorRRRW.PrintLast Go.Proofs.YtpdficnjjmapmaaDoorRRRW.PrintMore Go.Proofs.YtpdficnjjmapmaaDoorRRR.K Go.Proofs.YtpdficnjjmapmaaDoorRRR.Sha
set_option linter.unusedVariables false
set_option linter.unusedSimpArgs false
/-- While a signature is made: j digests of Open, k of Rest. -/
def SigW (w : World) (s m : List Int) (j k : Nat) (wr : World) : Prop :=
  wr.heap[w.heap.size]? = some (.cells (dA s) 23 (0, 0)) ∧ wr.heap[w.heap.size + 1]? = some (.cells (dA m) 23 (0, 0)) ∧ wr.heap[w.heap.size + 1 + 1]? = some (.cells (dA (zeros 16384)) 34 (0, 0)) ∧
  wr.heap[w.heap.size + 1 + 1 + 1]? = some (.cells (dA (sgL (openF s m) (restF s m) j k)) 34 (0, 0)) ∧ Below w.heap.size w wr
theorem SigW.below {w w1 w2 : World} {s m : List Int} {j k : Nat} (h : SigW w s m j k w1) (hb : Below w1.heap.size w1 w2) : SigW w s m j k w2 :=
  ⟨(hb.block _ (blk_lt h.1)).trans h.1, (hb.block _ (blk_lt h.2.1)).trans h.2.1, (hb.block _ (blk_lt h.2.2.1)).trans h.2.2.1, (hb.block _ (blk_lt h.2.2.2.1)).trans h.2.2.2.1, below_step h.2.2.2.2 hb⟩
theorem heap_setCells_far : ∀ (vs : List Value) (w : World) (b o k : Nat), k ≠ b → (w.setCells b o vs).heap[k]? = w.heap[k]?
  | [], w, b, o, k, h => rfl
  | v :: r, w, b, o, k, h => by
    rw [World.setCells, heap_setCells_far r _ b (o + 1) k h]
    exact Below.heap_setCell w ⟨b, o, none⟩ v k h
theorem below_setCells {B : Nat} {w0 : World} : ∀ (vs : List Value) {w : World} {b : Nat} (o : Nat), Below B w0 w → B ≤ b → Below B w0 (w.setCells b o vs)
  | [], w, b, o, h, hb => h
  | v :: r, w, b, o, h, hb => below_setCells r (o + 1) (h.setCell (p := ⟨b, o, none⟩) hb v) hb
theorem SigW.open_ {w w1 : World} {s m : List Int} {j k : Nat} (h : SigW w s m j k w1) (hj : j < 256) (hk : k ≤ 256) : SigW w s m (j + 1) k (w1.setCells (w.heap.size + 1 + 1 + 1) (j * 32) (nums .u8 (openF s m j))) := by
  rw [Nat.mul_comm j 32]
  have h1 := blk_spl (openF s m j) (32 * j) h.2.2.2.1 (by rw [sgL_len (openF_len s m) (restF_len s m) j k (by omega) hk, openF_len]; omega)
  rw [sgL_open (openF_len s m) j k hj] at h1
  exact ⟨(heap_setCells_far _ _ _ _ _ (by omega)).trans h.1, (heap_setCells_far _ _ _ _ _ (by omega)).trans h.2.1, (heap_setCells_far _ _ _ _ _ (by omega)).trans h.2.2.1, h1, below_setCells _ _ h.2.2.2.2 (by omega)⟩
theorem SigW.rest_ {w w1 : World} {s m : List Int} {j k : Nat} (h : SigW w s m j k w1) (hj : j ≤ 256) (hk : k < 256) : SigW w s m j (k + 1) (w1.setCells (w.heap.size + 1 + 1 + 1) (8192 + k * 32) (nums .u8 (restF s m k))) := by
  rw [Nat.mul_comm k 32]
  have h1 := blk_spl (restF s m k) (8192 + 32 * k) h.2.2.2.1 (by rw [sgL_len (openF_len s m) (restF_len s m) j k hj (by omega), restF_len]; omega)
  rw [sgL_rest (openF_len s m) (restF_len s m) j k hj hk] at h1
  exact ⟨(heap_setCells_far _ _ _ _ _ (by omega)).trans h.1, (heap_setCells_far _ _ _ _ _ (by omega)).trans h.2.1, (heap_setCells_far _ _ _ _ _ (by omega)).trans h.2.2.1, h1, below_setCells _ _ h.2.2.2.2 (by omega)⟩
theorem SigW.thereO {w w1 : World} {s m : List Int} {j k : Nat} (h : SigW w s m j k w1) (hj : j < 256) (hk : k ≤ 256) {D : List Int} (hD : D.length = 32) : w1.there (w.heap.size + 1 + 1 + 1) (j * 32) (dA D).size :=
  dA_there h.2.2.2.1 (j * 32) _ (by rw [sgL_len (openF_len s m) (restF_len s m) j k (by omega) hk, dA_size, hD]; omega)
theorem SigW.thereR {w w1 : World} {s m : List Int} {j k : Nat} (h : SigW w s m j k w1) (hj : j ≤ 256) (hk : k < 256) {D : List Int} (hD : D.length = 32) : w1.there (w.heap.size + 1 + 1 + 1) (8192 + k * 32) (dA D).size :=
  dA_there h.2.2.2.1 (8192 + k * 32) _ (by rw [sgL_len (openF_len s m) (restF_len s m) j k hj (by omega), dA_size, hD]; omega)
set_option maxHeartbeats 8000000 in
set_option maxRecDepth 100000 in
theorem sign_calls (s m : List Int) (w : World) (hs : s.length = 32) (hsy : ∀ x ∈ s, 0 ≤ x ∧ x < 256) (hm : m.length = 32) (hmy : ∀ x ∈ m, 0 ≤ x ∧ x < 256)
    (hLf : LaidAt w 0 firstA) (hL : LaidAt w 1 constA) :
    Calls Tryd.prog 11 #[.agg (dA s), .agg (dA m)] w fun e w' => e = .returned (.agg (dA (sigV s m))) ∧ Below w.heap.size w w' := by
  have HSl := Aside0.mk hs
  have HSy := Aside0.mk hsy
  have HMl := Aside0.mk hm
  have HMy := Aside0.mk hmy
  have HLf := Aside0.mk hLf
  have HL := Aside0.mk hL
  have HSi := Aside0.mk (dig_info hs)
  have HMi := Aside0.mk (dig_info hm)
  have HI : Aside0 (SigW w s m 0 0 ((((w.alloc (.cells (dA s) 23)).alloc (.cells (dA m) 23)).alloc (.cells (dA (zeros 16384)) 34)).alloc (.cells (dA (zeros 16384)) 34))) := ⟨by
    have a1 := heap_alloc_new w (.cells (dA s) 23)
    have a2 := heap_alloc_new (w.alloc (.cells (dA s) 23)) (.cells (dA m) 23)
    have a3 := heap_alloc_new ((w.alloc (.cells (dA s) 23)).alloc (.cells (dA m) 23)) (.cells (dA (zeros 16384)) 34)
    have a4 := heap_alloc_new (((w.alloc (.cells (dA s) 23)).alloc (.cells (dA m) 23)).alloc (.cells (dA (zeros 16384)) 34)) (.cells (dA (zeros 16384)) 34)
    simp only [World.size_alloc] at a2 a3 a4
    have k : ∀ (W : World) (o : Obj) (g : Nat) (x : Obj), W.heap[g]? = some x → (W.alloc o).heap[g]? = some x := fun W o g x h => ((bel_alloc (Below.refl _ _) o).block _ (Array.getElem?_eq_some_iff.1 h).1).trans h
    exact ⟨k _ _ _ _ (k _ _ _ _ (k _ _ _ _ a1)), k _ _ _ _ (k _ _ _ _ a2), k _ _ _ _ a3, by rw [sgL_zero]; exact a4, bel_alloc (bel_alloc (bel_alloc (bel_alloc (Below.refl _ _) _) _) _) _⟩⟩
  clear hs hsy hm hmy hLf hL
  go_enter Tryd.func11, Tryd.ntmps11
  go_wp2_with (first
    | (with_reducible refine wpList_alloc_big rfl 34 rfl (some 4) rfl _ _ sig_zero ?_)
    | (with_reducible refine wpList_alloc_big rfl 34 rfl (some 5) rfl _ _ sig_zero ?_))
  generalize (((w.alloc (.cells (dA s) 23)).alloc (.cells (dA m) 23)).alloc (.cells (dA (zeros 16384)) 34)).alloc (.cells (dA (zeros 16384)) 34) = w1 at *
  go_loopw [9] (fun v9 wr => ∃ k : Nat, k ≤ 256 ∧ v9 = .int .i64 (k : Int) ∧ Aside0 (SigW w s m k k wr)) (fun v9 _ => 256 - (intOf v9).toNat)
  case atStart => exact ⟨0, Nat.zero_le _, rfl, HI⟩
  case round =>
    clear HI
    obtain ⟨k, hk, rfl, HO⟩ := hrel
    by_cases hlt : k < 256
    · have hltD : decide ((k : Int) < 256) = true := by simp; omega
      have hm1 : wr.heap[w.heap.size + 1]? = some (.cells (dA m) 23 (0, 0)) := HO.out.2.1
      have HM1 := Aside0.mk hm1
      clear hm1
      go_wp2_with (with_reducible refine wpList_load_row rfl 23 (.tmp 3) rfl (w.heap.size + 1) rfl 23 (dA m) (0, 0) _ HM1.out Tryd.underlying23 rfl HMi.out ?_)
      refine (bit_calls m k wr HMl.out HMy.out hlt).mono ?_
      rintro e w2 ⟨rfl, hb⟩
      have HO2 := Aside0.mk (HO.out.below hb)
      have hbl := bitV_lt m k
      have HOp : Aside0 (openF s m k = secV s k (bitV m k)) := ⟨rfl⟩
      have HRe : Aside0 (restF s m k = shaV (secV s k (1 - bitV m k))) := ⟨rfl⟩
      clear hb HO HM1
      generalize bitV m k = b at *
      have HS2 : Aside0 (w2.heap[w.heap.size]? = some (.cells (dA s) 23 (0, 0))) := ⟨HO2.out.1⟩
      go_wp2_with (with_reducible refine wpList_load_row rfl 23 (.tmp 2) rfl w.heap.size rfl 23 (dA s) (0, 0) _ HS2.out Tryd.underlying23 rfl HSi.out ?_)
      refine (secret_calls s k b w2 HSl.out HSy.out (HLf.out.below HO2.out.2.2.2.2) (HL.out.below HO2.out.2.2.2.2)).mono ?_
      rintro e w3 ⟨rfl, hb⟩
      have HO3 := Aside0.mk (HO2.out.below hb)
      clear hb HO2 HS2
      rw [← HOp.out]
      have HDl := Aside0.mk (openF_len s m k)
      obtain ⟨D, hD⟩ : ∃ D, D = openF s m k := ⟨_, rfl⟩
      rw [← hD] at HDl ⊢
      have HDe := Aside0.mk hD
      clear hD
      have HD1 := Aside0.mk (dig_info HDl.out)
      have HD3 := Aside0.mk (dA_one D)
      have HTh := Aside0.mk (HO3.out.thereO hlt hk HDl.out)
      have HO4 : Aside0 (SigW w s m (k + 1) k (w3.setCells (w.heap.size + 1 + 1 + 1) (k * 32) (dA D).toList)) := ⟨by
        have h1 := HO3.out.open_ hlt hk
        rw [← HDe.out] at h1
        exact h1⟩
      have hws : IntKind.i64.wrap (1 - (b : Int)) = ((1 - b : Nat) : Int) := by rw [IntKind.wrap_i64]; omega
      have hwt : 1 - (b : Int) = ((1 - b : Nat) : Int) := by omega
      have HbN : Aside0 (1 - b < 2) := ⟨by omega⟩
      have HS4 : Aside0 ((w3.setCells (w.heap.size + 1 + 1 + 1) (k * 32) (dA D).toList).heap[w.heap.size]? = some (.cells (dA s) 23 (0, 0))) := ⟨HO4.out.1⟩
      go_wp2_with (first
        | (with_reducible refine wpList_store_mid rfl 23 (.tmp 21) (.tmp 19) rfl _ _ (dA D) rfl rfl HTh.out HD1.out HD3.out ?_)
        | (with_reducible refine wpList_load_row rfl 23 (.tmp 2) rfl w.heap.size rfl 23 (dA s) (0, 0) _ HS4.out Tryd.underlying23 rfl HSi.out ?_))
      clear HTh HO3 HS4 hws hwt
      generalize w3.setCells (w.heap.size + 1 + 1 + 1) (k * 32) (dA D).toList = w4 at *
      refine (secret_calls s k (1 - b) w4 HSl.out HSy.out (HLf.out.below HO4.out.2.2.2.2) (HL.out.below HO4.out.2.2.2.2)).mono ?_
      rintro e w5 ⟨rfl, hb⟩
      have HO5 := Aside0.mk (HO4.out.below hb)
      clear hb HO4
      have HXl := Aside0.mk (secV_len s k (1 - b))
      have HXb := Aside0.mk (secV_byte s k (1 - b))
      generalize secV s k (1 - b) = X at *
      have HX1 := Aside0.mk (dig_info HXl.out)
      have HX2 := Aside0.mk (zz_size HXl.out)
      have HX3 := Aside0.mk (dA_one X)
      have HO6 : Aside0 (SigW w s m (k + 1) k (w5.alloc (.cells (dA X) 23))) := ⟨HO5.out.below (bel_alloc (Below.refl _ _) _)⟩
      have HC6 : Aside0 (Kd.C (Kd.int .u8) (w5.alloc (.cells (dA X) 23)) (some ⟨w5.heap.size, 0, none⟩) 32 X) := ⟨dig_reads (heap_alloc_new _ _) HXl.out (by decide)⟩
      go_wp2_with (rw [z32_lit]; (with_reducible refine wpList_store_row rfl 23 (.tmp 8) (.tmp 26) rfl w5.heap.size (dA X) rfl rfl 23 (dA (List.replicate 32 0)) (heap_alloc_new _ _) HX1.out HX2.out HX3.out ?_); rw [World.setRow_alloc_new])
      generalize w5.heap.size = g5 at *
      generalize w5.alloc (.cells (dA X) 23) = w6 at *
      refine (sum_calls (some ⟨g5, 0, none⟩) 32 32 X w6 HC6.out HXb.out (by decide) (HLf.out.below HO6.out.2.2.2.2) (HL.out.below HO6.out.2.2.2.2)).mono ?_
      rintro e w7 ⟨rfl, hb⟩
      have HO7 := Aside0.mk (HO6.out.below hb)
      clear hb HO6 HO5 HC6
      have HEl := Aside0.mk (restF_len s m k)
      rw [← HRe.out]
      obtain ⟨E, hE⟩ : ∃ E, E = restF s m k := ⟨_, rfl⟩
      rw [← hE] at HEl ⊢
      have HEe := Aside0.mk hE
      clear hE
      have HE1 := Aside0.mk (dig_info HEl.out)
      have HE3 := Aside0.mk (dA_one E)
      have hk1 : k + 1 ≤ 256 := by omega
      have HTh := Aside0.mk (HO7.out.thereR hk1 hlt HEl.out)
      have HO8 : Aside0 (SigW w s m (k + 1) (k + 1) (w7.setCells (w.heap.size + 1 + 1 + 1) (8192 + k * 32) (dA E).toList)) := ⟨by
        have h1 := HO7.out.rest_ hk1 hlt
        rw [← HEe.out] at h1
        exact h1⟩
      clear HO7
      go_wp2_with (with_reducible refine wpList_store_mid rfl 23 (.tmp 31) (.tmp 29) rfl _ _ (dA E) rfl rfl HTh.out HE1.out HE3.out ?_)
      go_roundw
      case rel => exact ⟨k + 1, by omega, by go_num, HO8⟩
      case measure => simp [intOf]; omega
    · obtain rfl : k = 256 := by omega
      have HO := Aside0.mk HO.out
      have h := HO.out
      unfold SigW at h
      rw [sgL_end] at h
      obtain ⟨h1, h2, h3, h4, h5⟩ := h
      have HZ := Aside0.mk h3
      have HS := Aside0.mk h4
      have HB := Aside0.mk h5
      have HVl := Aside0.mk (sigV_len s m)
      clear h1 h2 h3 h4 h5 HO
      obtain ⟨S, hS⟩ : ∃ S, S = sigV s m := ⟨_, rfl⟩
      rw [← hS] at HS HVl
      have HSe := Aside0.mk hS
      clear hS
      have HV1 : Aside0 ((Tryd.prog.info? 34).map (·.size) = some (dA S).size) := ⟨by rw [sig_size, dA_size, HVl.out]⟩
      have HV2 : Aside0 ((dA (zeros 16384)).size = (dA S).size) := ⟨by rw [dA_size, dA_size, HVl.out]; simp [zeros]⟩
      have HV3 := Aside0.mk (dA_one S)
      go_wp2_with (first
        | (with_reducible refine wpList_load_row rfl 34 (.tmp 5) rfl (w.heap.size + 1 + 1 + 1) rfl 34 (dA S) (0, 0) _ HS.out Tryd.underlying34 rfl HV1.out ?_)
        | (with_reducible refine wpList_store_row rfl 34 (.tmp 4) (.tmp 33) rfl (w.heap.size + 1 + 1) (dA S) rfl rfl 34 _ HZ.out HV1.out HV2.out HV3.out ?_))
      exact bodyPost_ret (results_cell_row Tryd.results11 _ _ (w.heap.size + 1 + 1) 34 (dA S) (0, 0) _ rfl (setRow_heap _ _ _ _ _ _ HZ.out) Tryd.underlying34 rfl HV1.out) rfl ⟨by rw [HSe.out], below_setRow HB.out (by omega) _⟩
end Go.Proofs.YtpdficnjjmapmaaDoorRRR.Lam
namespace Go.Proofs.YtpdficnjjmapmaaDoorRRR.Lam
open Go.RowKit Go.Proofs.YtpdficnjjmapmaaDoorRRRW.PrintWords Go.Proofs.YtpdficnjjmapmaaDoorRRRW.PrintLast Go.Proofs.YtpdficnjjmapmaaDoorRRRW.PrintMore Go.Proofs.YtpdficnjjmapmaaDoorRRR.K Go.Proofs.YtpdficnjjmapmaaDoorRRR.Sha
set_option linter.unusedVariables false
set_option linter.unusedSimpArgs false
theorem openA_len {S : List Int} (hS : S.length = 16384) (i : Nat) (hi : i < 256) : (openA S i).length = 32 := by
  rw [openA, List.length_take, List.length_drop]
  omega
theorem restA_len {S : List Int} (hS : S.length = 16384) (i : Nat) (hi : i < 256) : (restA S i).length = 32 := by
  rw [restA, List.length_take, List.length_drop]
  omega
theorem openA_byte {S : List Int} (hS : ∀ x ∈ S, 0 ≤ x ∧ x < 256) (i : Nat) : ∀ x ∈ openA S i, 0 ≤ x ∧ x < 256 := fun x hx => hS x (List.mem_of_mem_drop (List.mem_of_mem_take hx))
theorem restA_byte {S : List Int} (hS : ∀ x ∈ S, 0 ≤ x ∧ x < 256) (i : Nat) : ∀ x ∈ restA S i, 0 ≤ x ∧ x < 256 := fun x hx => hS x (List.mem_of_mem_drop (List.mem_of_mem_take hx))
def keyF (m S : List Int) (i b : Nat) : List Int := if b = bitV m i then shaV (openA S i) else restA S i
set_option maxHeartbeats 4000000 in
set_option maxRecDepth 100000 in
theorem key1_calls (m S : List Int) (i b gm gs : Nat) (w : World) (hm : m.length = 32) (hmy : ∀ x ∈ m, 0 ≤ x ∧ x < 256) (hS : S.length = 16384) (hSy : ∀ x ∈ S, 0 ≤ x ∧ x < 256) (hi : i < 256)
    (hM : w.heap[gm]? = some (.cells (dA m) 23 (0, 0))) (hG : w.heap[gs]? = some (.cells (dA S) 34 (0, 0)))
    (hLf : LaidAt w 0 firstA) (hL : LaidAt w 1 constA) :
    Calls Tryd.prog 28 #[.int .i64 (i : Int), .int .i64 (b : Int), .pointer (some ⟨gm, 0, none⟩), .pointer (some ⟨gs, 0, none⟩)] w fun e w' => e = .returned (.agg (dA (keyF m S i b))) ∧ Below w.heap.size w w' := by
  have HMo : Aside0 (∀ o, (w.alloc o).heap[gm]? = some (.cells (dA m) 23 (0, 0))) := ⟨fun o => ((bel_alloc (Below.refl _ _) o).block _ (blk_lt hM)).trans hM⟩
  have HMy := Aside0.mk hmy
  have HMl := Aside0.mk hm
  have HMi := Aside0.mk (dig_info hm)
  have HSl := Aside0.mk hS
  have HSy := Aside0.mk hSy
  have HG := Aside0.mk hG
  have HLf := Aside0.mk hLf
  have HL := Aside0.mk hL
  clear hm hmy hS hSy hM hG hLf hL
  go_enter Tryd.func28, Tryd.ntmps28
  go_wp2_with (with_reducible refine wpList_load_row rfl 23 (.tmp 2) rfl gm rfl 23 (dA m) (0, 0) _ (HMo.out _) Tryd.underlying23 rfl HMi.out ?_)
  rw [z32_lit]
  have HB1 : Aside0 (Below w.heap.size w (w.alloc (.cells (dA (List.replicate 32 0)) 23))) := ⟨bel_alloc (Below.refl _ _) _⟩
  have HZ1 : Aside0 ((w.alloc (.cells (dA (List.replicate 32 0)) 23)).heap[w.heap.size]? = some (.cells (dA (List.replicate 32 0)) 23 (0, 0))) := ⟨heap_alloc_new _ _⟩
  generalize w.alloc (.cells (dA (List.replicate 32 0)) 23) = w1 at *
  refine (bit_calls m i w1 HMl.out HMy.out hi).mono ?_
  rintro e w2 ⟨rfl, hb⟩
  have HB2 := Aside0.mk (below_step HB1.out hb)
  have HZ2 : Aside0 (w2.heap[w.heap.size]? = some (.cells (dA (List.replicate 32 0)) 23 (0, 0))) := ⟨(hb.block _ (blk_lt HZ1.out)).trans HZ1.out⟩
  have HG2 : Aside0 (w2.heap[gs]? = some (.cells (dA S) 34 (0, 0))) := ⟨(HB2.out.block _ (blk_lt HG.out)).trans HG.out⟩
  clear hb HB1 HZ1 HMo HG
  by_cases hbe : b = bitV m i
  · have HK : Aside0 (keyF m S i b = shaV (openA S i)) := ⟨if_pos hbe⟩
    have hd : ((b : Int) == ((bitV m i : Nat) : Int)) = true := by rw [beq_iff_eq]; omega
    have HC : Aside0 (Kd.C (Kd.int .u8) w2 (some ⟨gs, i * 32, none⟩) 32 (openA S i)) := ⟨by
      have h1 := dA_cells HG2.out (i * 32) 32 (by rw [HSl.out]; omega) (by decide)
      rw [Nat.mul_comm i 32] at h1 ⊢
      exact h1⟩
    have HAb := Aside0.mk (openA_byte HSy.out i)
    clear hbe
    generalize bitV m i = q at *
    go_wp2_with (fail)
    refine (sum_calls (some ⟨gs, i * 32, none⟩) 32 32 (openA S i) w2 HC.out HAb.out (by decide) (HLf.out.below HB2.out) (HL.out.below HB2.out)).mono ?_
    rintro e w4 ⟨rfl, hb⟩
    have HB4 := Aside0.mk (below_step HB2.out hb)
    have HZ4 : Aside0 (w4.heap[w.heap.size]? = some (.cells (dA (List.replicate 32 0)) 23 (0, 0))) := ⟨(hb.block _ (blk_lt HZ2.out)).trans HZ2.out⟩
    have HDl := Aside0.mk (shaV_length (openA S i))
    clear hb
    obtain ⟨D, hD⟩ : ∃ D, D = shaV (openA S i) := ⟨_, rfl⟩
    rw [← hD] at HDl ⊢
    have HDe := Aside0.mk hD
    clear hD
    have HD1 := Aside0.mk (dig_info HDl.out)
    have HD2 := Aside0.mk (zz_size HDl.out)
    have HD3 := Aside0.mk (dA_one D)
    go_wp2_with (with_reducible refine wpList_store_row rfl 23 (.tmp 6) (.tmp 16) rfl w.heap.size (dA D) rfl rfl 23 _ HZ4.out HD1.out HD2.out HD3.out ?_)
    exact bodyPost_ret (results_cell_row Tryd.results28 _ _ w.heap.size 23 (dA D) (0, 0) _ rfl (setRow_heap _ _ _ _ _ _ HZ4.out) Tryd.underlying23 rfl HD1.out) rfl ⟨by rw [HDe.out, ← HK.out], below_setRow HB4.out (Nat.le_refl _) _⟩
  · have HK : Aside0 (keyF m S i b = restA S i) := ⟨if_neg hbe⟩
    have hd : ((b : Int) == ((bitV m i : Nat) : Int)) = false := by rw [beq_eq_false_iff_ne]; omega
    have HDl := Aside0.mk (restA_len HSl.out i hi)
    have HC : Aside0 (w2.rangeAt gs (8192 + i * 32) (nums .u8 (restA S i))) := ⟨by
      have h1 := dA_range HG2.out (8192 + i * 32) 32
      rw [Nat.mul_comm i 32] at h1 ⊢
      exact h1⟩
    clear hbe
    generalize bitV m i = q at *
    obtain ⟨D, hD⟩ : ∃ D, D = restA S i := ⟨_, rfl⟩
    rw [← hD] at HDl HC
    have HDe := Aside0.mk hD
    clear hD
    have HD1 := Aside0.mk (dig_info HDl.out)
    have HD2 := Aside0.mk (zz_size HDl.out)
    have HD3 := Aside0.mk (dA_one D)
    have HD4 : Aside0 ((Tryd.prog.info? 23).map (·.size) = some (nums .u8 D).length) := ⟨by rw [HD1.out, dA_size]; simp [nums]⟩
    go_wp2_with (first
      | (with_reducible refine wpList_load_mid rfl 23 (.tmp 19) rfl _ _ rfl (nums .u8 D) _ HC.out Tryd.underlying23 rfl HD4.out ?_)
      | (with_reducible refine wpList_store_row rfl 23 (.tmp 6) (.tmp 20) rfl w.heap.size (dA D) rfl rfl 23 _ HZ2.out HD1.out HD2.out HD3.out ?_))
    exact bodyPost_ret (results_cell_row Tryd.results28 _ _ w.heap.size 23 (dA D) (0, 0) _ rfl (setRow_heap _ _ _ _ _ _ HZ2.out) Tryd.underlying23 rfl HD1.out) rfl ⟨by rw [HDe.out, ← HK.out], below_setRow HB2.out (Nat.le_refl _) _⟩
theorem keyF_congr (m S : List Int) : keyV (keyF m S) = keyOf m S := rfl
/-- A told digest, where there is none, is noughts: so that each has 32. -/
def keyG (m S : List Int) (i b : Nat) : List Int := if i < 256 then keyF m S i b else List.replicate 32 0
theorem keyG_len {m S : List Int} (hS : S.length = 16384) (i b : Nat) : (keyG m S i b).length = 32 := by
  unfold keyG keyF
  split
  · split
    · exact shaV_length _
    · exact restA_len hS i ‹_›
  · exact List.length_replicate
theorem keyG_byte {m S : List Int} (hS : ∀ x ∈ S, 0 ≤ x ∧ x < 256) (i b : Nat) : ∀ x ∈ keyG m S i b, 0 ≤ x ∧ x < 256 := by
  unfold keyG keyF
  split
  · split
    · exact shaV_byte _
    · exact restA_byte hS i
  · intro x hx
    rw [List.mem_replicate] at hx
    omega
theorem keyG_key (m S : List Int) : keyV (keyG m S) = keyOf m S := keyV_congr fun i b hi _ => if_pos hi
set_option maxHeartbeats 4000000 in
set_option maxRecDepth 100000 in
theorem keys_calls (m S : List Int) (w : World) (hm : m.length = 32) (hmy : ∀ x ∈ m, 0 ≤ x ∧ x < 256) (hS : S.length = 16384) (hSy : ∀ x ∈ S, 0 ≤ x ∧ x < 256)
    (hLf : LaidAt w 0 firstA) (hL : LaidAt w 1 constA) :
    Calls Tryd.prog 15 #[.agg (dA m), .agg (dA S)] w fun e w' => e = .returned (.agg (dA (keyOf m S))) ∧ Below w.heap.size w w' := by
  have HMy := Aside0.mk hmy
  have HMl := Aside0.mk hm
  have HSl := Aside0.mk hS
  have HSy := Aside0.mk hSy
  have HLf := Aside0.mk hLf
  have HL := Aside0.mk hL
  clear hm hmy hS hSy hLf hL
  go_enter Tryd.func15, Tryd.ntmps15
  go_wp2_with (fail)
  rw [z32_lit]
  have HW : Aside0 (∃ W, W = ((w.alloc (.cells (dA m) 23)).alloc (.cells (dA S) 34)).alloc (.cells (dA (List.replicate 32 0)) 23) ∧ Below w.heap.size w W ∧ W.heap[w.heap.size]? = some (.cells (dA m) 23 (0, 0)) ∧ W.heap[w.heap.size + 1]? = some (.cells (dA S) 34 (0, 0)) ∧ W.heap[w.heap.size + 1 + 1]? = some (.cells (dA (List.replicate 32 0)) 23 (0, 0))) := ⟨by
    have a1 := heap_alloc_new w (.cells (dA m) 23)
    have a2 := heap_alloc_new (w.alloc (.cells (dA m) 23)) (.cells (dA S) 34)
    have a3 := heap_alloc_new ((w.alloc (.cells (dA m) 23)).alloc (.cells (dA S) 34)) (.cells (dA (List.replicate 32 0)) 23)
    simp only [World.size_alloc] at a2 a3
    have k : ∀ (W : World) (o : Obj) (g : Nat) (x : Obj), W.heap[g]? = some x → (W.alloc o).heap[g]? = some x := fun W o g x h => ((bel_alloc (Below.refl _ _) o).block _ (Array.getElem?_eq_some_iff.1 h).1).trans h
    exact ⟨_, rfl, bel_alloc (bel_alloc (bel_alloc (Below.refl _ _) _) _) _, k _ _ _ _ (k _ _ _ _ a1), k _ _ _ _ a2, a3⟩⟩
  obtain ⟨w1, hw1, b1, b2, b3, b4⟩ := HW.out
  rw [← hw1]
  have HB1 := Aside0.mk b1
  have HM1 := Aside0.mk b2
  have HS1 := Aside0.mk b3
  have HZ1 := Aside0.mk b4
  clear HW hw1 b1 b2 b3 b4
  have HT : Aside0 (TellsD 28 #[] #[.pointer (some ⟨w.heap.size, 0, none⟩), .pointer (some ⟨w.heap.size + 1, 0, none⟩)] (keyG m S) w1) := ⟨fun i b hi hb W hW => by
    rw [show keyG m S i b = keyF m S i b from if_pos hi]
    exact key1_calls m S i b w.heap.size (w.heap.size + 1) W HMl.out HMy.out HSl.out HSy.out hi ((hW.block _ (blk_lt HM1.out)).trans HM1.out) ((hW.block _ (blk_lt HS1.out)).trans HS1.out) ((HLf.out.below HB1.out).below hW) ((HL.out.below HB1.out).below hW)⟩
  refine (key_calls 28 #[] #[.pointer (some ⟨w.heap.size, 0, none⟩), .pointer (some ⟨w.heap.size + 1, 0, none⟩)] (keyG m S) w1 (enters_ Tryd.func28 (by kernel_rfl) rfl) (keyG_len HSl.out) (keyG_byte HSy.out) HT.out (HLf.out.below HB1.out) (HL.out.below HB1.out)).mono ?_
  rintro e w2 ⟨rfl, hb⟩
  have HB2 := Aside0.mk (below_step HB1.out hb)
  have HZ2 : Aside0 (w2.heap[w.heap.size + 1 + 1]? = some (.cells (dA (List.replicate 32 0)) 23 (0, 0))) := ⟨(hb.block _ (blk_lt HZ1.out)).trans HZ1.out⟩
  clear hb HT HB1 HM1 HS1 HZ1
  rw [keyG_key]
  have HDl : Aside0 ((keyOf m S).length = 32) := ⟨shaV_length _⟩
  obtain ⟨D, hD⟩ : ∃ D, D = keyOf m S := ⟨_, rfl⟩
  rw [← hD] at HDl ⊢
  have HDe := Aside0.mk hD
  clear hD
  have HD1 := Aside0.mk (dig_info HDl.out)
  have HD2 := Aside0.mk (zz_size HDl.out)
  have HD3 := Aside0.mk (dA_one D)
  go_wp2_with (with_reducible refine wpList_store_row rfl 23 (.tmp 4) (.tmp 6) rfl (w.heap.size + 1 + 1) (dA D) rfl rfl 23 _ HZ2.out HD1.out HD2.out HD3.out ?_)
  exact bodyPost_ret (results_cell_row Tryd.results15 _ _ (w.heap.size + 1 + 1) 23 (dA D) (0, 0) _ rfl (setRow_heap _ _ _ _ _ _ HZ2.out) Tryd.underlying23 rfl HD1.out) rfl ⟨by rw [HDe.out], below_setRow HB2.out (by omega) _⟩
end Go.Proofs.YtpdficnjjmapmaaDoorRRR.Lam
namespace Go.Proofs.YtpdficnjjmapmaaDoorRRR.Lam
open Go.RowKit Go.Proofs.YtpdficnjjmapmaaDoorRRRW.PrintWords Go.Proofs.YtpdficnjjmapmaaDoorRRRW.PrintLast Go.Proofs.YtpdficnjjmapmaaDoorRRRW.PrintMore Go.Proofs.YtpdficnjjmapmaaDoorRRR.K Go.Proofs.YtpdficnjjmapmaaDoorRRR.Sha
set_option linter.unusedVariables false
set_option linter.unusedSimpArgs false
theorem wpList_two {ops : Array Oper} {rest : List Oper} {o : Oper} {a : Act} {w : World} {Q : Exit → Act → World → Prop} (hg : o.guard = none) (ho : o.op = .buildSlice 52 2 #[(0, .tmp 9), (1, .tmp 11)]) (dst : Option Tmp) (hdst : o.dst = dst)
    (A B : List Int) (hA : A.length = 8192) (hB : B.length = 8192) (hx : a.eval (.tmp 9) = .agg (dA A)) (hy : a.eval (.tmp 11) = .agg (dA B))
    (h : wpList Tryd.prog ops Q rest (a.put dst (.slice (some ⟨w.heap.size, 0, none⟩) 2 2)) (w.alloc (.cells (dA (A ++ B)) 32))) : wpList Tryd.prog ops Q (o :: rest) a w :=
  Go.Great.wpList_buildRows hg 52 32 _ 8192 [.agg (dA A), .agg (dA B)] ho (fun i => 9 + 2 * i) _ rfl dst hdst Tryd.underlying52 half_size
    (by kernel_rfl) (by decide) (Nat.zero_lt_succ _) (show 2 * 8192 ≤ 2 ^ 24 by decide) rfl
    (fun v hv => by
      simp only [List.mem_cons, List.not_mem_nil, or_false] at hv
      rcases hv with rfl | rfl
      · show (dA A).size = _
        rw [dA_size, hA]
      · show (dA B).size = _
        rw [dA_size, hB])
    (fun i hi => by
      match i, hi with
      | 0, _ => exact hx
      | 1, _ => exact hy)
    (by
      rw [show (([.agg (dA A), .agg (dA B)] : List Value).flatMap fun v => v.cells.toList).toArray = dA (A ++ B) from by
        simp [Value.cells, dA, nums]]
      exact h)
def EncW (w : World) (S : List Int) (n : Nat) (v : Value) (wr : World) : Prop :=
  wr.heap[w.heap.size + 1]? = some (.cells (dA S) 32 (0, 0)) ∧ wr.ownsRow w.heap.size 5 1 v (S.take n).length (nums .u8 (S.take n)) ∧ Below w.heap.size w wr
theorem EncW.below {w w1 w2 : World} {S : List Int} {n : Nat} {v : Value} (h : EncW w S n v w1) (hb : Below w1.heap.size w1 w2) : EncW w S n v w2 :=
  ⟨(hb.block _ (blk_lt h.1)).trans h.1, own_int (Kd.R_below (R_int h.2.1) hb), below_step h.2.2 hb⟩
theorem piece {S : List Int} (hS : S.length = 16384) (r k : Nat) (hr : r < 2) (hk : k < 256) : (dA ((S.drop (r * 8192)).take 8192)).extract (k * 32) (k * 32 + 32) = dA ((S.drop (8192 * r + 32 * k)).take 32) := by
  apply Array.ext'
  simp only [dA, nums, Array.toList_extract, List.extract_eq_take_drop, Nat.add_sub_cancel_left, ← List.map_drop, ← List.map_take]
  congr 1
  rw [List.drop_take, List.take_take, List.drop_drop, Nat.min_eq_left (by omega)]
  congr 2
  omega
theorem take_piece (S : List Int) (n : Nat) : S.take (n + 32) = S.take n ++ (S.drop n).take 32 := List.take_add
set_option maxHeartbeats 8000000 in
set_option maxRecDepth 100000 in
theorem encode_calls (S : List Int) (w : World) (hS : S.length = 16384) (hSy : ∀ x ∈ S, 0 ≤ x ∧ x < 256) :
    Calls Tryd.prog 16 #[.agg (dA S)] w fun e w' => ∃ v, e = .returned v ∧ Kd.R (Kd.int .u8) 5 w' w.heap.size (fun _ => True) v S ∧ Below w.heap.size w w' := by
  have HSl := Aside0.mk hS
  have HSy := Aside0.mk hSy
  have HB1 : Aside0 (Below w.heap.size w (w.alloc (.cells (dA S) 34))) := ⟨bel_alloc (Below.refl _ _) _⟩
  have HR1 : Aside0 ((w.alloc (.cells (dA S) 34)).heap[w.heap.size]? = some (.cells (dA S) 34 (0, 0))) := ⟨heap_alloc_new _ _⟩
  have HO1 : Aside0 ((w.alloc (.cells (dA S) 34)).rangeAt w.heap.size 0 (nums .u8 (S.take 8192))) := ⟨by have := dA_range HR1.out 0 8192; rwa [List.drop_zero] at this⟩
  have HO2 : Aside0 ((w.alloc (.cells (dA S) 34)).rangeAt w.heap.size 8192 (nums .u8 (S.drop 8192))) := ⟨by have := dA_range HR1.out 8192 8192; rwa [List.take_of_length_le (by rw [List.length_drop]; omega)] at this⟩
  have HAe : Aside0 (S.take 8192 ++ S.drop 8192 = S) := ⟨List.take_append_drop _ _⟩
  have HAl : Aside0 ((S.take 8192).length = 8192) := ⟨by rw [List.length_take]; omega⟩
  have HCl : Aside0 ((S.drop 8192).length = 8192) := ⟨by rw [List.length_drop]; omega⟩
  clear hS hSy
  generalize S.take 8192 = a at *
  generalize S.drop 8192 = b at *
  have HA1 : Aside0 ((Tryd.prog.info? 32).map (·.size) = some (nums .u8 a).length) := ⟨by rw [half_size]; simp [nums, HAl.out]⟩
  have HC1 : Aside0 ((Tryd.prog.info? 32).map (·.size) = some (nums .u8 b).length) := ⟨by rw [half_size]; simp [nums, HCl.out]⟩
  go_enter Tryd.func16, Tryd.ntmps16
  go_wp2_with (first
    | (with_reducible refine wpList_load_mid rfl 32 (.tmp 8) rfl _ _ rfl (nums .u8 a) _ HO1.out Tryd.underlying32 rfl HA1.out ?_)
    | (with_reducible refine wpList_load_mid rfl 32 (.tmp 10) rfl _ _ rfl (nums .u8 b) _ HO2.out Tryd.underlying32 rfl HC1.out ?_)
    | (with_reducible refine wpList_two rfl rfl (some 12) rfl a b HAl.out HCl.out rfl rfl ?_))
  rw [HAe.out]
  have HI : Aside0 (EncW w S (8192 * 0) (.slice none 0 0) ((w.alloc (.cells (dA S) 34)).alloc (.cells (dA S) 32))) := ⟨by
    have a2 := heap_alloc_new (w.alloc (.cells (dA S) 34)) (.cells (dA S) 32)
    rw [World.size_alloc] at a2
    exact ⟨a2, own_nil _ _ _ _, bel_alloc HB1.out _⟩⟩
  generalize (w.alloc (.cells (dA S) 34)).alloc (.cells (dA S) 32) = w1 at *
  clear HO1 HO2 HR1 HB1 HA1 HC1 HAl HCl HAe
  go_loopw [3, 14] (fun v3 v14 wr => ∃ r : Nat, r ≤ 2 ∧ v14 = .int .i64 (r : Int) ∧ Aside0 (EncW w S (8192 * r) v3 wr)) (fun _ v14 _ => 2 - (intOf v14).toNat)
  case atStart => exact ⟨0, by decide, rfl, HI⟩
  case round =>
    clear HI
    obtain ⟨r, hr, rfl, HO⟩ := hrel
    by_cases hlt : r < 2
    · have hltD : decide ((r : Int) < 2) = true := by simp; omega
      have HHl : Aside0 (((S.drop (r * 8192)).take 8192).length = 8192) := ⟨by rw [List.length_take, List.length_drop, HSl.out]; omega⟩
      have HRg : Aside0 (wr.rangeAt (w.heap.size + 1) (r * 8192) (nums .u8 ((S.drop (r * 8192)).take 8192))) := ⟨dA_range HO.out.1 _ _⟩
      have HPi : Aside0 (∀ k, k < 256 → (dA ((S.drop (r * 8192)).take 8192)).extract (k * 32) (k * 32 + 32) = dA ((S.drop (8192 * r + 32 * k)).take 32)) := ⟨fun k hk => piece HSl.out r k hlt hk⟩
      generalize (S.drop (r * 8192)).take 8192 = H at *
      have HH1 : Aside0 ((Tryd.prog.info? 32).map (·.size) = some (nums .u8 H).length) := ⟨by rw [half_size]; simp [nums, HHl.out]⟩
      have HH2 : Aside0 ((Tryd.prog.info? 32).map (·.size) = some (dA H).size) := ⟨by rw [half_size, dA_size, HHl.out]⟩
      have HH3 : Aside0 ((dA (zeros 8192)).size = (dA H).size) := ⟨by rw [dA_size, dA_size, HHl.out]; simp [zeros]⟩
      have HH4 := Aside0.mk (dA_one H)
      go_wp2_with (first
        | (with_reducible refine wpList_load_mid rfl 32 (.tmp 16) rfl _ _ rfl (nums .u8 H) _ HRg.out Tryd.underlying32 rfl HH1.out ?_)
        | (with_reducible refine wpList_alloc_big rfl 32 rfl (some 5) rfl _ _ half_zero ?_)
        | ((with_reducible refine wpList_store_row rfl 32 (.tmp 5) (.tmp 17) rfl wr.heap.size (dA H) rfl rfl 32 (dA (zeros 8192)) (heap_alloc_new _ _) HH2.out HH3.out HH4.out ?_); rw [World.setRow_alloc_new])
        | (with_reducible refine wpList_load_row rfl 32 (.tmp 5) rfl wr.heap.size rfl 32 (dA H) (0, 0) _ (heap_alloc_new _ _) Tryd.underlying32 rfl HH2.out ?_))
      have HI : Aside0 (EncW w S (8192 * r + 32 * 0) u3 (wr.alloc (.cells (dA H) 32))) := ⟨HO.out.below (bel_alloc (Below.refl _ _) _)⟩
      clear HO HRg HH1 HH2 HH3 HH4
      have hr' : r < 2 := hlt
      generalize wr.heap.size = g5 at *
      generalize wr.alloc (.cells (dA H) 32) = wq at *
      go_loopw [3, 19] (fun v3 v19 wr => ∃ k : Nat, k ≤ 256 ∧ v19 = .int .i64 (k : Int) ∧ Aside0 (EncW w S (8192 * r + 32 * k) v3 wr)) (fun _ v19 _ => 256 - (intOf v19).toNat)
      case atStart => exact ⟨0, Nat.zero_le _, rfl, HI⟩
      case round =>
        clear HI
        obtain ⟨k, hk, rfl, HO⟩ := hrel
        by_cases hlk : k < 256
        · have hlkD : decide ((k : Int) < 256) = true := by simp; omega
          have HPk := Aside0.mk (HPi.out k hlk)
          have HDl : Aside0 (((S.drop (8192 * r + 32 * k)).take 32).length = 32) := ⟨by rw [List.length_take, List.length_drop, HSl.out]; omega⟩
          have HTk : Aside0 (S.take (8192 * r + 32 * (k + 1)) = S.take (8192 * r + 32 * k) ++ (S.drop (8192 * r + 32 * k)).take 32) := ⟨by rw [← take_piece]; congr 1⟩
          have HTl : Aside0 ((S.take (8192 * r + 32 * k)).length ≤ 16384) := ⟨by rw [List.length_take, HSl.out]; omega⟩
          obtain ⟨h1, h2, h3⟩ := HO.out
          have HN : Aside0 (some (w.heap.size + 1) ≠ u3.ownBlock) := ⟨Kd.R_ne (R_int h2) h1 (by decide)⟩
          have HS1 := Aside0.mk h1
          have HOw := Aside0.mk h2
          have HB := Aside0.mk h3
          clear h1 h2 h3 HO
          generalize (S.drop (8192 * r + 32 * k)).take 32 = D at *
          obtain ⟨xs, hxs⟩ : ∃ xs, xs = S.take (8192 * r + 32 * k) := ⟨_, rfl⟩
          rw [← hxs] at HTk HTl HOw
          clear hxs
          have HD1 := Aside0.mk (dig_info HDl.out)
          have HD2 := Aside0.mk (zz_size HDl.out)
          have HD3 := Aside0.mk (dA_one D)
          have hidx : ∀ W : World, (Instr.index 32 (.agg (dA H)) (.int .i64 (k : Int))).run Tryd.prog W = .ok (.agg (dA D)) W := fun W => by
            rw [← HPk.out]
            exact run_index_agg 32 23 256 (dA H) .i64 k Tryd.underlying32 Tryd.underlying23 rfl (z := some (.agg (dA (List.replicate 32 0)))) (sz := 32) (by_ := 32) (by kernel_rfl) hlk W
          go_wp2_with (first
            | (rw [z32_lit]; (with_reducible refine wpList_store_row rfl 23 (.tmp 7) (.tmp 21) rfl wr.heap.size (dA D) rfl rfl 23 (dA (List.replicate 32 0)) (heap_alloc_new _ _) HD1.out HD2.out HD3.out ?_); rw [World.setRow_alloc_new])
            | (at_builtin; refine print_append_row (w0 := w) w.heap.size rfl (.tmp 22) (.tmp 23) 38 5 .u8 1 rfl Tryd.underlying38 Codec.info_u8 (by decide) u3 xs D (some ⟨wr.heap.size, 0, none⟩) 32 32 rfl rfl (HOw.out.alloc _) (reads_int (dig_reads (heap_alloc_new _ _) HDl.out (by decide))) (bel_alloc HB.out _) (bel_size HB.out _) (by have := HTl.out; omega) ?_; intro v1 w2 ho hb hg hat; have HO1 := Aside0.mk ho; have HB1 := Aside0.mk hb; have HG1 := Aside0.mk hg; clear ho hb hg hat))
          have HO' : Aside0 (EncW w S (8192 * r + 32 * (k + 1)) v1 w2) := ⟨blk_grown (show (wr.alloc (.cells (dA D) 23)).heap[w.heap.size + 1]? = some (.cells (dA S) 32 (0, 0)) from ((bel_alloc (Below.refl _ _) _).block _ (blk_lt HS1.out)).trans HS1.out) HG1.out HN.out, by rw [HTk.out]; exact HO1.out, HB1.out⟩
          clear HO1 HB1 HG1
          go_roundw
          case rel => exact ⟨k + 1, by omega, by go_num, HO'⟩
          case measure => simp [intOf]; omega
        · obtain rfl : k = 256 := by omega
          have HO' : Aside0 (EncW w S (8192 * (r + 1)) u3 wr) := ⟨by rw [show 8192 * (r + 1) = 8192 * r + 32 * 256 by omega]; exact HO.out⟩
          clear HO
          go_wp2_with (fail)
          go_roundw
          case rel => exact ⟨r + 1, by omega, by go_num, HO'⟩
          case measure => simp [intOf]; omega
    · obtain rfl : r = 2 := by omega
      obtain ⟨h1, h2, h3⟩ := HO.out
      have HOw := Aside0.mk h2
      have HB := Aside0.mk h3
      have HE : Aside0 (S.take (8192 * 2) = S) := ⟨List.take_of_length_le (by rw [HSl.out]; exact Nat.le_refl _)⟩
      rw [HE.out] at HOw
      clear h1 h2 h3 HO
      go_wp2
      go_ret
      exact ⟨_, rfl, R_int HOw.out, HB.out⟩
end Go.Proofs.YtpdficnjjmapmaaDoorRRR.Lam
namespace Go.Proofs.YtpdficnjjmapmaaDoorRRR.Lam
open Go.RowKit Go.Proofs.YtpdficnjjmapmaaDoorRRRW.PrintWords Go.Proofs.YtpdficnjjmapmaaDoorRRRW.PrintLast Go.Proofs.YtpdficnjjmapmaaDoorRRRW.PrintMore Go.Proofs.YtpdficnjjmapmaaDoorRRR.K Go.Proofs.YtpdficnjjmapmaaDoorRRR.Sha
set_option linter.unusedVariables false
set_option linter.unusedSimpArgs false
set_option maxHeartbeats 4000000 in
set_option maxRecDepth 100000 in
theorem secrets_ok (d : List Int) (i b : Nat) (w : World) (hd : d.length = 32) (hby : ∀ x ∈ d, 0 ≤ x ∧ x < 256) (hi : i < 256) (hb : b < 2)
    (hLf : LaidAt w 0 firstA) (hL : LaidAt w 1 constA) :
    Calls Tryd.prog 6 #[.agg (dA d), .int .i64 (i : Int), .int .i64 (b : Int)] w fun e w' => e = .returned (.tuple #[.agg (dA (secV d i b)), .int .i64 0]) ∧ Below w.heap.size w w' := by
  have HBy := Aside0.mk hby
  have HDl := Aside0.mk hd
  have HLf := Aside0.mk hLf
  have HL := Aside0.mk hL
  have HDi := Aside0.mk (dig_info hd)
  have g2 : decide ((256 : Int) ≤ (i : Int)) = false := by simp; omega
  have g4 : decide ((1 : Int) < (b : Int)) = false := by simp; omega
  have HW : Aside0 (∃ W, W = ((w.alloc (.cells (dA d) 23)).alloc (.cells (dA (List.replicate 32 0)) 23)) ∧ Below w.heap.size w W ∧ W.heap[w.heap.size]? = some (.cells (dA d) 23 (0, 0)) ∧ W.heap[w.heap.size + 1]? = some (.cells (dA (List.replicate 32 0)) 23 (0, 0))) := ⟨by
    have a1 := heap_alloc_new w (.cells (dA d) 23)
    have a2 := heap_alloc_new (w.alloc (.cells (dA d) 23)) (.cells (dA (List.replicate 32 0)) 23)
    rw [World.size_alloc] at a2
    exact ⟨_, rfl, bel_alloc (bel_alloc (Below.refl _ _) _) _, ((bel_alloc (Below.refl _ _) _).block _ (blk_lt a1)).trans a1, a2⟩⟩
  have HR : Aside0 (∀ o, ((w.alloc (.cells (dA d) 23)).alloc o).heap[w.heap.size]? = some (.cells (dA d) 23 (0, 0))) := ⟨fun o => ((bel_alloc (Below.refl _ _) _).block _ (blk_lt (heap_alloc_new w (.cells (dA d) 23)))).trans (heap_alloc_new _ _)⟩
  clear hLf hL hby hd hi hb
  go_enter Tryd.func6, Tryd.ntmps6
  go_wp2_with (with_reducible refine wpList_load_row rfl 23 (.tmp 3) rfl w.heap.size rfl 23 (dA d) (0, 0) _ (HR.out _) Tryd.underlying23 rfl HDi.out ?_)
  rw [z32_lit]
  obtain ⟨w1, hw1, b1, b2, b3⟩ := HW.out
  rw [← hw1]
  have HB1 := Aside0.mk b1
  have HZ1 := Aside0.mk b3
  clear HW HR hw1 b1 b2 b3
  refine (secret_calls d i b w1 HDl.out HBy.out (HLf.out.below HB1.out) (HL.out.below HB1.out)).mono ?_
  rintro e w2 ⟨rfl, hb⟩
  have HB2 := Aside0.mk (below_step HB1.out hb)
  have HZ2 : Aside0 (w2.heap[w.heap.size + 1]? = some (.cells (dA (List.replicate 32 0)) 23 (0, 0))) := ⟨(hb.block _ (blk_lt HZ1.out)).trans HZ1.out⟩
  have HSl := Aside0.mk (secV_len d i b)
  clear hb
  obtain ⟨D, hD⟩ : ∃ D, D = secV d i b := ⟨_, rfl⟩
  rw [← hD] at HSl ⊢
  have HDe := Aside0.mk hD
  clear hD
  have HD1 := Aside0.mk (dig_info HSl.out)
  have HD2 := Aside0.mk (zz_size HSl.out)
  have HD3 := Aside0.mk (dA_one D)
  go_wp2_with (with_reducible refine wpList_store_row rfl 23 (.tmp 6) (.tmp 26) rfl (w.heap.size + 1) (dA D) rfl rfl 23 _ HZ2.out HD1.out HD2.out HD3.out ?_)
  exact bodyPost_ret (results_ct Tryd.results6 _ _ (w.heap.size + 1) 23 (dA D) (0, 0) _ rfl (setRow_heap _ _ _ _ _ _ HZ2.out) Tryd.underlying23 rfl HD1.out) rfl ⟨by rw [HDe.out]; rfl, below_setRow HB2.out (Nat.le_succ _) _⟩
set_option maxHeartbeats 4000000 in
set_option maxRecDepth 100000 in
theorem secrets_bad (d : List Int) (p q : Int) (w : World) (hd : d.length = 32) (h : p < 0 ∨ 255 < p ∨ q < 0 ∨ 1 < q) :
    Calls Tryd.prog 6 #[.agg (dA d), .int .i64 p, .int .i64 q] w fun e w' => e = .returned (.tuple #[.agg (dA (List.replicate 32 0)), .int .i64 10]) ∧ Below w.heap.size w w' := by
  have HW : Aside0 (Below w.heap.size w ((w.alloc (.cells (dA d) 23)).alloc (.cells (dA (List.replicate 32 0)) 23))) := ⟨bel_alloc (bel_alloc (Below.refl _ _) _) _⟩
  have HZ : Aside0 (((w.alloc (.cells (dA d) 23)).alloc (.cells (dA (List.replicate 32 0)) 23)).heap[w.heap.size + 1]? = some (.cells (dA (List.replicate 32 0)) 23 (0, 0))) := ⟨by
    have a2 := heap_alloc_new (w.alloc (.cells (dA d) 23)) (.cells (dA (List.replicate 32 0)) 23)
    rwa [World.size_alloc] at a2⟩
  have HD1 := Aside0.mk (dig_info (show (List.replicate 32 (0 : Int)).length = 32 from rfl))
  have HD3 := Aside0.mk (dA_one (List.replicate 32 0))
  clear hd
  by_cases h1 : p < 0
  · have g1 : decide (p < 0) = true := by simpa using h1
    clear h
    go_enter Tryd.func6, Tryd.ntmps6
    go_wp2_with (rw [z32_lit]; with_reducible refine wpList_store_row rfl 23 (.tmp 6) (.tmp 22) rfl (w.heap.size + 1) (dA (List.replicate 32 0)) rfl rfl 23 _ HZ.out HD1.out rfl HD3.out ?_)
    exact bodyPost_ret (results_ct Tryd.results6 _ _ (w.heap.size + 1) 23 _ (0, 0) _ rfl (setRow_heap _ _ _ _ _ _ HZ.out) Tryd.underlying23 rfl HD1.out) rfl ⟨rfl, below_setRow HW.out (Nat.le_succ _) _⟩
  · have g1 : decide (p < 0) = false := by simpa using h1
    by_cases h2 : 255 < p
    · have g2 : decide (256 ≤ p) = true := by simp; omega
      clear h
      go_enter Tryd.func6, Tryd.ntmps6
      go_wp2_with (rw [z32_lit]; with_reducible refine wpList_store_row rfl 23 (.tmp 6) (.tmp 22) rfl (w.heap.size + 1) (dA (List.replicate 32 0)) rfl rfl 23 _ HZ.out HD1.out rfl HD3.out ?_)
      exact bodyPost_ret (results_ct Tryd.results6 _ _ (w.heap.size + 1) 23 _ (0, 0) _ rfl (setRow_heap _ _ _ _ _ _ HZ.out) Tryd.underlying23 rfl HD1.out) rfl ⟨rfl, below_setRow HW.out (Nat.le_succ _) _⟩
    · have g2 : decide (256 ≤ p) = false := by simp; omega
      by_cases h3 : q < 0
      · have g3 : decide (q < 0) = true := by simpa using h3
        clear h
        go_enter Tryd.func6, Tryd.ntmps6
        go_wp2_with (rw [z32_lit]; with_reducible refine wpList_store_row rfl 23 (.tmp 6) (.tmp 22) rfl (w.heap.size + 1) (dA (List.replicate 32 0)) rfl rfl 23 _ HZ.out HD1.out rfl HD3.out ?_)
        exact bodyPost_ret (results_ct Tryd.results6 _ _ (w.heap.size + 1) 23 _ (0, 0) _ rfl (setRow_heap _ _ _ _ _ _ HZ.out) Tryd.underlying23 rfl HD1.out) rfl ⟨rfl, below_setRow HW.out (Nat.le_succ _) _⟩
      · have g3 : decide (q < 0) = false := by simpa using h3
        have g4 : decide (1 < q) = true := by simp; omega
        clear h
        go_enter Tryd.func6, Tryd.ntmps6
        go_wp2_with (rw [z32_lit]; with_reducible refine wpList_store_row rfl 23 (.tmp 6) (.tmp 22) rfl (w.heap.size + 1) (dA (List.replicate 32 0)) rfl rfl 23 _ HZ.out HD1.out rfl HD3.out ?_)
        exact bodyPost_ret (results_ct Tryd.results6 _ _ (w.heap.size + 1) 23 _ (0, 0) _ rfl (setRow_heap _ _ _ _ _ _ HZ.out) Tryd.underlying23 rfl HD1.out) rfl ⟨rfl, below_setRow HW.out (Nat.le_succ _) _⟩
end Go.Proofs.YtpdficnjjmapmaaDoorRRR.Lam
namespace Go.Proofs.YtpdficnjjmapmaaDoorRRR.Sha
open Go.RowKit Go.Proofs.YtpdficnjjmapmaaDoorRRRW.PrintWords Go.Proofs.YtpdficnjjmapmaaDoorRRRW.PrintLast Go.Proofs.YtpdficnjjmapmaaDoorRRRW.PrintMore Go.Proofs.YtpdficnjjmapmaaDoorRRR.K
set_option linter.unusedVariables false
theorem dig_size (w : World) : (sizeOf 5).run Tryd.prog w = .ok 1 w := run_size info_u8 w
theorem eql_dig {d e : List Int} (hd : d.length = 32) (he : e.length = 32) (w : World) : (binOp .eql 23 (.agg (dA d)) (.agg (dA e))).run Tryd.prog w = .ok (.bool (d == e)) w :=
  run_eql_nums w 23 5 32 .u8 Tryd.underlying23 Tryd.underlying5 dig_size d e hd he
theorem neq_dig {d e : List Int} (hd : d.length = 32) (he : e.length = 32) (w : World) : (binOp .neq 23 (.agg (dA d)) (.agg (dA e))).run Tryd.prog w = .ok (.bool (!(d == e))) w :=
  run_neq_nums w 23 5 32 .u8 Tryd.underlying23 Tryd.underlying5 dig_size d e hd he
theorem eql_same {d : List Int} (hd : d.length = 32) (w : World) : (binOp .eql 23 (.agg (dA d)) (.agg (dA d))).run Tryd.prog w = .ok (.bool true) w := by
  rw [eql_dig hd hd, show (d == d) = true from beq_self_eq_true d]
theorem neq_same {d : List Int} (hd : d.length = 32) (w : World) : (binOp .neq 23 (.agg (dA d)) (.agg (dA d))).run Tryd.prog w = .ok (.bool false) w := by
  rw [neq_dig hd hd, show (d == d) = true from beq_self_eq_true d]
  rfl
end Go.Proofs.YtpdficnjjmapmaaDoorRRR.Sha
