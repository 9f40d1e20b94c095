/- sha.Unhex: the digest of digits, or that they are none's. -/
import Derived.Test.YtlgljlgbnjjieaaDoorUnhexPure
import Derived.Test.YtlgljlgbnjjieaaDoorHexWalk
import Derived.Great.BuildSlice
namespace Go.Proofs.YtlgljlgbnjjieaaDoor.Hex
open Go.RowKit Go.Proofs.YtlgljlgbnjjieaaDoorW.PrintWords Go.Proofs.YtlgljlgbnjjieaaDoorW.PrintLast Go.Proofs.YtlgljlgbnjjieaaDoorW.PrintMore Go.Proofs.YtlgljlgbnjjieaaDoor.K Go.Proofs.YtlgljlgbnjjieaaDoor.Sha
set_option linter.unusedVariables false
theorem results_cell_tmp {P : Program} {fn : Func} {p q : Tmp} {ty : TypeId} (h : fn.results = #[.cell p ty, .tmp q]) (tmps : Array Value) (w : World) (g : Nat) (t : TypeId) (cs : Array Value) (fr : Nat × Nat) (d : TypeDesc)
    (hp : tmps.getD p undef = .pointer (some ⟨g, 0, none⟩)) (hg : w.heap[g]? = some (.cells cs t fr))
    (hu : P.underlying ty = some d) (hd : (match d with | .struct _ | .array _ _ => true | _ => false) = true) (hi : (P.info? ty).map (·.size) = some cs.size) :
    (results fn tmps).run P w = .ok (.tuple #[.agg cs, tmps.getD q undef]) w := by
  have hp' : tmps[p]?.getD undef = .pointer (some ⟨g, 0, none⟩) := by simpa using hp
  simp [results, h, hp', asAddr, run_loadVar_row w g t ty cs fr d hg hu hd hi]
/-- While the digest is laid. -/
def UW (w : World) (Z : Array Value) (m : List Int) (wr : World) : Prop :=
  wr.heap[w.heap.size]? = some (.cells Z 25 (0, 0)) ∧ wr.heap[w.heap.size + 1]? = some (.cells (dA m) 25 (0, 0)) ∧ Below w.heap.size w wr
theorem UW.set {w w1 : World} {Z : Array Value} {m : List Int} (h : UW w Z m w1) (i : Nat) (x : Int) : UW w Z (m.set i x) (w1.setCell ⟨w.heap.size + 1, i, none⟩ (.int .u8 x)) :=
  ⟨blk_far h.1 (by show w.heap.size ≠ w.heap.size + 1; omega) _, by rw [← dA_set]; exact blk_set h.2.1 i _, h.2.2.setCell (by show w.heap.size ≤ w.heap.size + 1; omega) _⟩
theorem byte_back (x : UInt8) : ((x.toNat : Int)).toNat.toUInt8 = x := by
  rw [Int.toNat_natCast]
  exact UInt8.ofNat_toNat
theorem nib_calls (c : UInt8) (w : World) : Calls Tryd.prog 26 #[.string ⟨#[48, 49, 50, 51, 52, 53, 54, 55, 56, 57, 97, 98, 99, 100, 101, 102]⟩, .int .u8 (c.toNat : Int)] w fun e w' => e = .returned (.int .i64 (nib c)) ∧ w' = w := by
  refine (indexByte _ _ w).mono ?_
  rintro e w' ⟨rfl, rfl⟩
  rw [byte_back]
  exact ⟨rfl, rfl⟩
theorem join4 (x n : Int) (h0 : 0 ≤ x) (h1 : x < 16) (h2 : 0 ≤ n) (h3 : n < 16) : IntKind.u8.wrap (x * 16) = x * 16 ∧ IntKind.u8.wrap n = n ∧ Go.bits .or .u8 (x * 16) n = x * 16 + n := by
  have hk : ∀ n : Int, 0 ≤ n → n < 2 ^ 8 → IntKind.u8.wrap n = n := fun n h0 h1 => by rw [IntKind.wrap_u8]; omega
  exact ⟨hk _ (by omega) (by omega), hk _ (by omega) (by omega), bits_join .u8 8 (by decide) hk 4 _ _ (by omega) (by omega) (by omega) (by omega) (by omega) (by omega)⟩
/-- What Unhex answers. -/
def UnhexEnd (s : List UInt8) : Ending := match unhexV s with
  | some d => .returned (.tuple #[.agg (dA d), .int .i64 0])
  | none => .returned (.tuple #[.agg (dA (List.replicate 32 0)), .int .i64 11])
set_option maxHeartbeats 4000000 in
set_option maxRecDepth 100000 in
theorem unhex_calls (s : ByteArray) (w : World) (hs : s.size ≤ 1000000) :
    Calls Tryd.prog 16 #[.string s] w fun e w' => e = UnhexEnd s.data.toList ∧ Below w.heap.size w w' := by
  obtain ⟨Z, hZ⟩ : ∃ Z : Array Value, Z = dA (List.replicate 32 0) := ⟨_, rfl⟩
  have HZL : Aside0 ((#[.int .u8 0, .int .u8 0, .int .u8 0, .int .u8 0, .int .u8 0, .int .u8 0, .int .u8 0, .int .u8 0, .int .u8 0, .int .u8 0, .int .u8 0, .int .u8 0, .int .u8 0, .int .u8 0, .int .u8 0, .int .u8 0, .int .u8 0, .int .u8 0, .int .u8 0, .int .u8 0, .int .u8 0, .int .u8 0, .int .u8 0, .int .u8 0, .int .u8 0, .int .u8 0, .int .u8 0, .int .u8 0, .int .u8 0, .int .u8 0, .int .u8 0, .int .u8 0] : Array Value) = Z) := ⟨by rw [hZ]; exact z32_lit⟩
  have HZ1 : Aside0 ((Tryd.prog.info? 25).map (·.size) = some Z.size) := ⟨by rw [hZ]; exact dig_info rfl⟩
  have HZ2 : Aside0 (Z.size = Z.size) := ⟨rfl⟩
  have HZ3 : Aside0 (Z.all (·.oneCell') = true) := ⟨by rw [hZ]; exact dA_one _⟩
  have HZ := Aside0.mk hZ
  clear hZ
  have HR0 : Aside0 (((w.alloc (.cells Z 25)).alloc (.cells Z 25)).heap[w.heap.size]? = some (.cells Z 25 (0, 0))) := ⟨((bel_alloc (Below.refl _ _) _).block _ (blk_lt (heap_alloc_new w _))).trans (heap_alloc_new w _)⟩
  have HB0 : Aside0 (Below w.heap.size w ((w.alloc (.cells Z 25)).alloc (.cells Z 25))) := ⟨bel_alloc (bel_alloc (Below.refl _ _) _) _⟩
  by_cases h64 : s.size = 64
  · have hl64 : s.data.toList.length = 64 := by rw [Array.length_toList]; exact h64
    have h6D : ((s.size : Int) != 64) = false := by simp only [bne_eq_false_iff_eq]; omega
    have h6E : (s.size == 64) = true := by rw [beq_iff_eq]; exact h64
    have h6I : (s.size : Int) = 64 := by omega
    have HW0 : Aside0 (UW w Z (part s.data.toList 0) ((w.alloc (.cells Z 25)).alloc (.cells Z 25))) := ⟨HR0.out, by
      rw [part_zero, ← HZ.out]
      have h := heap_alloc_new (w.alloc (.cells Z 25)) (.cells Z 25)
      rw [World.size_alloc] at h
      exact h, HB0.out⟩
    have HF : Aside0 (Tryd.prog.built 25 [] = some Z) := ⟨by rw [HZ.out]; kernel_rfl⟩
    go_enter Tryd.func16, Tryd.ntmps16
    go_wp2_with (fail)
    rw [HZL.out]
    generalize (w.alloc (.cells Z 25)).alloc (.cells Z 25) = w1 at *
    clear HR0 HB0
    go_loopw [13] (fun v13 wr => ∃ i : Nat, i ≤ 64 ∧ v13 = .int .i64 (i : Int) ∧ Aside0 (∀ j, j < i → 0 ≤ nib (s.data.toList.getD j 0)) ∧ Aside0 (UW w Z (part s.data.toList i) wr)) (fun v13 _ => 64 - (intOf v13).toNat)
    case atStart => exact ⟨0, Nat.zero_le _, rfl, ⟨fun j h => absurd h (Nat.not_lt_zero _)⟩, HW0⟩
    case round =>
      clear HW0
      obtain ⟨i, hi, rfl, HN, HW⟩ := hrel
      by_cases hlt : i < 64
      · have hltI : (i : Int) < 64 := by omega
        have hsi : i < s.size := by omega
        have HG : Aside0 (s.data.toList.getD i 0 = s[i]) := ⟨by
          rw [List.getD_eq_getElem?_getD, List.getElem?_eq_getElem (by omega)]
          rfl⟩
        go_wp2_with (fail)
        obtain ⟨c, hcd⟩ : ∃ c : UInt8, s[i] = c := ⟨_, rfl⟩
        rw [hcd] at HG ⊢
        clear hcd
        refine (nib_calls c wr).mono ?_
        rintro e w2 ⟨rfl, rfl⟩
        obtain ⟨n, hn⟩ : ∃ n, n = nib c := ⟨_, rfl⟩
        rw [← hn]
        have hr := nib_range c
        rw [← hn] at hr
        have HNc : Aside0 (nib (s.data.toList.getD i 0) = n) := ⟨by rw [HG.out, hn]⟩
        clear hn HG
        by_cases hneg : n < 0
        · have HE : Aside0 (UnhexEnd s.data.toList = .returned (.tuple #[.agg Z, .int .i64 11])) := ⟨by
            unfold UnhexEnd
            rw [not_dig _ i (by omega) (by rw [HNc.out]; exact hneg), HZ.out]⟩
          have HWa : Aside0 (w2.heap[w.heap.size]? = some (.cells Z 25 (0, 0))) := ⟨HW.out.1⟩
          have hnD : decide (n < 0) = true := by simpa using hneg
          go_wp2_with (first
            | (refine wpList_buildTo rfl 25 _ rfl (some 22) rfl Z HF.out ?_; simp only [Act.put, List.setIfInBounds_toArray, List.set_cons_zero, List.set_cons_succ])
            | (rw [HZL.out]; with_reducible refine wpList_store_row rfl 25 (.tmp 2) (.tmp 22) rfl w.heap.size Z rfl rfl 25 _ HWa.out HZ1.out rfl HZ3.out ?_))
          exact bodyPost_ret (results_cell_tmp Tryd.results16 _ _ w.heap.size 25 Z (0, 0) _ rfl (setRow_heap _ _ _ _ _ _ HWa.out) Tryd.underlying25 rfl HZ1.out) rfl ⟨by rw [HE.out]; rfl, below_setRow HW.out.2.2 (Nat.le_refl _) _⟩
        · obtain ⟨k, hk⟩ : ∃ k, k = i / 2 := ⟨_, rfl⟩
          have hnD : decide (n < 0) = false := by simpa using hneg
          have b1 : (i : Int) / 2 = (k : Int) := by omega
          have b2 : Int.tdiv (i : Int) 2 = (k : Int) := by rw [Int.tdiv_eq_ediv_of_nonneg (by omega)]; exact b1
          have b3 : (k : Int) < 32 := by omega
          have b4 : k < 32 := by omega
          have hsm := part_small s.data.toList i hlt HN.out
          have HSt := Aside0.mk (part_step s.data.toList i hlt)
          rw [← hk, HNc.out] at HSt
          rw [← hk] at hsm
          have h1 : w2.cell? ⟨w.heap.size + 1, k, none⟩ = some (.int .u8 ((part s.data.toList i).getD k 0)) := (blk_cell HW.out.2.1 k).trans (dA_get _ k (by rw [part_length]; exact b4))
          have f1 : w2.frozen? ⟨w.heap.size + 1, k, none⟩ = false := blk_frozen HW.out.2.1 k
          generalize (part s.data.toList i).getD k 0 = x at *
          obtain ⟨j1, j2, j3⟩ := join4 x n hsm.1 hsm.2 (by omega) hr.2
          have HN2 : Aside0 (∀ j, j < i + 1 → 0 ≤ nib (s.data.toList.getD j 0)) := ⟨fun j hj => by
            by_cases h : j = i
            · subst h
              rw [HNc.out]
              omega
            · exact HN.out j (by omega)⟩
          clear hk
          go_wp2
          go_roundw
          case measure => simp [intOf]; omega
          case rel => exact ⟨i + 1, by omega, by go_num, HN2, ⟨by rw [← HSt.out]; exact HW.out.set k _⟩⟩
      · obtain rfl : i = 64 := by omega
        have HE : Aside0 (UnhexEnd s.data.toList = .returned (.tuple #[.agg (dA (pairs s.data.toList)), .int .i64 0])) := ⟨by
          unfold UnhexEnd
          rw [unhex_some _ hl64 HN.out]⟩
        obtain ⟨d, hd⟩ : ∃ d, d = pairs s.data.toList := ⟨_, rfl⟩
        have HWb : Aside0 (wr.heap[w.heap.size + 1]? = some (.cells (dA d) 25 (0, 0))) := ⟨by rw [hd, ← part_end _ hl64]; exact HW.out.2.1⟩
        have HWa : Aside0 (wr.heap[w.heap.size]? = some (.cells Z 25 (0, 0))) := ⟨HW.out.1⟩
        have HDl : Aside0 (d.length = 32) := ⟨by rw [hd]; exact pairs_length 32 _ hl64⟩
        rw [← hd] at HE
        clear hd
        have HI1 := Aside0.mk (dig_info HDl.out)
        have HI2 : Aside0 (Z.size = (dA d).size) := ⟨by rw [HZ.out, dA_size, dA_size, HDl.out]; rfl⟩
        have HI3 := Aside0.mk (dA_one d)
        go_wp2_with (first
          | (with_reducible refine wpList_load_row rfl 25 (.tmp 4) rfl (w.heap.size + 1) rfl 25 (dA d) (0, 0) _ HWb.out Tryd.underlying25 rfl HI1.out ?_)
          | (with_reducible refine wpList_store_row rfl 25 (.tmp 2) (.tmp 35) rfl w.heap.size (dA d) rfl rfl 25 Z HWa.out HI1.out HI2.out HI3.out ?_))
        exact bodyPost_ret (results_cell_tmp Tryd.results16 _ _ w.heap.size 25 (dA d) (0, 0) _ rfl (setRow_heap _ _ _ _ _ _ HWa.out) Tryd.underlying25 rfl HI1.out) rfl ⟨by rw [HE.out]; rfl, below_setRow HW.out.2.2 (Nat.le_refl _) _⟩
  · have h6D : ((s.size : Int) != 64) = true := by simp only [bne_iff_ne, ne_eq]; omega
    have h6E : (s.size == 64) = false := by rw [beq_eq_false_iff_ne]; exact h64
    have HE : Aside0 (UnhexEnd s.data.toList = .returned (.tuple #[.agg Z, .int .i64 11])) := ⟨by
      unfold UnhexEnd
      rw [unhex_len _ (by rw [Array.length_toList]; exact h64), HZ.out]⟩
    have HF : Aside0 (Tryd.prog.built 25 [] = some Z) := ⟨by rw [HZ.out]; kernel_rfl⟩
    go_enter Tryd.func16, Tryd.ntmps16
    go_wp2_with (first
      | (refine wpList_buildTo rfl 25 _ rfl (some 10) rfl Z HF.out ?_; simp only [Act.put, List.setIfInBounds_toArray, List.set_cons_zero, List.set_cons_succ])
      | (rw [HZL.out]; with_reducible refine wpList_store_row rfl 25 (.tmp 2) (.tmp 10) rfl w.heap.size Z rfl rfl 25 _ HR0.out HZ1.out rfl HZ3.out ?_))
    exact bodyPost_ret (results_cell_tmp Tryd.results16 _ _ w.heap.size 25 Z (0, 0) _ rfl (setRow_heap _ _ _ _ _ _ HR0.out) Tryd.underlying25 rfl HZ1.out) rfl ⟨by rw [HE.out]; rfl, below_setRow HB0.out (Nat.le_refl _) _⟩
end Go.Proofs.YtlgljlgbnjjieaaDoor.Hex
