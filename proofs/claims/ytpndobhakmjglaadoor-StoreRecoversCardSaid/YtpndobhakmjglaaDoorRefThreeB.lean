/- The reference's three: a number turned by three, xor-ed; its constants. -/
import Derived.Test.YtpndobhakmjglaaDoorRefPureB
import Derived.Test.YtpndobhakmjglaaDoorBunS4
import Derived.Great.BuildSlice
import Derived.Deep.WholeRow
namespace Go.Proofs.YtpndobhakmjglaaDoor.Sha
open Go.RowKit Go.Proofs.YtpndobhakmjglaaDoorW.PrintWords Go.Proofs.YtpndobhakmjglaaDoorW.PrintLast Go.Proofs.YtpndobhakmjglaaDoorW.PrintMore Go.Proofs.YtpndobhakmjglaaDoor.K Go.Proofs.YtpndobhakmjglaaDoor.PRefCut
set_option linter.unusedVariables false
theorem turned_q (x : W32) (k : Int) (w : World) (n : Nat) (h1 : 2 ≤ k) (h2 : k < 32) :
    Calls Tryd.prog 47 #[.int .i64 (wi x), .int .i64 k] (w.drewN n) fun e w' => e = .returned (.int .i64 (wi (rotr x k.toNat))) ∧ ∃ m, w' = w.drewN m := by
  obtain ⟨j, rfl⟩ := Int.eq_ofNat_of_zero_le (show 0 ≤ k by omega)
  refine (cupelref01_turned.calls (wi x) (j : Int) _ _ (turned_f x j (by omega) (by omega))).mono ?_
  rintro e w' ⟨he, m, hm⟩
  exact ⟨he, n + m, by rw [hm, World.drewN_drewN]⟩
theorem turned_p (x : W32) (k : Int) (w : World) (h1 : 2 ≤ k) (h2 : k < 32) :
    Calls Tryd.prog 47 #[.int .i64 (wi x), .int .i64 k] w fun e w' => e = .returned (.int .i64 (wi (rotr x k.toNat))) ∧ Drawn0 w w' := by
  obtain ⟨j, rfl⟩ := Int.eq_ofNat_of_zero_le (show 0 ≤ k by omega)
  exact cupelref01_turned.calls (wi x) (j : Int) _ _ (turned_f x j (by omega) (by omega))
def threeV (x : W32) (k0 k1 k2 : Nat) (down : Bool) : W32 := rotr x k0 ^^^ rotr x k1 ^^^ if down then x >>> k2 else rotr x k2
set_option maxHeartbeats 1000000 in
theorem three_calls (x : W32) (k0 k1 k2 : Nat) (down : Bool) (w : World) (h0 : 2 ≤ k0 ∧ k0 < 32) (h1 : 2 ≤ k1 ∧ k1 < 32) (h2 : 2 ≤ k2 ∧ k2 < 32) :
    Calls Tryd.prog 44 #[.int .i64 (wi x), .agg #[.int .i64 (k0 : Int), .int .i64 (k1 : Int), .int .i64 (k2 : Int)], .bool down] w fun e w' => e = .returned (.int .i64 (wi (threeV x k0 k1 k2 down))) ∧ Below w.heap.size w w' := by
  obtain ⟨a0, b0⟩ := h0
  obtain ⟨a1, b1⟩ := h1
  obtain ⟨a2, b2⟩ := h2
  have c0 : (2 : Int) ≤ k0 := by omega
  have c1 : (2 : Int) ≤ k1 := by omega
  have c2 : (2 : Int) ≤ k2 := by omega
  have d0 : (k0 : Int) < 32 := by omega
  have d1 : (k1 : Int) < 32 := by omega
  have d2 : (k2 : Int) < 32 := by omega
  have hsh : wi x / 2 ^ k2 = wi (x >>> k2) := u32_shr x k2
  have hk : min k2 IntKind.i64.bits = k2 := Nat.min_eq_left (by show k2 ≤ 64; omega)
  have HB : Aside0 (Below w.heap.size w (w.alloc (.cells #[.int .i64 (k0 : Int), .int .i64 (k1 : Int), .int .i64 (k2 : Int)] 82))) := ⟨bel_alloc (Below.refl _ _) _⟩
  have HT : Aside0 (∀ d, threeV x k0 k1 k2 d = rotr x k0 ^^^ rotr x k1 ^^^ if d then x >>> k2 else rotr x k2) := ⟨fun _ => rfl⟩
  go_enter Tryd.func44, Tryd.ntmps44
  go_wp2_with (fail)
  refine (turned_p x (k2 : Int) _ c2 d2).mono ?_
  rintro e w1 ⟨rfl, hd⟩
  rw [Int.toNat_natCast]
  have HB1 : Aside0 (Below w.heap.size w w1) := ⟨below_step HB.out hd.below⟩
  have g0 : w1.cell? ⟨w.heap.size, 0, none⟩ = some (.int .i64 (k0 : Int)) := by rw [drawn_cell hd, World.cell?, heap_alloc_new]; rfl
  have g1 : w1.cell? ⟨w.heap.size, 1, none⟩ = some (.int .i64 (k1 : Int)) := by rw [drawn_cell hd, World.cell?, heap_alloc_new]; rfl
  have g2 : w1.cell? ⟨w.heap.size, 2, none⟩ = some (.int .i64 (k2 : Int)) := by rw [drawn_cell hd, World.cell?, heap_alloc_new]; rfl
  clear hd
  have ax : ∀ p q : W32, Go.bits .xor .i64 (wi p) (wi q) = wi (p ^^^ q) := i64_xor
  cases down with
  | true =>
    go_wp2
    go_quiet ((go_at_call 47; exact turned_q _ _ _ _ (by assumption) (by assumption)))
    rw [Int.toNat_natCast, Int.toNat_natCast]
    go_wp2
    go_ret
    exact ⟨by rw [HT.out]; rfl, pw_below_drewN HB1.out _⟩
  | false =>
    go_wp2
    go_quiet ((go_at_call 47; exact turned_q _ _ _ _ (by assumption) (by assumption)))
    rw [Int.toNat_natCast, Int.toNat_natCast]
    go_wp2
    go_ret
    exact ⟨by rw [HT.out]; rfl, pw_below_drewN HB1.out _⟩
def nArr (l : List W32) : Array Value := (nums .i64 (l.map wi)).toArray
theorem nArr_one (l : List W32) : (nArr l).all (·.oneCell') = true := by
  rw [Array.all_eq_true_iff_forall_mem]
  intro v hv
  simp only [nArr, nums, List.mem_toArray, List.mem_map] at hv
  obtain ⟨x, _, rfl⟩ := hv
  rfl
theorem nArr_size (l : List W32) : (nArr l).size = l.length := by simp [nArr, nums]
theorem z64_lit : (#[.int .i64 0, .int .i64 0, .int .i64 0, .int .i64 0, .int .i64 0, .int .i64 0, .int .i64 0, .int .i64 0, .int .i64 0, .int .i64 0, .int .i64 0, .int .i64 0, .int .i64 0, .int .i64 0, .int .i64 0, .int .i64 0, .int .i64 0, .int .i64 0, .int .i64 0, .int .i64 0, .int .i64 0, .int .i64 0, .int .i64 0, .int .i64 0, .int .i64 0, .int .i64 0, .int .i64 0, .int .i64 0, .int .i64 0, .int .i64 0, .int .i64 0, .int .i64 0, .int .i64 0, .int .i64 0, .int .i64 0, .int .i64 0, .int .i64 0, .int .i64 0, .int .i64 0, .int .i64 0, .int .i64 0, .int .i64 0, .int .i64 0, .int .i64 0, .int .i64 0, .int .i64 0, .int .i64 0, .int .i64 0, .int .i64 0, .int .i64 0, .int .i64 0, .int .i64 0, .int .i64 0, .int .i64 0, .int .i64 0, .int .i64 0, .int .i64 0, .int .i64 0, .int .i64 0, .int .i64 0, .int .i64 0, .int .i64 0, .int .i64 0, .int .i64 0] : Array Value) = nArr (List.replicate 64 0) := by kernel_rfl
theorem kA_info : (Tryd.prog.info? 80).map (·.size) = some (nArr kL).size := by rw [nArr_size]; kernel_rfl
set_option maxRecDepth 100000 in
set_option maxHeartbeats 1000000 in
theorem constants_calls (w : World) :
    Calls Tryd.prog 45 #[] w fun e w' => e = .returned (.agg (nArr kL)) ∧ Below w.heap.size w w' := by
  have HK1 := Aside0.mk kA_info
  have HK2 := Aside0.mk (nArr_one kL)
  have HK3 : Aside0 ((nArr (List.replicate 64 0)).size = (nArr kL).size) := ⟨by rw [nArr_size, nArr_size]; rfl⟩
  go_enter Tryd.func45, Tryd.ntmps45
  go_wp2_with (first
    | (refine wpList_buildTo rfl 80 _ rfl (some 1) rfl (nArr kL) (by kernel_rfl) ?_; simp only [Act.put, List.setIfInBounds_toArray, List.set_cons_zero, List.set_cons_succ])
    | (rw [z64_lit]; with_reducible refine wpList_store_rowTo rfl 80 (.tmp 0) (.tmp 1) rfl rfl w.heap.size (nArr kL) rfl rfl 80 (nArr (List.replicate 64 0)) (heap_alloc_new _ _) HK1.out HK3.out HK2.out ?_; rw [World.setRow_alloc_new]; have HB : Aside0 (Below w.heap.size w (w.alloc (.cells (nArr kL) 80))) := ⟨bel_alloc (Below.refl _ _) _⟩; have HR : Aside0 ((w.alloc (.cells (nArr kL) 80)).heap[w.heap.size]? = some (.cells (nArr kL) 80 (0, 0))) := ⟨heap_alloc_new _ _⟩; generalize w.alloc (.cells (nArr kL) 80) = w1 at *))
  exact bodyPost_ret (results_cell_row Tryd.results45 _ _ w.heap.size 80 (nArr kL) (0, 0) _ rfl HR.out Tryd.underlying80 rfl HK1.out) rfl ⟨rfl, HB.out⟩
end Go.Proofs.YtpndobhakmjglaaDoor.Sha
