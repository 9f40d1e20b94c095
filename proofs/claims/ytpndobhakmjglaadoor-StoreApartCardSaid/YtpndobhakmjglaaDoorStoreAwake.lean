/- store: the law's example. -/
import Derived.Test.YtpndobhakmjglaaDoorStoreRec
import Derived.Test.YtpndobhakmjglaaDoorStoreGet
import Derived.Test.YtpndobhakmjglaaDoorStorePl
namespace Go.Proofs.YtpndobhakmjglaaDoor.Store
open Go.RowKit Go.Proofs.YtpndobhakmjglaaDoorW.PrintWords Go.Proofs.YtpndobhakmjglaaDoorW.PrintLast Go.Proofs.YtpndobhakmjglaaDoorW.PrintMore Go.Proofs.YtpndobhakmjglaaDoor.K Go.Proofs.YtpndobhakmjglaaDoor.Sha
set_option linter.unusedVariables false
set_option linter.unusedSimpArgs false
theorem lit_C {W : World} {g t : Nat} {fr : Nat × Nat} (xs : List Int) (h : W.heap[g]? = some (.cells (nums .u8 xs).toArray t fr)) (hm : xs.length ≤ 9223372036854775807) : Kd.C (Kd.int .u8) W (some ⟨g, 0, none⟩) xs.length xs := by
  refine C_int ⟨rfl, hm, fun _ => ⟨_, rfl, fun j hj => ?_⟩⟩
  rw [add_plain, World.cell?, h]
  simp [nums, List.getElem?_eq_getElem hj, List.getD_eq_getElem?_getD]
theorem Touch.old {w : World} {B g : Nat} {vl vm vb : Value} {rs : List (List Int)} {mk bs : List Int} (h : StAt w B g vl vm vb rs mk bs) : ∀ k, Touch g vl vb k → B ≤ k ∧ k < w.heap.size := by
  rintro k (rfl | e | e)
  · exact ⟨h.1, blk_lt h.2.1⟩
  · exact ⟨((Kd.R_bound h.2.2.1).1 k e).2.1, ((Kd.R_bound h.2.2.1).1 k e).2.2.1⟩
  · exact ⟨((Kd.R_bound h.2.2.2.2).1 k e).2.1, ((Kd.R_bound h.2.2.2.2).1 k e).2.2.1⟩
/-- Append of what was just laid. -/
theorem append_lit {w : World} {B g : Nat} {vl vm vb : Value} {rs : List (List Int)} {mk bs : List Int} (r : List Int) (t c : Nat) (fr : Nat × Nat) (h : StAt w B g vl vm vb rs mk bs) (hB : B ≤ w.heap.size) (hc : r.length ≤ c) (hby : ∀ x ∈ r, 0 ≤ x ∧ x < 256) (hmb : ∀ x ∈ mk, 0 ≤ x ∧ x < 256) (hml : mk.length ≤ 16) (hn : r.length ≤ 1048576) (hrs : rs.length ≤ 1000000) (hbs : bs.length ≤ 100000000)
    (hLf : LaidAt w 0 firstA) (hL : LaidAt w 1 constA) :
    Calls Tryd.prog 21 #[.pointer (some ⟨g, 0, none⟩), .slice (some ⟨w.heap.size, 0, none⟩) r.length c] (w.alloc (.cells (nums .u8 r).toArray t fr)) fun e w' => e = .returned (.int .i64 0) ∧ (∃ v1 m1 b1, StAt w' B g v1 m1 b1 (rs ++ [r]) (sealV mk r) (bs ++ joinL [r, sealV mk r])) ∧ Below B w w' := by
  have hb := bel_alloc (Below.refl w.heap.size w) (.cells (nums .u8 r).toArray t fr)
  have hs := h.below hb
  refine (append_calls (some ⟨w.heap.size, 0, none⟩) r.length c r hs (by have := hb.size; omega) (fun W hk => lit_C r (blk_kept (heap_alloc_new _ _) hk (fun ht => by have := (Touch.old h _ ht).2; omega)) (by omega)) hc hby hmb hml hn hrs hbs (hLf.below hb) (hL.below hb)).mono ?_
  rintro e w' ⟨he, hS, hB2, _⟩
  exact ⟨he, hS, (Below.mono hb hB).trans hB2⟩
theorem rec_n (A : Option Addr) (n c : Nat) (b0 : List Int) (w : World) (hr0 : Kd.C (Kd.int .u8) w A n b0) (hc : n ≤ c) (hb : ∀ x ∈ b0, 0 ≤ x ∧ x < 256) (hlim : n ≤ 100000)
    (hLf : LaidAt w 0 firstA) (hL : LaidAt w 1 constA) :
    Calls Tryd.prog 10 #[.slice A n c] w (RecEnd w b0) := by
  obtain rfl := hr0.1
  exact rec_calls A c b0 w hr0 hc hb hlim hLf hL
theorem storeB_byte : ∀ (l : List (List Int)) (a : List Int), (∀ r ∈ l, ∀ x ∈ r, 0 ≤ x ∧ x < 256) → ∀ x ∈ storeB a l, 0 ≤ x ∧ x < 256
  | [], a, _ => fun x hx => absurd hx (by simp [storeB])
  | r :: l, a, h => fun x hx => by
    rw [storeB, List.mem_append] at hx
    rcases hx with hx | hx
    · exact joinTwo_byte (h r (List.mem_cons_self ..)) (sealV_byte _ _) x hx
    · exact storeB_byte l _ (fun r2 h2 => h r2 (List.mem_cons_of_mem _ h2)) x hx
theorem storeB_one (a r : List Int) : (storeB a [r]).length = r.length + 24 := by
  rw [storeB, List.length_append, joinTwo_eq_len _ _ (sealV_len _ _)]; rfl
theorem storeB_two (a r s : List Int) : (storeB a [r, s]).length = r.length + s.length + 48 := by
  rw [storeB, List.length_append, joinTwo_eq_len _ _ (sealV_len _ _), storeB_one]; omega
theorem rec_ex : (recV [] ((storeB [] [[97], [98]]).take 49)).1 = [[97]] ∧ (recV [] ((storeB [] [[97], [98]]).take 49)).2.length = 24 := by
  have h := recV_cut [[97], [98]] [] 1 49 (by decide) (by decide) (by rw [show List.take 1 [[97], [98]] = [[(97 : Int)]] from rfl, storeB_one]; decide) (fun _ => by rw [show List.take (1 + 1) [[97], [98]] = [[(97 : Int)], [98]] from rfl, storeB_two]; decide) (fun h => by cases h)
  rw [h]
  refine ⟨rfl, ?_⟩
  rw [List.length_drop, List.length_take, storeB_two, show List.take 1 [[97], [98]] = [[(97 : Int)]] from rfl, storeB_one]
  rfl
theorem run_upto8 (A : Option Addr) (n c m : Nat) (hm : m ≤ n) (hc : n ≤ c) (W : World) : (Instr.slice 22 (.slice A n c) none (some (.int .i64 (m : Int))) none).run Tryd.prog W = .ok (.slice A m c) W :=
  run_upto 22 5 Tryd.underlying22 info_u8 A n c m hm hc W
set_option maxHeartbeats 4000000 in
set_option maxRecDepth 100000 in
theorem awake_calls (w : World) (hLf : LaidAt w 0 firstA) (hL : LaidAt w 1 constA) :
    Calls Tryd.prog 9 #[] w fun e w' => e = .returned (.bool true) ∧ Below w.heap.size w w' := by
  have kc := fun (w : World) (C : Array Value) (n c : Nat) => Lib.run_convert_bytes_const (P := Tryd.prog) w 22 5 C n c Tryd.underlying22 Tryd.underlying5
  have HLf := Aside0.mk hLf
  have HL := Aside0.mk hL
  clear hLf hL
  go_enter Tryd.func9, Tryd.ntmps9
  go_wp2_with (fail)
  refine (new_calls w).mono ?_
  rintro e w1 ⟨g, rfl, hS, hb⟩
  have HS := Aside0.mk hS
  have HB := Aside0.mk hb
  clear hS hb
  go_wp2_with (fail)
  refine (append_lit [97] _ 1 _ HS.out HB.out.size (by decide) (by decide) (by simp) (by decide) (by decide) (by decide) (by decide) (HLf.out.below HB.out) (HL.out.below HB.out)).mono ?_
  rintro e w2 ⟨rfl, ⟨vl2, vm2, vb2, hS⟩, hb⟩
  have HS2 := Aside0.mk hS
  have HB2 : Aside0 (Below w.heap.size w w2) := ⟨HB.out.trans hb⟩
  clear hS hb
  go_wp2_with (fail)
  refine (append_lit [98] _ 1 _ HS2.out HB2.out.size (by decide) (by decide) (sealV_byte _ _) (by rw [sealV_len]; decide) (by decide) (by decide) (by rw [List.nil_append, joinTwo_eq_len _ _ (sealV_len _ _)]; decide) (HLf.out.below HB2.out) (HL.out.below HB2.out)).mono ?_
  rintro e w3 ⟨rfl, ⟨vl3, vm3, vb3, hS⟩, hb⟩
  have HB3 : Aside0 (Below w.heap.size w w3) := ⟨HB2.out.trans hb⟩
  have HE : Aside0 (([] : List Int) ++ joinL [[97], sealV [] [97]] ++ joinL [[98], sealV (sealV [] [97]) [98]] = storeB [] [[97], [98]]) := ⟨by simp [storeB]⟩
  rw [HE.out] at hS
  have HS3 := Aside0.mk hS
  clear hS hb
  have hlen := storeB_two [] [97] [98]
  have HEx := Aside0.mk rec_ex
  have HBy : Aside0 (∀ x ∈ storeB [] [[97], [98]], 0 ≤ x ∧ x < 256) := ⟨storeB_byte _ _ (by decide)⟩
  generalize storeB [] [[97], [98]] = bs at *
  have hlen : bs.length = 50 := hlen
  go_wp2_with (fail)
  refine (bytes_calls HS3.out (by omega)).mono ?_
  rintro e w4 ⟨v, rfl, hR, hb⟩
  obtain ⟨Ab, cb, rfl⟩ := Kd.R_slice hR
  have HR := Aside0.mk (Kd.R_reads' hR)
  have HB4 := Aside0.mk (below_step HB3.out hb)
  rw [hlen]
  have hcut : ∀ W, (Instr.slice 22 (.slice Ab 50 cb) none (some (.int .i64 49)) none).run Tryd.prog W = .ok (.slice Ab 49 cb) W := fun W => run_upto8 Ab 50 cb 49 (by decide) (by have := HR.out.2.1; omega) W
  have HT : Aside0 (Kd.C (Kd.int .u8) w4 Ab 49 (bs.take 49)) := ⟨take_int 49 (by omega) HR.out.2.2⟩
  have HCb : Aside0 (49 ≤ cb) := ⟨by have := HR.out.2.1; omega⟩
  clear hR hb hlen
  go_wp2_with (fail)
  refine (rec_n Ab 49 cb (bs.take 49) w4 HT.out HCb.out (fun x hx => HBy.out x (List.mem_of_mem_take hx)) (by decide) (HLf.out.below HB4.out) (HL.out.below HB4.out)).mono ?_
  rintro e w5 ⟨g2, vl5, vm5, vb5, rfl, hS, hb⟩
  have HB5 := Aside0.mk (below_step HB4.out hb)
  rw [HEx.out.1] at hS
  rw [HEx.out.2]
  have HS5 := Aside0.mk hS
  clear hS hb
  go_wp2_with (fail)
  refine (get_some 0 HS5.out (by decide) (by decide)).mono ?_
  rintro e w6 ⟨v6, rfl, hR, hb⟩
  obtain ⟨A6, c6, rfl⟩ := Kd.R_slice hR
  have HR6 := Aside0.mk (Kd.R_reads' hR).2.2
  have HB6 := Aside0.mk (below_step HB5.out hb)
  have HLn := Aside0.mk (len_calls (HS5.out.below hb))
  clear hR hb
  go_wp2_with (fail)
  refine HLn.out.mono ?_
  rintro e w7 ⟨rfl, rfl⟩
  have hcv : (convert 22 9 (.slice A6 1 c6)).run Tryd.prog w6 = .ok (.string ⟨#[97]⟩) w6 := by
    have h := Kd.C_string (P := Tryd.prog) (A := A6) (c := c6) Tryd.underlying22 Tryd.underlying5 Tryd.underlying9 HR6.out
    exact h
  go_wp2_with (fail)
  go_ret
  exact ⟨rfl, HB6.out⟩
end Go.Proofs.YtpndobhakmjglaaDoor.Store
