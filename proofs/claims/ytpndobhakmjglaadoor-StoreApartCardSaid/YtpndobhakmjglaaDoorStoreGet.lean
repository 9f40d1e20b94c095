/- store: Len, Bytes. -/
import Derived.Test.YtpndobhakmjglaaDoorStoreAt
namespace Go.Proofs.YtpndobhakmjglaaDoor.Store
open Go.RowKit Go.Proofs.YtpndobhakmjglaaDoorW.PrintWords Go.Proofs.YtpndobhakmjglaaDoorW.PrintLast Go.Proofs.YtpndobhakmjglaaDoorW.PrintMore Go.Proofs.YtpndobhakmjglaaDoor.K Go.Proofs.YtpndobhakmjglaaDoor.Sha
set_option linter.unusedVariables false
set_option linter.unusedSimpArgs false
section
variable {w : World} {B g : Nat} {vl vm vb : Value} {rs : List (List Int)} {mk bs : List Int}
set_option maxHeartbeats 2000000 in
theorem len_nil (w : World) : Calls Tryd.prog 13 #[.pointer none] w fun e w' => e = .returned (.int .i64 0) ∧ w = w' := by
  go_enter Tryd.func13, Tryd.ntmps13
  go_wp2
  go_ret
  exact ⟨rfl, rfl⟩
set_option maxHeartbeats 2000000 in
theorem len_calls (h : StAt w B g vl vm vb rs mk bs) : Calls Tryd.prog 13 #[.pointer (some ⟨g, 0, none⟩)] w fun e w' => e = .returned (.int .i64 (rs.length : Int)) ∧ w = w' := by
  obtain ⟨Al, cl, hvl⟩ := Kd.R_slice h.2.2.1
  subst hvl
  have h0 := st0 h
  clear h
  go_enter Tryd.func13, Tryd.ntmps13
  go_wp2
  go_ret
  exact ⟨rfl, rfl⟩
set_option maxHeartbeats 2000000 in
theorem bytes_nil (w : World) : Calls Tryd.prog 11 #[.pointer none] w fun e w' => e = .returned (.slice none 0 0) ∧ w = w' := by
  go_enter Tryd.func11, Tryd.ntmps11
  go_wp2
  go_ret
  exact ⟨rfl, rfl⟩
set_option maxHeartbeats 2000000 in
theorem bytes_calls (h : StAt w B g vl vm vb rs mk bs) (hl : bs.length ≤ 100000000) : Calls Tryd.prog 11 #[.pointer (some ⟨g, 0, none⟩)] w fun e w' => ∃ v, e = .returned v ∧ kB.R 5 w' w.heap.size (fun _ => True) v bs ∧ Below w.heap.size w w' := by
  obtain ⟨Ab, cb, hvb⟩ := Kd.R_slice h.2.2.2.2
  subst hvb
  have h2 := st2 h
  have HCl := Aside0.mk (Clone.clone_calls Ab bs.length cb bs w (Kd.R_reads' h.2.2.2.2).2.2 (by omega))
  clear h hl
  go_enter Tryd.func11, Tryd.ntmps11
  go_wp2_with (fail)
  refine HCl.out.mono ?_
  rintro e w1 ⟨v, rfl, hR, hb⟩
  have HR := Aside0.mk hR
  have HB := Aside0.mk hb
  clear hR hb
  go_wp2
  go_ret
  exact ⟨v, rfl, HR.out, HB.out⟩
set_option maxHeartbeats 2000000 in
theorem get_nil (i : Int) (w : World) : Calls Tryd.prog 22 #[.pointer none, .int .i64 i] w fun e w' => e = .returned (.tuple #[.slice none 0 0, .int .i64 2]) ∧ w = w' := by
  go_enter Tryd.func22, Tryd.ntmps22
  go_wp2
  go_ret2
  exact ⟨rfl, rfl⟩
set_option maxHeartbeats 2000000 in
theorem get_none (i : Int) (h : StAt w B g vl vm vb rs mk bs) (hi : i < 0 ∨ (rs.length : Int) ≤ i) : Calls Tryd.prog 22 #[.pointer (some ⟨g, 0, none⟩), .int .i64 i] w fun e w' => e = .returned (.tuple #[.slice none 0 0, .int .i64 10]) ∧ w = w' := by
  have HLn := Aside0.mk (len_calls h)
  by_cases hn : i < 0
  · have hd : decide (i < 0) = true := by simp; omega
    clear h hi hn
    go_enter Tryd.func22, Tryd.ntmps22
    go_wp2
    go_ret2
    exact ⟨rfl, rfl⟩
  · have hd : decide (i < 0) = false := by simp; omega
    have hd2 : decide ((rs.length : Int) ≤ i) = true := by simp; omega
    clear h hi hn
    go_enter Tryd.func22, Tryd.ntmps22
    go_wp2_with (fail)
    refine HLn.out.mono ?_
    rintro e w' ⟨rfl, rfl⟩
    go_wp2
    go_ret2
    exact ⟨rfl, rfl⟩
set_option maxHeartbeats 2000000 in
theorem get_some (i : Nat) (h : StAt w B g vl vm vb rs mk bs) (hi : i < rs.length) (hl : (rs.getD i []).length ≤ 100000000) : Calls Tryd.prog 22 #[.pointer (some ⟨g, 0, none⟩), .int .i64 (i : Int)] w fun e w' => ∃ v, e = .returned (.tuple #[v, .int .i64 0]) ∧ kB.R 5 w' w.heap.size (fun _ => True) v (rs.getD i []) ∧ Below w.heap.size w w' := by
  have HLn := Aside0.mk (len_calls h)
  have h0 := st0 h
  obtain ⟨A, c, rfl, hcap, hC⟩ := Kd.R_reads h.2.2.1
  obtain ⟨ad, A0, c0, rfl, hx1, hcx, hK⟩ := row_at hC i hi
  have HCl := Aside0.mk (Clone.clone_calls A0 (rs.getD i []).length c0 (rs.getD i []) w hK (by omega))
  have hd : decide ((i : Int) < 0) = false := by simp
  have hd2 : decide ((rs.length : Int) ≤ (i : Int)) = false := by simp; omega
  have hiI : (i : Int) < (rs.length : Int) := by omega
  clear hC hK h hl hcap
  generalize rs.getD i [] = tx at *
  go_enter Tryd.func22, Tryd.ntmps22
  go_wp2_with (fail)
  refine HLn.out.mono ?_
  rintro e w' ⟨rfl, rfl⟩
  go_wp2_with (fail)
  refine HCl.out.mono ?_
  rintro e w1 ⟨v, rfl, hR, hb⟩
  have HR := Aside0.mk hR
  have HB := Aside0.mk hb
  clear hR hb
  go_wp2
  go_ret2
  exact ⟨v, rfl, HR.out, HB.out⟩
end
end Go.Proofs.YtpndobhakmjglaaDoor.Store
