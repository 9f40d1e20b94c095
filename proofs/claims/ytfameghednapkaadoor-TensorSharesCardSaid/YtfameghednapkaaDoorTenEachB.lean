/- tensor: each: what is told of so many places, up to the first error. -/
import Derived.Test.YtfameghednapkaaDoorBunT3
namespace Go.Proofs.YtfameghednapkaaDoor.Ten
open Go.RowKit Go.Proofs.YtfameghednapkaaDoorW.PrintWords Go.Proofs.YtfameghednapkaaDoorW.PrintLast Go.Proofs.YtfameghednapkaaDoorW.PrintMore Go.Proofs.YtfameghednapkaaDoor.K Go.Proofs.YtfameghednapkaaDoor.Fixed
set_option linter.unusedVariables false
set_option linter.unusedSimpArgs false
def errF (f : Nat → Int × Int) : Nat → Nat → Int
  | 0, _ => 0
  | m + 1, k => if (f k).2 = 0 then errF f m (k + 1) else (f k).2
def outL (f : Nat → Int × Int) (n : Nat) : List Int := (List.range n).map fun k => (f k).1
theorem outL_length (f : Nat → Int × Int) (n : Nat) : (outL f n).length = n := by simp [outL]
theorem outL_succ (f : Nat → Int × Int) (n : Nat) : outL f (n + 1) = outL f n ++ [(f n).1] := by simp [outL, List.range_succ]
def TellsAt (fid : Nat) (fa lb : Array Value) (f : Nat → Int × Int) (n : Nat) (w : World) : Prop := ∀ k, k < n → ∀ W, Below w.heap.size w W → Calls Tryd.prog fid (fa ++ #[.int .i64 (k : Int)] ++ lb) W fun e W' => e = .returned (.tuple #[.int .i64 (f k).1, .int .i64 (f k).2]) ∧ Below W.heap.size W W'
def EachEnd (f : Nat → Int × Int) (n : Nat) (w : World) (e : Ending) (w' : World) : Prop :=
  (errF f n 0 ≠ 0 → e = .returned (.tuple #[.slice none 0 0, .int .i64 (errF f n 0)])) ∧ (errF f n 0 = 0 → ∃ v, e = .returned (.tuple #[v, .int .i64 0]) ∧ Kd.R (Kd.int .i64) 3 w' w.heap.size (fun _ => True) v (outL f n)) ∧ Below w.heap.size w w'
set_option maxHeartbeats 4000000 in
set_option maxRecDepth 100000 in
theorem each_calls (fid : Nat) (fa lb : Array Value) (f : Nat → Int × Int) (n : Nat) (w : World) (hn : n ≤ 1000000) (eg : ∀ args w, (callFunc fid args).run Tryd.prog w = .ok (.enter fid args) w) (ht : TellsAt fid fa lb f n w) :
    Calls Tryd.prog 48 #[.int .i64 (n : Int), .func (.func fid) fa lb] w (EachEnd f n w) := by
  have HT := Aside0.mk ht
  have HN := Aside0.mk hn
  clear ht hn
  go_enter Tryd.func48, Tryd.ntmps48
  go_wp2_with (fail)
  go_step3
  go_wp2
  go_step3
  go_wp2_with (fail)
  have HSm : Aside0 (∀ k, k < n → errF f (n - k) k = if (f k).2 = 0 then errF f (n - (k + 1)) (k + 1) else (f k).2) := ⟨fun k hk => by
    rw [show n - k = (n - (k + 1)) + 1 by omega]
    rfl⟩
  go_loopw [6, 7, 12] (fun o z i wr => ∃ k : Nat, k ≤ n ∧ i = .int .i64 (k : Int) ∧ z = .int .i64 0 ∧ Aside0 (errF f n 0 = errF f (n - k) k ∧ wr.ownsRow w.heap.size 3 1 o (outL f k).length (nums .i64 (outL f k)) ∧ Below w.heap.size w wr)) (fun _ _ i _ => n - (intOf i).toNat)
  case atStart => exact ⟨0, Nat.zero_le _, rfl, rfl, ⟨rfl, own_nil _ _ _ _, Below.refl _ _⟩⟩
  case round =>
    obtain ⟨k, hk, rfl, rfl, HO⟩ := hrel
    by_cases hlt : k < n
    · have HE := Aside0.mk (HT.out k hlt wr HO.out.2.2)
      have HS := Aside0.mk (HSm.out k hlt)
      have HX := Aside0.mk (outL_succ f k)
      have HLen := Aside0.mk (outL_length f k)
      have HF : ∃ p, p = f k := ⟨_, rfl⟩
      obtain ⟨p, hp⟩ := HF
      rw [← hp] at HE HS HX
      clear hp
      obtain ⟨x, z⟩ := p
      obtain ⟨A3, c3, rfl⟩ := own_slice HO.out.2.1
      generalize outL f k = es at *
      go_wp2_with (fail)
      refine HE.out.mono ?_
      rintro e w1 ⟨rfl, hb⟩
      have HB1 := Aside0.mk (below_step HO.out.2.2 hb)
      have HO1 : Aside0 (w1.ownsRow w.heap.size 3 1 (.slice A3 es.length c3) es.length (nums .i64 es)) := ⟨own_int (Kd.R_below (R_int HO.out.2.1) hb)⟩
      clear hb
      have hwk : IntKind.i64.wrap ((k : Int) + 1) = (k : Int) + 1 := by have := HN.out; rw [IntKind.wrap_i64]; omega
      by_cases hz : z = 0
      · subst hz
        have HE2 : Aside0 (errF f n 0 = errF f (n - (k + 1)) (k + 1)) := ⟨by rw [HO.out.1, HS.out, if_pos rfl]⟩
        go_wp2_with (at_builtin; refine print_append_num (w0 := w) w.heap.size rfl (.tmp 24) (.tmp 26) 22 3 .i64 8 rfl Tryd.underlying22 info_int (by decide) _ es _ rfl rfl HO1.out HB1.out HB1.out.size ?_ ?_; rotate_left; intro v1 w2 hown hbw hgr hat; have HA := Aside0.mk (And.intro hown hbw); clear hown hbw hgr hat)
        · go_roundw
          case rel => exact ⟨k + 1, by omega, by go_num, rfl, ⟨HE2.out, by rw [HX.out]; exact HA.out.1, HA.out.2⟩⟩
          case measure => simp [intOf]; omega
        · have := HLen.out
          have := HN.out
          omega
      · have hzd : (z != 0) = true := by simpa using hz
        have HE2 : Aside0 (errF f n 0 = z) := ⟨by rw [HO.out.1, HS.out, if_neg hz]⟩
        have HZ := Aside0.mk hz
        clear hz
        go_wp2
        rw [Exit.noGoto_ret]
        go_ret2
        exact ⟨fun _ => by rw [HE2.out]; rfl, fun h => absurd (HE2.out.symm.trans h) HZ.out, HB1.out⟩
    · obtain rfl : k = n := by omega
      have HE2 : Aside0 (errF f k 0 = 0) := ⟨by rw [HO.out.1, Nat.sub_self]; rfl⟩
      go_wp2
      rw [Exit.noGoto_ret]
      go_ret2
      exact ⟨fun h => absurd HE2.out h, fun _ => ⟨_, rfl, R_int HO.out.2.1⟩, HO.out.2.2⟩
end Go.Proofs.YtfameghednapkaaDoor.Ten
