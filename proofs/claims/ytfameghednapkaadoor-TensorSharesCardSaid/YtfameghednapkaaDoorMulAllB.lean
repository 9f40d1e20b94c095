/- tensor: Mul, whatever becomes of it. -/
import Derived.Test.YtfameghednapkaaDoorRowsPB
namespace Go.Proofs.YtfameghednapkaaDoor.Ten
open Go.RowKit Go.Proofs.YtfameghednapkaaDoorW.PrintWords Go.Proofs.YtfameghednapkaaDoorW.PrintLast Go.Proofs.YtfameghednapkaaDoorW.PrintMore Go.Proofs.YtfameghednapkaaDoor.K Go.Proofs.YtfameghednapkaaDoor.RI Go.Proofs.YtfameghednapkaaDoor.Fixed
set_option linter.unusedVariables false
set_option linter.unusedSimpArgs false
def mulE (rows cols : Int) (l v : List Int) : Int := if mV rows cols l = 0 then (if (v.length : Int) = cols then errF (rowF cols l v) rows.toNat 0 else 13) else mV rows cols l
def mulL (rows cols : Int) (l v : List Int) : List Int := outL (rowF cols l v) rows.toNat
def ListEnd (E : Int) (L : List Int) (w : World) (e : Ending) (w' : World) : Prop :=
  (E ≠ 0 → e = .returned (.tuple #[.slice none 0 0, .int .i64 E])) ∧ (E = 0 → ∃ A c, e = .returned (.tuple #[.slice A L.length c, .int .i64 0]) ∧ Kd.C (Kd.int .i64) w' A L.length L ∧ L.length ≤ c) ∧ Below w.heap.size w w'
theorem own_slice_le {w : World} {B : Nat} {e : TypeId} {v : Value} {L : List Int} {ok : Nat → Prop} (h : Kd.R (Kd.int .i64) e w B ok v L) : ∃ A c, v = .slice A L.length c ∧ Kd.C (Kd.int .i64) w A L.length L ∧ L.length ≤ c := by
  obtain ⟨A, c, rfl, hc, hle⟩ := Kd.R_reads h
  exact ⟨A, c, rfl, hle, hc⟩
theorem mul_calls (rows cols : Int) (A : Option Addr) (c : Nat) (l : List Int) (Av : Option Addr) (cv : Nat) (v : List Int) (w : World) (hC : Kd.C (Kd.int .i64) w A l.length l) (hc : l.length ≤ c) (hV : Kd.C (Kd.int .i64) w Av v.length v) :
    Calls Tryd.prog 25 #[.agg #[.int .i64 rows, .int .i64 cols, .slice A l.length c], .slice Av v.length cv] w (ListEnd (mulE rows cols l v) (mulL rows cols l v) w) := by
  by_cases hm : mV rows cols l = 0
  · by_cases hv : (v.length : Int) = cols
    · refine (mul_ok_calls rows cols A c l Av cv v w hC hc hV hm hv).mono ?_
      rintro e w' ⟨h1, h2, hb⟩
      have hE : mulE rows cols l v = errF (rowF cols l v) rows.toNat 0 := by unfold mulE; rw [if_pos hm, if_pos hv]
      refine ⟨fun h => ?_, fun h => ?_, hb⟩
      · rw [hE] at h ⊢
        exact h1 h
      · rw [hE] at h
        obtain ⟨x, rfl, hr⟩ := h2 h
        obtain ⟨A2, c2, rfl, hC2, hle⟩ := own_slice_le hr
        exact ⟨A2, c2, rfl, hC2, hle⟩
    · have hE : mulE rows cols l v = 13 := by unfold mulE; rw [if_pos hm, if_neg hv]
      refine (mul_size_calls rows cols A c l Av cv v w hC hm hv).mono ?_
      rintro e w' ⟨rfl, hb⟩
      rw [hE]
      exact ⟨fun _ => rfl, fun h => absurd h (by decide), hb⟩
  · have hE : mulE rows cols l v = mV rows cols l := by unfold mulE; rw [if_neg hm]
    refine (mul_bad_calls rows cols A c l Av cv v w hC hm).mono ?_
    rintro e w' ⟨rfl, hb⟩
    rw [hE]
    exact ⟨fun _ => rfl, fun h => absurd h hm, hb⟩
theorem both_mulE {ra rb cols : Int} {la lb v : List Int} (ha : mV ra cols la = 0) (hb : mV rb cols lb = 0) (h : ra + rb ≤ 512) :
    mulE (ra + rb) cols (la ++ lb) v = if mulE ra cols la v = 0 then mulE rb cols lb v else mulE ra cols la v := by
  have hc := m_both ha hb h
  unfold mulE
  rw [if_pos hc, if_pos ha, if_pos hb]
  by_cases hv : (v.length : Int) = cols
  · rw [if_pos hv, if_pos hv, if_pos hv, both_err ha hb]
  · rw [if_neg hv, if_neg hv, if_neg hv, if_neg (by decide)]
theorem both_mulL {ra rb cols : Int} {la lb v : List Int} (ha : mV ra cols la = 0) (hb : mV rb cols lb = 0) : mulL (ra + rb) cols (la ++ lb) v = mulL ra cols la v ++ mulL rb cols lb v := both_out ha hb
theorem mulL_length (rows cols : Int) (l v : List Int) : (mulL rows cols l v).length = rows.toNat := outL_length _ _
theorem zero_mulE {rows cols : Int} {l : List Int} {n : Nat} (hn : (n : Int) = cols) (h : mV rows cols l = 0) : mulE rows cols l (List.replicate n 0) = 0 := by
  unfold mulE
  rw [if_pos h, if_pos (by rw [List.length_replicate]; exact hn), zero_err hn h]
theorem zero_mulL {rows cols : Int} {l : List Int} {n : Nat} (hn : (n : Int) = cols) (h : mV rows cols l = 0) (k : Nat) (hk : k < (mulL rows cols l (List.replicate n 0)).length) : (mulL rows cols l (List.replicate n 0)).getD k 0 = 0 :=
  zero_get hn h k (by rwa [mulL_length] at hk)
theorem made_C (W : World) (m : Nat) (hm : m ≤ 9223372036854775807) : Kd.C (Kd.int .i64) (W.alloc (.cells (madeCells #[.int .i64 0] m) 3)) (some ⟨W.heap.size, 0, none⟩) m (List.replicate m 0) := by
  have h := own_made W W.heap.size 3 .i64 m (Nat.le_refl _) hm
  have e : (List.replicate m (0 : Int)).length = m := List.length_replicate
  have h2 : (W.alloc (.cells (madeCells #[.int .i64 0] m) 3)).ownsRow W.heap.size 3 1 (.slice (some ⟨W.heap.size, 0, none⟩) m m) (List.replicate m (0 : Int)).length (nums .i64 (List.replicate m 0)) := by rw [e]; exact h
  have h3 := own_C h2
  rwa [e] at h3
theorem list_err {E : Int} {L : List Int} {w w' : World} {e : Ending} (h : ListEnd E L w e w') (hE : E ≠ 0) : e = .returned (.tuple #[.slice none 0 0, .int .i64 E]) := h.1 hE
end Go.Proofs.YtfameghednapkaaDoor.Ten
