/- A row that may begin inside its block (Q): another row is appended. -/
import Derived.Test.YtpndobhakmjglaaDoorK
namespace Go.Proofs.YtpndobhakmjglaaDoor.K
open Go.RowKit Go.Proofs.YtpndobhakmjglaaDoorW.PrintWords Go.Proofs.YtpndobhakmjglaaDoorW.PrintLast Go.Proofs.YtpndobhakmjglaaDoorW.PrintMore
theorem q_of_Q {k : IntKind} {e : Nat} {w : World} {base : Nat} {ok : Nat → Prop} {v : Value} {xs : List Int} (h : Kd.Q (Kd.int k) e w base ok v xs) : QRow w base e 1 v xs.length (nums k xs) := by
  obtain ⟨_, inner, ho, hr⟩ := h
  have hi : inner = nums k xs := Kd.reps_encs hr
  rw [← hi]
  exact ho
theorem Q_of_q {k : IntKind} {e : Nat} {w : World} {base : Nat} {v : Value} {xs : List Int} (h : QRow w base e 1 v xs.length (nums k xs)) : Kd.Q (Kd.int k) e w base (fun _ => True) v xs :=
  ⟨fun _ _ => trivial, nums k xs, h, Kd.reps_scalar xs⟩
section
variable {P : Program} {ops : Array Oper} {rest : List Oper} {o : Oper} {a : Act} {Q : Exit → Act → World → Prop}
theorem append_q {w0 W : World} (base : Nat) (hgd : o.guard = none) (s x : Operand) (t e : TypeId) (k : IntKind) (bytes : Nat)
    (ho : o.op = .call { callee := .builtin .append, args := #[s, x], argTypes := #[t, t] })
    (ht : P.underlying t = some (.slice e)) (hinfo : (P.info? e).map (fun i => (i.zero, i.size, i.bytes)) = some (some (.int k 0), 1, bytes)) (hb0 : 0 < bytes)
    (v : Value) (xs ys : List Int) (A : Option Addr) (m c : Nat) (hs : a.eval s = v) (hx : a.eval x = .slice A m c)
    (HO : Kd.Q (Kd.int k) e W base (fun _ => True) v xs) (HR : Kd.C (Kd.int k) W A m ys) (HB : Below base w0 W) (hbase : base ≤ W.heap.size) (hl : (xs.length + m) * bytes ≤ 140737488355328)
    (h : ∀ v1 w1, Kd.Q (Kd.int k) e w1 base (fun _ => True) v1 (xs ++ ys) → Below base w0 w1 → W.grownBy w1 v.ownBlock → (v1.ownBlock = v.ownBlock ∨ ∃ b, v1.ownBlock = some b ∧ W.heap.size ≤ b) → wpList P ops Q rest (a.put o.dst v1) w1) :
    wpList P ops Q (o :: rest) a W := by
  obtain ⟨i0, hi, hzz⟩ := Option.map_eq_some_iff.1 hinfo
  simp only [Prod.mk.injEq] at hzz
  obtain ⟨hz0, hz1, hz2⟩ := hzz
  have HR' := reads_int HR
  have hm : ys.length = m := HR'.1
  have hq := q_of_Q HO
  have hlen : xs.length + m ≤ 140737488355328 := Nat.le_trans (Nat.le_mul_of_pos_right _ hb0) hl
  have hrun : ∃ v1 w1, (Builtin.append_ #[t, t] o.type #[v, .slice A m c]).run P W = .ok v1 w1 ∧ QRow w1 base e 1 v1 (xs ++ ys).length (nums k (xs ++ ys)) ∧ W.grownBy w1 v.ownBlock ∧ (v1.ownBlock = v.ownBlock ∨ ∃ b, v1.ownBlock = some b ∧ W.heap.size ≤ b) := by
    rcases Nat.eq_zero_or_pos m with h0 | h0
    · subst h0
      obtain rfl : ys = [] := List.eq_nil_of_length_eq_zero hm
      obtain ⟨A', c', rfl, hc'⟩ := q_slice hq
      refine ⟨_, W, ?_, by simpa using hq, World.grownBy.refl W _, .inl rfl⟩
      cases A <;> cases A' <;> simp [Builtin.append_, run_underlying ht, sizeOf, typeInfo, hi, Builtin.lenOf, Builtin.firstCells, hc', storeCells, loadCells, loadCellsFrom]
    · obtain ⟨ad, rfl, hc0⟩ := HR'.2.2 h0
      obtain ⟨v1, w1, hr, h2, h3, h4⟩ := q_append (P := P) W base t o.type e i0 (.int k 0) 1 bytes ht hi hz0 hz1 hz2 rfl (by omega) v xs.length (nums k xs) hq ad m c (nums k ys) (by simp [nums, hm])
        (fun j u hu => by
          have hj : j < ys.length := by
            rcases Nat.lt_or_ge j ys.length with h | h
            · exact h
            · simp [nums, List.getElem?_eq_none h] at hu
          have := hc0 j (by omega)
          simp [nums, List.getElem?_eq_getElem hj] at hu
          subst hu
          rw [this]
          simp [List.getD_eq_getElem?_getD, List.getElem?_eq_getElem hj])
        (by intro u hu; simp only [nums, List.mem_map] at hu; obtain ⟨q, _, rfl⟩ := hu; rfl) h0 (by simp only [maxLen]; omega) hl hbase
      exact ⟨v1, w1, hr, by simpa [nums, hm] using h2, h3, h4⟩
  obtain ⟨v1, w1, hr, hown, hg, hat⟩ := hrun
  refine wpList_plain hgd fun K hK => ?_
  unfold Oper.wp execOp
  simp only [ho, resolve, invoke, builtin, Sem.run_bind, Sem.run_pure, Result.andThen_ok, List.map_toArray, List.map_cons, List.map_nil, hs, hx, hr]
  exact hK _ _ (h v1 w1 (Q_of_q hown) (HB.grown hg hbase (fun k hk => (q_typed hq k hk).1)) hg hat)
end
end Go.Proofs.YtpndobhakmjglaaDoor.K
