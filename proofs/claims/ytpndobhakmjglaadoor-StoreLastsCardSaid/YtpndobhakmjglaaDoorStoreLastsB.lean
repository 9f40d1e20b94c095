/- StoreLasts: the law's walk. -/
import Derived.Test.YtpndobhakmjglaaDoorBunS4
namespace Go.Proofs.YtpndobhakmjglaaDoor.Store
open Go.RowKit Go.Proofs.YtpndobhakmjglaaDoorW.PrintWords Go.Proofs.YtpndobhakmjglaaDoorW.PrintLast Go.Proofs.YtpndobhakmjglaaDoorW.PrintMore Go.Proofs.YtpndobhakmjglaaDoor.K Go.Proofs.YtpndobhakmjglaaDoor.Sha
set_option linter.unusedVariables false
set_option linter.unusedSimpArgs false
theorem info_int8 : (Tryd.prog.info? 3).map (fun i => (i.zero, i.size, i.bytes)) = some (some (.int .i64 0), 1, 8) := by kernel_rfl
abbrev kI : Kd Int := Kd.int .i64
/-- Rows that lie in blocks of other types than the one that grows. -/
theorem R_typ_grown {α : Type} {d : Kd α} {e B : Nat} {row : Option Nat} {W W1 : World} {ok : Nat → Prop} {v : Value} {xs : List α} (hh : d.R e W B ok v xs) (hg : W.grownBy W1 row) (t : Nat) (hrow : ∀ j, row = some j → ∃ cells, W.heap[j]? = some (.cells cells t (0, 0))) (hq : ∀ q, q ∈ e :: d.E → q ≠ t) : d.R e W1 B ok v xs :=
  Kd.R_mono (Kd.R_grown (Kd.R_bound hh) hg (fun k hk e => by
    obtain ⟨_, _, _, q, hq1, cells, hc⟩ := hk
    obtain ⟨cells', hc'⟩ := hrow k e.symm
    rw [hc] at hc'
    injection hc' with hc'
    injection hc' with _ hc'
    exact hq q hq1 hc')) (fun _ hk => hk.1)
theorem StAt.typ_grown {W W1 : World} {B g : Nat} {vl vm vb : Value} {rs : List (List Int)} {mk bs : List Int} {row : Option Nat} (h : StAt W B g vl vm vb rs mk bs) (hg : W.grownBy W1 row) (hrow : ∀ j, row = some j → ∃ cells, W.heap[j]? = some (.cells cells 3 (0, 0))) : StAt W1 B g vl vm vb rs mk bs := by
  refine ⟨h.1, blk_grown h.2.1 hg (fun e => ?_), R_typ_grown h.2.2.1 hg 3 hrow (fun q hq => by rcases typ_T q hq with h | h <;> rw [h] <;> decide), R_typ_grown h.2.2.2.1 hg 3 hrow (fun q hq => by rw [typ_B q hq]; decide), R_typ_grown h.2.2.2.2 hg 3 hrow (fun q hq => by rw [typ_B q hq]; decide)⟩
  obtain ⟨cells, hc⟩ := hrow g e.symm
  rw [h.2.1] at hc
  injection hc with hc
  injection hc with _ hc
  exact absurd hc (by decide)
theorem Made.typ_grown {W W1 : World} {B g : Nat} {l : List (List Int)} {row : Option Nat} (h : Made W B g l) (hg : W.grownBy W1 row) (hrow : ∀ j, row = some j → ∃ cells, W.heap[j]? = some (.cells cells 3 (0, 0))) : Made W1 B g l := by
  obtain ⟨vl, vm, vb, h⟩ := h
  exact ⟨vl, vm, vb, h.typ_grown hg hrow⟩
theorem ends_kept {W W1 : World} {B B2 g : Nat} {vl vm vb v : Value} {rs : List (List Int)} {mk bs xs : List Int} (h : StAt W B g vl vm vb rs mk bs) (hE : kI.R 3 W B2 (fun _ => True) v xs) (hk : Kept W W1 (Touch g vl vb)) : kI.R 3 W1 B2 (fun _ => True) v xs :=
  Kd.R_mono (Kd.R_kept (Kd.R_tight rfl hE) hk (fun k hk2 h3 => by
    obtain ⟨cells, hc⟩ := own_obj hE k hk2.symm
    rcases h3 with rfl | e | e
    · rw [h.2.1] at hc
      injection hc with hc
      injection hc with _ hc
      exact absurd hc (by decide)
    · obtain ⟨cells', hc'⟩ := own_obj h.2.2.1 k e
      rw [hc] at hc'
      injection hc' with hc'
      injection hc' with _ hc'
      exact absurd hc' (by decide)
    · obtain ⟨cells', hc'⟩ := own_obj h.2.2.2.2 k e
      rw [hc] at hc'
      injection hc' with hc'
      injection hc' with _ hc'
      exact absurd hc' (by decide))) (fun _ _ => trivial)
/-- Where the records of a store end. -/
def endL (l : List (List Int)) (k : Nat) : Nat := (storeB [] (l.take (k + 1))).length
theorem endL_le {l : List (List Int)} (hf : Few l) (k : Nat) : endL l k ≤ 2688 := few_bytes (few_take (k + 1) hf)
theorem ends_snoc (l : List (List Int)) (k : Nat) : (List.range (k + 1)).map (fun j => (endL l j : Int)) = (List.range k).map (fun j => (endL l j : Int)) ++ [(endL l k : Int)] := by
  rw [List.range_succ, List.map_append]; rfl
theorem ends_get (l : List (List Int)) (n k : Nat) (h : k < n) : ((List.range n).map (fun j => (endL l j : Int))).getD k 0 = (endL l k : Int) := by
  rw [List.getD_eq_getElem?_getD, List.getElem?_map, List.getElem?_range h]; rfl
theorem holds_m (A : Option Addr) (n c : Nat) (l : List (List Int)) (B g : Nat) (w : World) (hM : Made w B g l) (hC : Kd.C kT w A n l) (hl : l.length ≤ 1000000) (hll : ∀ r ∈ l, r.length ≤ 100000000) :
    Calls Tryd.prog 17 #[.pointer (some ⟨g, 0, none⟩), .slice A n c] w fun e w' => e = .returned (.bool true) ∧ Below w.heap.size w w' := by
  obtain rfl := hC.1
  exact holds_calls A c l B g w hM hC hl hll
set_option maxHeartbeats 64000000 in
set_option maxRecDepth 100000 in
theorem lasts_calls (A : Option Addr) (c : Nat) (l : List (List Int)) (keep : Int) (w : World) (hC : Kd.C (Kd.slice 5 (Kd.int .u8)) w A l.length l) (hc : l.length ≤ c) (hby : ∀ r ∈ l, ∀ x ∈ r, 0 ≤ x ∧ x < 256)
    (hLf : LaidAt w 0 firstA) (hL : LaidAt w 1 constA) :
    Calls Tryd.prog 7 #[.slice A l.length c, .int .i64 keep] w fun e w' => e = .returned (.bool true) ∧ Below w.heap.size w w' := by
  have HLf := Aside0.mk hLf
  have HL := Aside0.mk hL
  have HC := Aside0.mk hC
  have HCc := Aside0.mk hc
  have HBy := Aside0.mk hby
  have HAw : Aside0 (∀ W, Below w.heap.size w W → Calls Tryd.prog 9 #[] W fun e w' => e = .returned (.bool true) ∧ Below W.heap.size W w') := ⟨fun W hb => awake_calls W (HLf.out.below hb) (HL.out.below hb)⟩
  clear hLf hL hC hby hc
  go_enter Tryd.func7, Tryd.ntmps7
  go_wp2_with (fail)
  refine (few_calls A c l w HC.out).mono ?_
  rintro e w1 ⟨b1, rfl, hF1, hd1⟩
  have HB1 := Aside0.mk hd1.below
  have HF1 := Aside0.mk hF1
  clear hd1 hF1
  cases b1 with
  | false =>
    go_wp2_with (fail)
    refine (HAw.out w1 HB1.out).mono ?_
    rintro e wz ⟨rfl, hb⟩
    have HBz := Aside0.mk (below_step HB1.out hb)
    clear hb
    go_wp2_with (fail)
    go_ret
    exact ⟨rfl, HBz.out⟩
  | true =>
    replace HF1 := Aside0.mk (show Few l from by first | exact HF1.out rfl | exact HF1.out trivial)
    go_wp2_with (fail)
    refine (new_calls w1).mono ?_
    rintro e w2 ⟨g, rfl, hS, hb⟩
    have HS := Aside0.mk hS
    have HB2 := Aside0.mk hb
    have hl12 := HF1.out.2
    clear hS hb
    go_wp2_with (fail)
    go_loopw [6, 7] (fun v6 v7 wr => ∃ k : Nat, k ≤ l.length ∧ v7 = .int .i64 (k : Int) ∧ Aside0 (Made wr w1.heap.size g (l.take k) ∧ kI.R 3 wr w1.heap.size (fun _ => True) v6 ((List.range k).map (fun j => (endL l j : Int))) ∧ Below w1.heap.size w1 wr)) (fun _ v7 _ => l.length - (intOf v7).toNat)
    case atStart => exact ⟨0, Nat.zero_le _, rfl, ⟨⟨_, _, _, HS.out⟩, Kd.R_nil _ _ _ _ _, HB2.out⟩⟩
    case round =>
      obtain ⟨k, hk, rfl, HM⟩ := hrel
      clear HS HB2
      by_cases hlt : k < l.length
      · obtain ⟨⟨vl, vm, vb, hS⟩, hE, hBr⟩ := HM.out
        have HS := Aside0.mk hS
        have HE := Aside0.mk hE
        have HBr := Aside0.mk hBr
        have HB2 : Aside0 (Below w.heap.size w wr) := ⟨below_step HB1.out HBr.out⟩
        obtain ⟨ad, A1, c1, rfl, hx, hl1, hr1⟩ := row_at' HC.out HB2.out k hlt
        have HR1 := Aside0.mk hr1
        have hwk : IntKind.i64.wrap ((k : Int) + 1) = (k : Int) + 1 := by rw [IntKind.wrap_i64]; omega
        have HG : Aside0 (l.getD k [] ∈ l) := ⟨by rw [List.getD_eq_getElem?_getD, List.getElem?_eq_getElem hlt]; exact List.getElem_mem hlt⟩
        have HAp := Aside0.mk (append_old A1 (l.getD k []).length c1 (l.getD k []) HS.out HR1.out HB2.out HB1.out.size HBr.out.size hl1 (HBy.out _ HG.out) (markV_byte _ _ (fun x hx => by cases hx)) (markV_le _ _ (by decide)) (by have := HF1.out.1 _ HG.out; omega) (by rw [List.length_take]; omega) (by have := few_bytes (few_take k HF1.out); omega) (HLf.out.below HB2.out) (HL.out.below HB2.out))
        have HSt : Aside0 (∀ W v1 m1 b1, StAt W w1.heap.size g v1 m1 b1 (l.take k ++ [l.getD k []]) (sealV (markV [] (l.take k)) (l.getD k [])) (storeB [] (l.take k) ++ joinL [l.getD k [], sealV (markV [] (l.take k)) (l.getD k [])]) → Made W w1.heap.size g (l.take (k + 1))) := ⟨fun W v1 m1 b1 h => made_step hlt h⟩
        have HEl := Aside0.mk (endL_le HF1.out k)
        have HEn := Aside0.mk (ends_snoc l k)
        obtain ⟨A6, c6, rfl⟩ := Kd.R_slice hE
        clear hS hl1 hr1 HM hE hBr
        generalize l.getD k [] = x at *
        generalize hes : (List.range k).map (fun j => (endL l j : Int)) = es at *
        have HEsl : Aside0 (es.length = k) := ⟨by rw [← hes]; simp⟩
        clear hes
        go_wp2_with (fail)
        refine HAp.out.mono ?_
        rintro e w3 ⟨rfl, ⟨v1, m1, b1, hS⟩, hb, hkp⟩
        have HM3 := Aside0.mk (HSt.out _ _ _ _ hS)
        have HE3 := Aside0.mk (ends_kept HS.out HE.out hkp)
        have HB3 : Aside0 (Below w1.heap.size w1 w3) := ⟨HBr.out.trans hb⟩
        have HBy3 := Aside0.mk (bytes_made HM3.out (by have := HEl.out; unfold endL at this; omega))
        clear hS hb hkp
        go_wp2_with (fail)
        refine HBy3.out.mono ?_
        rintro e w4 ⟨Ab, cb, rfl, hCb, hcb, hb⟩
        have HM4 := Aside0.mk (HM3.out.below hb)
        have HE4 := Aside0.mk (Kd.R_below HE3.out hb)
        have HB4 : Aside0 (Below w1.heap.size w1 w4) := ⟨below_step HB3.out hb⟩
        have HOb := Aside0.mk (own_obj HE4.out)
        clear hCb hcb hb HBy3
        show _
        obtain ⟨en, hen⟩ : ∃ en, en = (storeB [] (l.take (k + 1))).length := ⟨_, rfl⟩
        rw [← hen]
        have HEne : Aside0 (endL l k = en) := ⟨hen.symm⟩
        clear hen
        go_wp2_with (at_builtin; refine Kd.R_append kI (w0 := w1) (W := w4) w1.heap.size rfl (.tmp 34) (.tmp 38) 41 3 (.int .i64 0) 8 rfl Tryd.underlying41 info_int8 rfl (by decide) (by decide) (.slice A6 es.length c6) es (en : Int) [.int .i64 (en : Int)] (fun _ => True) (fun k => True ∧ some k ≠ (Value.slice A6 es.length c6).ownBlock) rfl rfl rfl (fun k hk => ⟨trivial, hk.2⟩) (fun _ _ => trivial) HE4.out HB4.out HB4.out.size (by have := HEsl.out; omega) ?_; intro v1 w5 ho hb hg hat; have HE5 := Aside0.mk ho; have HB5 := Aside0.mk hb; have HM5 := Aside0.mk (HM4.out.typ_grown hg (fun j hj => HOb.out j hj)); clear ho hb hg hat)
        go_roundw
        case rel => exact ⟨k + 1, by omega, by go_num, ⟨HM5.out, by rw [HEn.out, HEne.out]; exact HE5.out, HB5.out⟩⟩
        case measure => simp [intOf]; omega
      · obtain rfl : k = l.length := by omega
        obtain ⟨hM, hE, hBr⟩ := HM.out
        rw [List.take_length] at hM
        have HM1 := Aside0.mk hM
        have HE := Aside0.mk hE
        have HBr := Aside0.mk hBr
        obtain ⟨A6, c6, hv6⟩ := Kd.R_slice hE
        rw [show ((List.range l.length).map (fun j => (endL l j : Int))).length = l.length by simp] at hv6
        subst hv6
        have HEr : Aside0 (∀ W, Below wr.heap.size wr W → Kd.C kI W A6 l.length ((List.range l.length).map (fun j => (endL l j : Int)))) := ⟨fun W hb => by
          obtain ⟨A7, c7, he, _, h⟩ := Kd.R_reads (Kd.R_below hE hb)
          injection he with h1 h2 h3
          subst h1
          simpa using h⟩
        have HLl := Aside0.mk (few_bytes HF1.out)
        have HB2 : Aside0 (Below w.heap.size w wr) := ⟨below_step HB1.out HBr.out⟩
        have HBy3 := Aside0.mk (bytes_made HM1.out (by have := HLl.out; omega))
        clear hM hE hBr HM hk hlt HM1
        obtain ⟨X, hX⟩ : ∃ X, X = storeB [] l := ⟨_, rfl⟩
        rw [← hX] at HBy3 HLl
        have HXe := Aside0.mk hX
        clear hX
        go_wp2_with (fail)
        refine HBy3.out.mono ?_
        rintro e w3 ⟨Ab, cb, rfl, hCb, hcb, hb⟩
        have HB3 : Aside0 (Below w.heap.size w w3) := ⟨below_step HB2.out hb⟩
        have HCb := Aside0.mk hCb
        have HCbc := Aside0.mk hcb
        have HEr3 := Aside0.mk (HEr.out w3 hb)
        clear hCb hcb hb HEr HBy3
        by_cases hneg : keep < 0
        · have dn : decide (keep < 0) = true := by simp; omega
          clear hneg
          go_wp2_with (fail)
          refine (HAw.out w3 HB3.out).mono ?_
          rintro e wz ⟨rfl, hb⟩
          have HBz := Aside0.mk (below_step HB3.out hb)
          clear hb
          go_wp2_with (fail)
          go_ret
          exact ⟨rfl, HBz.out⟩
        · have dn : decide (keep < 0) = false := by simp; omega
          obtain ⟨kp, rfl⟩ : ∃ kp : Nat, keep = (kp : Int) := ⟨keep.toNat, by omega⟩
          by_cases hgt : X.length < kp
          · have dg : decide ((X.length : Int) < (kp : Int)) = true := by simp; omega
            have dgN : decide (X.length < kp) = true := by simp; omega
            clear hneg hgt
            go_wp2_with (fail)
            refine (HAw.out w3 HB3.out).mono ?_
            rintro e wz ⟨rfl, hb⟩
            have HBz := Aside0.mk (below_step HB3.out hb)
            clear hb
            go_wp2_with (fail)
            go_ret
            exact ⟨rfl, HBz.out⟩
          · have dg : decide ((X.length : Int) < (kp : Int)) = false := by simp; omega
            have dgN : decide (X.length < kp) = false := by simp; omega
            have HKp : Aside0 (kp ≤ X.length) := ⟨by omega⟩
            clear hneg hgt
            go_wp2_with (fail)
            clear dg dgN dn
            go_loopw [9] (fun v9 wr => ∃ m : Nat, m ≤ l.length ∧ v9 = .int .i64 (m : Int) ∧ Aside0 ((storeB [] (l.take m)).length ≤ kp) ∧ wr = w3) (fun v9 _ => l.length - (intOf v9).toNat)
            case atStart => exact ⟨0, Nat.zero_le _, rfl, ⟨Nat.zero_le _⟩, rfl⟩
            case round =>
              obtain ⟨m, hm, rfl, HMk, hwr⟩ := hrel
              rw [hwr]
              clear hwr
              obtain ⟨bv, hbv⟩ : ∃ bv : Bool, bv = (decide (m < l.length) && decide (endL l m ≤ kp)) := ⟨_, rfl⟩
              have HBv := Aside0.mk hbv
              clear hbv
              go_upto_region 17 with (fail)
              go_cut [62] (fun s wx => s = .bool bv ∧ wx = w3)
              case first =>
                by_cases hlt : m < l.length
                · have d1 : decide ((m : Int) < (l.length : Int)) = true := by simp; omega
                  have d1N : decide (m < l.length) = true := by simp; omega
                  obtain ⟨ad6, hA, hx6⟩ := int_at HEr3.out m hlt
                  rw [ends_get l l.length m hlt] at hx6
                  subst hA
                  by_cases hle : endL l m ≤ kp
                  · have d2 : decide ((endL l m : Int) ≤ (kp : Int)) = true := by simp; omega
                    have d2N : decide (endL l m ≤ kp) = true := by simp; omega
                    have hb1 : bv = true := by rw [HBv.out]; simp [hlt, hle]
                    clear hle
                    go_wp2
                    go_meet
                    case rel => exact ⟨by rw [hb1], rfl⟩
                  · have d2 : decide ((endL l m : Int) ≤ (kp : Int)) = false := by simp; omega
                    have d2N : decide (endL l m ≤ kp) = false := by simp; omega
                    have hb1 : bv = false := by rw [HBv.out]; simp [hlt, hle]
                    clear hle
                    go_wp2
                    go_meet
                    case rel => exact ⟨by rw [hb1], rfl⟩
                · have d1 : decide ((m : Int) < (l.length : Int)) = false := by simp; omega
                  have d1N : decide (m < l.length) = false := by simp; omega
                  have hb1 : bv = false := by rw [HBv.out]; simp [hlt]
                  go_wp2
                  go_meet
                  case rel => exact ⟨by rw [hb1], rfl⟩
              case rest =>
                obtain ⟨rfl, hwc⟩ := hcut
                rw [hwc]
                clear hwc
                cases hb : bv with
                | true =>
                  have hbb := HBv.out
                  rw [hb] at hbb
                  have hlt : m < l.length := by
                    by_cases h : m < l.length
                    · exact h
                    · simp [h] at hbb
                  have hle : endL l m ≤ kp := by
                    by_cases h : endL l m ≤ kp
                    · exact h
                    · simp [h] at hbb
                  have hwk : IntKind.i64.wrap ((m : Int) + 1) = (m : Int) + 1 := by rw [IntKind.wrap_i64]; omega
                  have HLe := Aside0.mk hle
                  clear hbb hle
                  go_wp2_with (fail)
                  go_roundw
                  case rel => exact ⟨m + 1, by omega, by go_num, ⟨HLe.out⟩, by first | rfl | trivial⟩
                  case measure => simp [intOf]; omega
                | false =>
                  have HNx : Aside0 (m < l.length → kp < endL l m) := ⟨fun h => by
                    have hbb := HBv.out
                    rw [hb] at hbb
                    by_cases h2 : endL l m ≤ kp
                    · simp [h, h2] at hbb
                    · omega⟩
                  clear hb
                  obtain ⟨wh, hwh⟩ : ∃ wh, wh = (storeB [] (l.take m)).length := ⟨_, rfl⟩
                  have HWh := Aside0.mk hwh.symm
                  have HWk : Aside0 (wh ≤ kp) := ⟨by rw [hwh]; exact HMk.out⟩
                  clear hwh
                  go_upto_if 66 with (fail)
                  go_cut [10] (fun s wx => s = .int .i64 (wh : Int) ∧ wx = w3)
                  case first =>
                    rcases Nat.eq_zero_or_pos m with h0 | h0
                    · subst h0
                      have hw0 : wh = 0 := by rw [← HWh.out]; rfl
                      go_wp2
                      go_meet
                      case rel => exact ⟨by rw [hw0]; rfl, rfl⟩
                    · obtain ⟨m', hm'⟩ : ∃ m', m = m' + 1 := ⟨m - 1, by omega⟩
                      have d1 : decide (0 < (m : Int)) = true := by simp; omega
                      have d1N : decide (0 < m) = true := by simp; omega
                      have hwm : IntKind.i64.wrap ((m : Int) - 1) = (m' : Int) := by rw [IntWalk.i64_in _ (by omega)]; omega
                      have hlt' : m' < l.length := by omega
                      have hltI : (m' : Int) < (l.length : Int) := by omega
                      obtain ⟨ad6, hA, hx6⟩ := int_at HEr3.out m' hlt'
                      rw [ends_get l l.length m' hlt', show endL l m' = wh from by rw [endL, ← hm', HWh.out]] at hx6
                      subst hA
                      clear hm'
                      go_wp2
                      go_meet
                      case rel => exact ⟨rfl, rfl⟩
                  case rest =>
                  obtain ⟨rfl, hwc⟩ := hcut
                  rw [hwc]
                  clear hwc
                  have HXt : Aside0 (X.take wh = storeB [] (l.take m)) := ⟨by rw [HXe.out, ← HWh.out]; exact (storeB_pre l m).1⟩
                  have HWl : Aside0 (wh ≤ X.length) := ⟨by have := HWk.out; have := HKp.out; omega⟩
                  have HRc := Aside0.mk (recV_cut l [] m kp (few_short HF1.out) hm (by rw [HWh.out]; exact HWk.out) (fun h => HNx.out h) (fun _ => by rw [← HXe.out]; exact HKp.out))
                  rw [← HXe.out, HWh.out] at HRc
                  obtain ⟨nn, hnn⟩ : ∃ nn, nn = ((X.take kp).drop wh).length := ⟨_, rfl⟩
                  have HNn : Aside0 (nn = kp - wh) := ⟨by rw [hnn, List.length_drop, List.length_take]; have := HKp.out; omega⟩
                  have hcut1 : ∀ W, (Instr.slice 22 (.slice Ab X.length cb) none (some (.int .i64 (kp : Int))) none).run Tryd.prog W = .ok (.slice Ab kp cb) W := run_upto8 Ab X.length cb kp HKp.out HCbc.out
                  have hcut2 : ∀ W, (Instr.slice 22 (.slice Ab X.length cb) none (some (.int .i64 (wh : Int))) none).run Tryd.prog W = .ok (.slice Ab wh cb) W := run_upto8 Ab X.length cb wh HWl.out HCbc.out
                  have hcut3 : ∀ W, (Instr.slice 31 (.slice A l.length c) none (some (.int .i64 (m : Int))) none).run Tryd.prog W = .ok (.slice A m c) W := run_upto_bss A l.length c m hm HCc.out
                  have HXb : Aside0 (∀ x ∈ X, 0 ≤ x ∧ x < 256) := ⟨by rw [HXe.out]; exact storeB_byte l [] HBy.out⟩
                  have HRec := Aside0.mk (rec_n Ab kp cb (X.take kp) w3 (take_int kp HKp.out HCb.out) (Nat.le_trans HKp.out HCbc.out) (fun x hx => HXb.out x (List.mem_of_mem_take hx)) (by have := HKp.out; have := HLl.out; omega) (HLf.out.below HB3.out) (HL.out.below HB3.out))
                  have HXw : Aside0 (Kd.C (Kd.int .u8) w3 Ab wh (X.take wh)) := ⟨take_int wh HWl.out HCb.out⟩
                  have hwn : IntKind.i64.wrap ((kp : Int) - (wh : Int)) = (nn : Int) := by have := HNn.out; have := HWk.out; have := HKp.out; have := HLl.out; rw [IntWalk.i64_in _ (by omega)]; omega
                  have e1 : ((nn : Int) != (nn : Int)) = false := by simp
                  go_wp2_with (fail)
                  refine HRec.out.mono ?_
                  rintro e w4 hE
                  unfold RecEnd at hE
                  rw [HRc.out] at hE
                  obtain ⟨g2, vl2, vm2, vb2, he, hS2, hb⟩ := hE
                  have he' : e = .returned (.tuple #[.pointer (some ⟨g2, 0, none⟩), .int .i64 (nn : Int)]) := by rw [he, hnn]
                  subst he'
                  have HM2 : Aside0 (Made w4 w3.heap.size g2 (l.take m)) := ⟨⟨_, _, _, hS2⟩⟩
                  have HBr4 : Aside0 (Below w3.heap.size w3 w4.drew) := ⟨below_drew hb⟩
                  have HB4 : Aside0 (Below w.heap.size w w4.drew) := ⟨below_drew (below_step HB3.out hb)⟩
                  have HM4 : Aside0 (Made w4.drew w3.heap.size g2 (l.take m)) := ⟨HM2.out.below (below_drew (Below.refl _ _))⟩
                  have HHo := Aside0.mk (holds_m A m c (l.take m) w3.heap.size g2 w4.drew HM4.out (Kd.C_below (take_rows m hm HC.out) HB4.out) (by rw [List.length_take]; omega) (fun r hr => by have := HF1.out.1 r (List.mem_of_mem_take hr); omega))
                  clear hS2 hb HM2 hnn hcut1
                  go_upto_region 23 with (fail)
                  refine start_ (n := 26) (S := fun w' => True) (ds := []) #[false, false, false, false, false, false, false, false, false, false, false, false, false, false, false, false, false, false, false, false, false, false, false, false, false, false] (by kernel_rfl) rfl rfl trivial (fun hHeld => ?_)
                  refine pure_ (i := 0) (N := some 79) (v := ?_) (a' := ?_) #[true, false, false, false, false, false, false, false, false, false, false, false, false, false, false, false, false, false, false, false, false, false, false, false, false, false] rfl rfl (by kernel_rfl) (fun _ _ _ h => h) (Or.inl ⟨by rfl, ?_⟩) ?_ ?_
                  rotate_left
                  · intro w'
                    go_simp
                    with_reducible rfl
                  rotate_left
                  · simp only [Act.put, List.setIfInBounds_toArray, List.set_cons_zero, List.set_cons_succ]
                    rfl
                  refine pure_ (i := 1) (N := some 80) (v := ?_) (a' := ?_) #[true, true, false, false, false, false, false, false, false, false, false, false, false, false, false, false, false, false, false, false, false, false, false, false, false, false] rfl rfl (by kernel_rfl) (fun _ _ _ h => h) (Or.inl ⟨by rfl, ?_⟩) ?_ ?_
                  rotate_left
                  · intro w'
                    go_simp
                    with_reducible rfl
                  rotate_left
                  · simp only [Act.put, List.setIfInBounds_toArray, List.set_cons_zero, List.set_cons_succ]
                    rfl
                  refine pure_ (i := 2) (N := some 81) (v := ?_) (a' := ?_) #[true, true, true, false, false, false, false, false, false, false, false, false, false, false, false, false, false, false, false, false, false, false, false, false, false, false] rfl rfl (by kernel_rfl) (fun _ _ _ h => h) (Or.inl ⟨by rfl, ?_⟩) ?_ ?_
                  rotate_left
                  · intro w'
                    go_simp
                    with_reducible rfl
                  rotate_left
                  · simp only [Act.put, List.setIfInBounds_toArray, List.set_cons_zero, List.set_cons_succ]
                    rfl
                  refine pure_ (i := 3) (N := some 82) (v := ?_) (a' := ?_) #[true, true, true, true, false, false, false, false, false, false, false, false, false, false, false, false, false, false, false, false, false, false, false, false, false, false] rfl rfl (by kernel_rfl) (fun _ _ _ h => h) (Or.inl ⟨by rfl, ?_⟩) ?_ ?_
                  rotate_left
                  · intro w'
                    go_simp
                    with_reducible rfl
                  rotate_left
                  · simp only [Act.put, List.setIfInBounds_toArray, List.set_cons_zero, List.set_cons_succ]
                    rfl
                  refine pure_ (i := 4) (N := some 83) (v := ?_) (a' := ?_) #[true, true, true, true, true, false, false, false, false, false, false, false, false, false, false, false, false, false, false, false, false, false, false, false, false, false] rfl rfl (by kernel_rfl) (fun _ _ _ h => h) (Or.inl ⟨by rfl, ?_⟩) ?_ ?_
                  rotate_left
                  · intro w'
                    go_simp
                    with_reducible rfl
                  rotate_left
                  · simp only [Act.put, List.setIfInBounds_toArray, List.set_cons_zero, List.set_cons_succ]
                    rfl
                  refine pure_ (i := 5) (N := some 84) (v := ?_) (a' := ?_) #[true, true, true, true, true, true, false, false, false, false, false, false, false, false, false, false, false, false, false, false, false, false, false, false, false, false] rfl rfl (by kernel_rfl) (fun _ _ _ h => h) (Or.inl ⟨by rfl, ?_⟩) ?_ ?_
                  rotate_left
                  · intro w'
                    go_simp
                    with_reducible rfl
                  rotate_left
                  · simp only [Act.put, List.setIfInBounds_toArray, List.set_cons_zero, List.set_cons_succ]
                    rfl
                  refine pure_ (i := 6) (N := some 85) (v := ?_) (a' := ?_) #[true, true, true, true, true, true, true, false, false, false, false, false, false, false, false, false, false, false, false, false, false, false, false, false, false, false] rfl rfl (by kernel_rfl) (fun _ _ _ h => h) (Or.inl ⟨by rfl, ?_⟩) ?_ ?_
                  rotate_left
                  · intro w'
                    go_simp
                    with_reducible rfl
                  rotate_left
                  · simp only [Act.put, List.setIfInBounds_toArray, List.set_cons_zero, List.set_cons_succ]
                    rfl
                  refine pure_ (i := 7) (N := some 86) (v := ?_) (a' := ?_) #[true, true, true, true, true, true, true, true, false, false, false, false, false, false, false, false, false, false, false, false, false, false, false, false, false, false] rfl rfl (by kernel_rfl) (fun _ _ _ h => h) (Or.inl ⟨by rfl, ?_⟩) ?_ ?_
                  rotate_left
                  · intro w'
                    go_simp
                    with_reducible rfl
                  rotate_left
                  · simp only [Act.put, List.setIfInBounds_toArray, List.set_cons_zero, List.set_cons_succ]
                    rfl
                  refine pure_ (i := 8) (N := some 87) (v := ?_) (a' := ?_) #[true, true, true, true, true, true, true, true, true, false, false, false, false, false, false, false, false, false, false, false, false, false, false, false, false, false] rfl rfl (by kernel_rfl) (fun _ _ _ h => h) (Or.inl ⟨by rfl, ?_⟩) ?_ ?_
                  rotate_left
                  · intro w'
                    go_simp
                    with_reducible rfl
                  rotate_left
                  · simp only [Act.put, List.setIfInBounds_toArray, List.set_cons_zero, List.set_cons_succ]
                    rfl
                  refine pure_ (i := 9) (N := some 88) (v := ?_) (a' := ?_) #[true, true, true, true, true, true, true, true, true, true, false, false, false, false, false, false, false, false, false, false, false, false, false, false, false, false] rfl rfl (by kernel_rfl) (fun _ _ _ h => h) (Or.inl ⟨by rfl, ?_⟩) ?_ ?_
                  rotate_left
                  · intro w'
                    go_simp
                    with_reducible rfl
                  rotate_left
                  · simp only [Act.put, List.setIfInBounds_toArray, List.set_cons_zero, List.set_cons_succ]
                    rfl
                  refine pure_ (i := 10) (N := some 89) (v := ?_) (a' := ?_) #[true, true, true, true, true, true, true, true, true, true, true, false, false, false, false, false, false, false, false, false, false, false, false, false, false, false] rfl rfl (by kernel_rfl) (fun _ _ _ h => h) (Or.inl ⟨by rfl, ?_⟩) ?_ ?_
                  rotate_left
                  · intro w'
                    go_simp
                    with_reducible rfl
                  rotate_left
                  · simp only [Act.put, List.setIfInBounds_toArray, List.set_cons_zero, List.set_cons_succ]
                    rfl
                  refine pure_ (i := 11) (N := some 90) (v := ?_) (a' := ?_) #[true, true, true, true, true, true, true, true, true, true, true, true, false, false, false, false, false, false, false, false, false, false, false, false, false, false] rfl rfl (by kernel_rfl) (fun _ _ _ h => h) (Or.inl ⟨by rfl, ?_⟩) ?_ ?_
                  rotate_left
                  · intro w'
                    go_simp
                    with_reducible rfl
                  rotate_left
                  · simp only [Act.put, List.setIfInBounds_toArray, List.set_cons_zero, List.set_cons_succ]
                    rfl
                  refine pure_ (i := 12) (N := some 91) (v := ?_) (a' := ?_) #[true, true, true, true, true, true, true, true, true, true, true, true, true, false, false, false, false, false, false, false, false, false, false, false, false, false] rfl rfl (by kernel_rfl) (fun _ _ _ h => h) (Or.inl ⟨by rfl, ?_⟩) ?_ ?_
                  rotate_left
                  · intro w'
                    go_simp
                    with_reducible rfl
                  rotate_left
                  · simp only [Act.put, List.setIfInBounds_toArray, List.set_cons_zero, List.set_cons_succ]
                    rfl
                  refine pure_ (i := 13) (N := some 92) (v := ?_) (a' := ?_) #[true, true, true, true, true, true, true, true, true, true, true, true, true, true, false, false, false, false, false, false, false, false, false, false, false, false] rfl rfl (by kernel_rfl) (fun _ _ _ h => h) (Or.inl ⟨by rfl, ?_⟩) ?_ ?_
                  rotate_left
                  · intro w'
                    go_simp
                    with_reducible rfl
                  rotate_left
                  · simp only [Act.put, List.setIfInBounds_toArray, List.set_cons_zero, List.set_cons_succ]
                    rfl
                  refine one_ (i := 14) (N := some 93) #[true, true, true, true, true, true, true, true, true, true, true, true, true, true, true, false, false, false, false, false, false, false, false, false, false, false] rfl rfl (by kernel_rfl) (by decide) (fun K hK => ?_)
                  refine goes_ Tryd.func17 (by kernel_rfl) rfl #[.pointer (some ⟨g2, 0, none⟩), .slice A m c] (by rfl) rfl rfl (by simp only [List.map_toArray, List.map_cons, List.map_nil]; rfl) ?_
                  with_reducible refine (HHo.out).mono ?_
                  rintro e w5 ⟨rfl, hb5⟩
                  refine ⟨_, rfl, ?_⟩
                  have HM5 := Aside0.mk (HM4.out.below hb5)
                  have HB5 := Aside0.mk (below_step HB4.out hb5)
                  have HBr5 : Aside0 (Below w3.heap.size w3 w5) := ⟨below_step HBr4.out hb5⟩
                  have HBb := Aside0.mk (bytes_made HM5.out (by rw [HWh.out]; have := HWl.out; have := HLl.out; omega))
                  rw [HWh.out] at HBb
                  clear hb5
                  refine hK.out _ _ trivial (fun hHeld => ?_)
                  clear hK K
                  refine norm_ (a' := ?_) ?_ ?_
                  rotate_left
                  · show Act.put _ (some 93) _ = _
                    simp only [Act.put, List.setIfInBounds_toArray, List.set_cons_zero, List.set_cons_succ]
                    rfl
                  refine pure_ (i := 15) (N := some 94) (v := ?_) (a' := ?_) #[true, true, true, true, true, true, true, true, true, true, true, true, true, true, true, true, false, false, false, false, false, false, false, false, false, false] rfl rfl (by kernel_rfl) (fun _ _ _ h => h) (Or.inl ⟨by rfl, ?_⟩) ?_ ?_
                  rotate_left
                  · intro w'
                    go_simp
                    with_reducible rfl
                  rotate_left
                  · simp only [Act.put, List.setIfInBounds_toArray, List.set_cons_zero, List.set_cons_succ]
                    rfl
                  refine pure_ (i := 16) (N := some 95) (v := ?_) (a' := ?_) #[true, true, true, true, true, true, true, true, true, true, true, true, true, true, true, true, true, false, false, false, false, false, false, false, false, false] rfl rfl (by kernel_rfl) (fun _ _ _ h => h) (Or.inl ⟨by rfl, ?_⟩) ?_ ?_
                  rotate_left
                  · intro w'
                    go_simp
                    with_reducible rfl
                  rotate_left
                  · simp only [Act.put, List.setIfInBounds_toArray, List.set_cons_zero, List.set_cons_succ]
                    rfl
                  refine pure_ (i := 17) (N := some 96) (v := ?_) (a' := ?_) #[true, true, true, true, true, true, true, true, true, true, true, true, true, true, true, true, true, true, false, false, false, false, false, false, false, false] rfl rfl (by kernel_rfl) (fun _ _ _ h => h) (Or.inl ⟨by rfl, ?_⟩) ?_ ?_
                  rotate_left
                  · intro w'
                    go_simp
                    with_reducible rfl
                  rotate_left
                  · simp only [Act.put, List.setIfInBounds_toArray, List.set_cons_zero, List.set_cons_succ]
                    rfl
                  refine pure_ (i := 18) (N := some 97) (v := ?_) (a' := ?_) #[true, true, true, true, true, true, true, true, true, true, true, true, true, true, true, true, true, true, true, false, false, false, false, false, false, false] rfl rfl (by kernel_rfl) (fun _ _ _ h => h) (Or.inl ⟨by rfl, ?_⟩) ?_ ?_
                  rotate_left
                  · intro w'
                    go_simp
                    with_reducible rfl
                  rotate_left
                  · simp only [Act.put, List.setIfInBounds_toArray, List.set_cons_zero, List.set_cons_succ]
                    rfl
                  refine pure_ (i := 20) (N := some 99) (v := ?_) (a' := ?_) #[true, true, true, true, true, true, true, true, true, true, true, true, true, true, true, true, true, true, true, false, true, false, false, false, false, false] rfl rfl (by kernel_rfl) (fun _ _ _ h => h) (Or.inl ⟨by rfl, ?_⟩) ?_ ?_
                  rotate_left
                  · intro w'
                    go_simp
                    with_reducible rfl
                  rotate_left
                  · simp only [Act.put, List.setIfInBounds_toArray, List.set_cons_zero, List.set_cons_succ]
                    rfl
                  refine pure_ (i := 21) (N := some 100) (v := ?_) (a' := ?_) #[true, true, true, true, true, true, true, true, true, true, true, true, true, true, true, true, true, true, true, false, true, true, false, false, false, false] rfl rfl (by kernel_rfl) (fun _ _ _ h => h) (Or.inl ⟨by rfl, ?_⟩) ?_ ?_
                  rotate_left
                  · intro w'
                    go_simp
                    with_reducible rfl
                  rotate_left
                  · simp only [Act.put, List.setIfInBounds_toArray, List.set_cons_zero, List.set_cons_succ]
                    rfl
                  refine pure_ (i := 22) (N := some 101) (v := ?_) (a' := ?_) #[true, true, true, true, true, true, true, true, true, true, true, true, true, true, true, true, true, true, true, false, true, true, true, false, false, false] rfl rfl (by kernel_rfl) (fun _ _ _ h => h) (Or.inl ⟨by rfl, ?_⟩) ?_ ?_
                  rotate_left
                  · intro w'
                    go_simp
                    with_reducible rfl
                  rotate_left
                  · simp only [Act.put, List.setIfInBounds_toArray, List.set_cons_zero, List.set_cons_succ]
                    rfl
                  refine one_ (i := 19) (N := some 98) #[true, true, true, true, true, true, true, true, true, true, true, true, true, true, true, true, true, true, true, true, true, true, true, false, false, false] rfl rfl (by kernel_rfl) (by decide) (fun K hK => ?_)
                  refine goes_ Tryd.func11 (by kernel_rfl) rfl #[.pointer (some ⟨g2, 0, none⟩)] (by rfl) rfl rfl (by simp only [List.map_toArray, List.map_cons, List.map_nil]; rfl) ?_
                  with_reducible refine (HBb.out).mono ?_
                  rintro e w6 ⟨A6b, c6b, rfl, hC6, hc6, hb6⟩
                  refine ⟨_, rfl, ?_⟩
                  have HM6 := Aside0.mk (HM5.out.below hb6)
                  have HB6 := Aside0.mk (below_step HB5.out hb6)
                  have HBr6 : Aside0 (Below w3.heap.size w3 w6) := ⟨below_step HBr5.out hb6⟩
                  have HEq := Aside0.mk (Law.bytes_n A6b wh c6b (storeB [] (l.take m)) Ab wh cb (X.take wh) w6 (by first | exact hC6 | (have h := hC6; rw [HWh.out] at h; exact h)) (Kd.C_below HXw.out HBr6.out) true (by rw [HXt.out]; simp))
                  clear hC6 hc6 hb6
                  refine hK.out _ _ trivial (fun hHeld => ?_)
                  clear hK K
                  refine norm_ (a' := ?_) ?_ ?_
                  rotate_left
                  · show Act.put _ (some 98) _ = _
                    simp only [Act.put, List.setIfInBounds_toArray, List.set_cons_zero, List.set_cons_succ]
                    rfl
                  refine one_ (i := 23) (N := some 102) #[true, true, true, true, true, true, true, true, true, true, true, true, true, true, true, true, true, true, true, true, true, true, true, true, false, false] rfl rfl (by kernel_rfl) (by decide) (fun K hK => ?_)
                  refine goes_ Tryd.func12 (by kernel_rfl) rfl #[.slice A6b wh c6b, .slice Ab wh cb] (by rfl) rfl rfl (by simp only [List.map_toArray, List.map_cons, List.map_nil]; rfl) ?_
                  with_reducible refine (HEq.out).mono ?_
                  rintro e w7 ⟨rfl, hd7⟩
                  refine ⟨_, rfl, ?_⟩
                  have HM7 := Aside0.mk (HM6.out.below hd7.below)
                  have HB7 := Aside0.mk (below_step HB6.out hd7.below)
                  have HBr7 : Aside0 (Below w3.heap.size w3 w7) := ⟨below_step HBr6.out hd7.below⟩
                  clear hd7
                  refine hK.out _ _ trivial (fun hHeld => ?_)
                  clear hK K
                  refine norm_ (a' := ?_) ?_ ?_
                  rotate_left
                  · show Act.put _ (some 102) _ = _
                    simp only [Act.put, List.setIfInBounds_toArray, List.set_cons_zero, List.set_cons_succ]
                    rfl
                  refine pure_ (i := 24) (N := some 103) (v := ?_) (a' := ?_) #[true, true, true, true, true, true, true, true, true, true, true, true, true, true, true, true, true, true, true, true, true, true, true, true, true, false] rfl rfl (by kernel_rfl) (fun _ _ _ h => h) (Or.inl ⟨by rfl, ?_⟩) ?_ ?_
                  rotate_left
                  · intro w'
                    go_simp
                    with_reducible rfl
                  rotate_left
                  · simp only [Act.put, List.setIfInBounds_toArray, List.set_cons_zero, List.set_cons_succ]
                    rfl
                  refine pure_ (i := 25) (N := some 104) (v := ?_) (a' := ?_) #[true, true, true, true, true, true, true, true, true, true, true, true, true, true, true, true, true, true, true, true, true, true, true, true, true, true] rfl rfl (by kernel_rfl) (fun _ _ _ h => h) (Or.inl ⟨by rfl, ?_⟩) ?_ ?_
                  rotate_left
                  · intro w'
                    go_simp
                    with_reducible rfl
                  rotate_left
                  · simp only [Act.put, List.setIfInBounds_toArray, List.set_cons_zero, List.set_cons_succ]
                    rfl
                  refine done_ (by kernel_rfl) ?_
                  clear hHeld
                  go_wp2_with (fail)
                  clear hcut2 hcut3 hwn e1
                  go_loopw [13] (fun v13 wr => ∃ k : Nat, m ≤ k ∧ k ≤ l.length ∧ v13 = .int .i64 (k : Int) ∧ Aside0 (Made wr w3.heap.size g2 (l.take k) ∧ Below w3.heap.size w3 wr)) (fun v13 _ => l.length - (intOf v13).toNat)
                  case atStart => exact ⟨m, Nat.le_refl _, hm, rfl, ⟨HM7.out, HBr7.out⟩⟩
                  case round =>
                    obtain ⟨k, hmk, hk, rfl, HM⟩ := hrel
                    by_cases hlt : k < l.length
                    · obtain ⟨⟨vl, vm, vb, hS⟩, hBr⟩ := HM.out
                      have HS := Aside0.mk hS
                      have HBr := Aside0.mk hBr
                      have HB2 : Aside0 (Below w.heap.size w wr) := ⟨below_step HB3.out HBr.out⟩
                      obtain ⟨ad, A1, c1, rfl, hx, hl1, hr1⟩ := row_at' HC.out HB2.out k hlt
                      have HR1 := Aside0.mk hr1
                      have hwk : IntKind.i64.wrap ((k : Int) + 1) = (k : Int) + 1 := by rw [IntKind.wrap_i64]; omega
                      have HG : Aside0 (l.getD k [] ∈ l) := ⟨by rw [List.getD_eq_getElem?_getD, List.getElem?_eq_getElem hlt]; exact List.getElem_mem hlt⟩
                      have HAp := Aside0.mk (append_old A1 (l.getD k []).length c1 (l.getD k []) HS.out HR1.out HB2.out HB3.out.size HBr.out.size hl1 (HBy.out _ HG.out) (markV_byte _ _ (fun x hx => by cases hx)) (markV_le _ _ (by decide)) (by have := HF1.out.1 _ HG.out; omega) (by rw [List.length_take]; omega) (by have := few_bytes (few_take k HF1.out); omega) (HLf.out.below HB2.out) (HL.out.below HB2.out))
                      have HSt : Aside0 (∀ W v1 m1 b1, StAt W w3.heap.size g2 v1 m1 b1 (l.take k ++ [l.getD k []]) (sealV (markV [] (l.take k)) (l.getD k [])) (storeB [] (l.take k) ++ joinL [l.getD k [], sealV (markV [] (l.take k)) (l.getD k [])]) → Made W w3.heap.size g2 (l.take (k + 1))) := ⟨fun W v1 m1 b1 h => made_step hlt h⟩
                      clear hS hl1 hr1 HM hBr
                      generalize l.getD k [] = x at *
                      go_wp2_with (fail)
                      refine HAp.out.mono ?_
                      rintro e w9 ⟨rfl, ⟨v1, m1, b1, hS⟩, hb, _⟩
                      have HM9 := Aside0.mk (HSt.out _ _ _ _ hS)
                      have HB9 : Aside0 (Below w3.heap.size w3 w9) := ⟨HBr.out.trans hb⟩
                      clear hS hb
                      go_wp2_with (fail)
                      go_roundw
                      case rel => exact ⟨k + 1, by omega, by omega, by go_num, ⟨HM9.out, HB9.out⟩⟩
                      case measure => simp [intOf]; omega
                    · obtain rfl : k = l.length := by omega
                      obtain ⟨hM, hBr⟩ := HM.out
                      rw [List.take_length] at hM
                      have HM8 := Aside0.mk hM
                      have HBr8 := Aside0.mk hBr
                      have HB8 : Aside0 (Below w.heap.size w wr) := ⟨below_step HB3.out HBr8.out⟩
                      have HBy8 := Aside0.mk (bytes_made HM8.out (by rw [← HXe.out]; have := HLl.out; omega))
                      rw [← HXe.out] at HBy8
                      clear hM hBr HM hmk hk hlt
                      go_wp2_with (fail)
                      refine HBy8.out.mono ?_
                      rintro e w9 ⟨A9, c9, rfl, hC9, hc9, hb⟩
                      have HB9 := Aside0.mk (below_step HB8.out hb)
                      have HBr9 := Aside0.mk (below_step HBr8.out hb)
                      have HC9 := Aside0.mk hC9
                      clear hC9 hc9 hb
                      go_wp2_with (fail)
                      refine (Law.bytes_n A9 X.length c9 X Ab X.length cb X w9 HC9.out (Kd.C_below HCb.out HBr9.out) true (by simp)).mono ?_
                      rintro e w10 ⟨rfl, hd⟩
                      have HB10 := Aside0.mk (below_step HB9.out hd.below)
                      clear hd
                      go_wp2_with (fail)
                      refine (HAw.out w10 HB10.out).mono ?_
                      rintro e wz ⟨rfl, hb⟩
                      have HBz := Aside0.mk (below_step HB10.out hb)
                      clear hb
                      go_wp2_with (fail)
                      go_ret
                      exact ⟨rfl, HBz.out⟩
theorem lasts_n (A : Option Addr) (n c : Nat) (l : List (List Int)) (keep : Int) (w : World) (hC : Kd.C (Kd.slice 5 (Kd.int .u8)) w A n l) (hc : n ≤ c) (hby : ∀ r ∈ l, ∀ x ∈ r, 0 ≤ x ∧ x < 256)
    (hLf : LaidAt w 0 firstA) (hL : LaidAt w 1 constA) :
    Calls Tryd.prog 7 #[.slice A n c, .int .i64 keep] w fun e w' => e = .returned (.bool true) ∧ Below w.heap.size w w' := by
  obtain rfl := hC.1
  exact lasts_calls A c l keep w hC hc hby hLf hL
end Go.Proofs.YtpndobhakmjglaaDoor.Store

