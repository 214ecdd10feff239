/-
  The script seat: numbers without bounds: of a word, powers of 2, as a word. The script seat: numbers without bounds: a product. The script seat: the reference's number.
-/
import Derived.Test.YtkoccbggjfbgaaaGreatDoorKSe
import Derived.Test.YtkoccbggjfbgaaaGreatDoorKSb
set_option linter.all false

section
open Go.Eng
set_option maxRecDepth 100000
set_option linter.unusedSimpArgs false
set_option linter.unusedVariables false
namespace Go.Proofs.YtkoccbggjfbgaaaGreatDoor
variable {X : Tr Nat}

theorem x_u (px : PX X) (x : Nat) (hx : x ≤ 18446744073709551615) (h : H) : ∃ r h', callS (EX X) 116 [.int .u64 (Int.ofNat x)] h = some (r, h') ∧ (Grows h h' ∧ IsBig h' r (Int.ofNat x)) := by
  refine call_of px.n116 (gf116 X) rfl (rs := [.cell 2 135]) rfl (m := 17) rfl ?_
  repeat (refine W.seq ?_)
  refine W.reg0 ?_
  simp only [opsA, oneA, wantedA, List.length_cons, List.length_nil, Nat.zero_add, Nat.reduceSub, Nat.reduceAdd, enterT, opnds, evs, opA, cls, newA, btX, beq_iff, Nat.reduceEqDiff, decide_false, zero135, plain, List.all_cons, List.all_nil, Bool.and_self, cellsL_agg, mk, putT, blt_iff, Nat.reduceLT, decide_true, litI, regW_some, thenW_normal]
  repeat (refine W.seq ?_)
  refine W.reg0 ?_
  simp only [opsA, oneA, wantedA, opnds, evs, opA, cls, newA, btX, beq_iff, Nat.reduceEqDiff, decide_false, zero135, plain, List.all_cons, List.all_nil, Bool.and_self, cellsL_agg, mk, H.next_new, putT, blt_iff, Nat.reduceLT, decide_true, regW_some, thenW_normal]
  obtain ⟨hg1, hA, hB, hn1⟩ := two_new h (.cells [.bool false, .slice none 0 0] 135) (.cells [.bool false, .slice none 0 0] 135)
  generalize (h.new (.cells [.bool false, .slice none 0 0] 135)).new (.cells [.bool false, .slice none 0 0] 135) = h1 at hg1 hA hB hn1 ⊢
  repeat (refine W.seq ?_)
  refine W.block ?_
  refine W.loop_inv (fun k a hh => ∃ out v, k ≤ x ∧ a.n = 17 ∧ Grows h hh ∧ h.next + 2 ≤ hh.next ∧ a.m.get 0 = some (.int .u64 (Int.ofNat k)) ∧ a.m.get 2 = some (.pointer (some ⟨h.next, 0, none⟩)) ∧ a.m.get 3 = some (.pointer (some ⟨h.next + 1, 0, none⟩)) ∧
    hh.get h.next = some (.cells [.bool false, .slice none 0 0] 135) ∧ hh.get (h.next + 1) = some (.cells [.bool false, v] 135) ∧ NewRow 3 h.next hh v out.length 1 (intC out) ∧ small out ∧ (k = 0 → lastNZ out) ∧
    bval out + 10000 ^ out.length * k = x) ?_ x _ _ ?_
  · intro k a hh ⟨out, v, hk, hn, hg, hnx, g0, g2, g3, hA, hB, hrow, hso, hlz, hval⟩
    obtain ⟨pv, sv, rfl⟩ := hrow.form
    repeat (refine W.seq ?_)
    refine W.reg0 ?_
    simp only [opsA, oneA, wantedA, opnds, evs, ev, g0, opA, cls, pureA, putT, hn, blt_iff, Nat.reduceLT, decide_true, Tr.get_set, reduceIte, plain, abin2, abin, dlt, regW_some, thenW_normal]
    repeat (refine W.seq ?_)
    refine W.cond2 ?_
    simp only [ev, Tr.get_set, Nat.reduceEqDiff, reduceIte, condW_bool, decide_eq_true_eq, decide_eq_false_iff_not]
    refine ⟨fun hpos => ?_, fun hz => ?_⟩
    · have hol : out.length ≤ 4 := by
        by_cases h5 : out.length ≤ 4
        · exact h5
        · have h6 := pow_le_pow (a := 5) (b := out.length) (by omega)
          have h7 : 10000 ^ out.length * 1 ≤ 10000 ^ out.length * k := Nat.mul_le_mul_left _ hpos
          omega
      obtain ⟨v4, h4, e4, hrow4, hle4, hlow4, hoth4⟩ := app_row (sl133 X) (b := h.next) (cs := intC out) (by rw [intC_length]; exact hrow) hg.next (.int .i64 (Int.ofNat (k % 10000))) rfl (by rw [intC_length]; omega)
      have e5 : intC out ++ [.int .i64 (Int.ofNat (k % 10000))] = intC (out ++ [k % 10000]) := by rw [intC_append]; rfl
      rw [e5, intC_length] at hrow4
      obtain ⟨p4, s4, rfl⟩ := hrow4.form
      have hA4 := (hoth4 h.next (by omega) (by rw [hA]; intro cs hc; simp at hc)).trans hA
      have hB4 := (hoth4 (h.next + 1) (by omega) (by rw [hB]; intro cs hc; simp at hc)).trans hB
      have hg4 : Grows h h4 := ⟨Nat.le_trans hg.next hle4, fun o ho => (hlow4 o ho).trans (hg.get o ho)⟩
      repeat (refine W.seq ?_)
      refine W.skip ?_
      simp only [thenW_normal]
      repeat (refine W.seq ?_)
      refine W.block ?_
      repeat (refine W.seq ?_)
      refine W.reg0 ?_
      simp only [opsA, oneA, wantedA, opnds, evs, ev, Tr.get_set, Nat.reduceEqDiff, g3, reduceIte, opA, cls, pureA, und135, List.getElem?_cons_succ, List.getElem?_cons_zero, size133, Nat.zero_add, putT, blt_iff, Nat.reduceLT, decide_true, loadA, agg133, loadC, rd, hB, seg, ofCells, g0, ite_self, plain, abin2, abin, remU k 10000 (by omega), und23, und3, wrapN (show k % 10000 ≤ 9223372036854775807 by omega), List.map_cons, List.map_nil, newA, und133, size3, zero3, litI, cellsN_int, beq_iff, Nat.mul_one, ble_iff, Nat.reduceLeDiff, repl, cellsL_int, List.append_nil, List.zip_cons_cons, List.zip_nil_left, fillA, splice, mk, effA, e4, cellsN_slice, wr, hB4, cellsL_slice, allc_cons, cellv, allc_nil, Bool.and_self, undef, regW_some, thenW_normal]
      repeat (refine W.seq ?_)
      refine W.reg0 ?_
      simp only [opsA, oneA, wantedA, opnds, evs, ev, Tr.get_set, Nat.reduceEqDiff, g0, ite_self, reduceIte, opA, cls, pureA, putT, blt_iff, Nat.reduceLT, decide_true, plain, abin2, abin, quoU (s := k) (m := 10000) (by omega) (by omega), pos1, regW_some, outB_normal, inv_normal, H.next_set, succ0, H.get_set]
      have h01 : ¬ h.next = h.next + 1 := by omega
      refine ⟨k / 10000, by omega, out ++ [k % 10000], .slice p4 (out ++ [k % 10000]).length s4, by omega, ?_⟩
      simp only [g2, g3]
      refine ⟨trivial, hg4.set (by omega) _, Nat.le_trans hnx hle4, trivial, trivial, trivial, ?_, (by first | trivial | rfl), hrow4.set_other hB4 (by decide) _, small_append hso (by omega), ?_, ?_⟩
      · rw [if_neg h01]; exact hA4
      · intro hz i hi
        have : i = out.length := by simpa using hi
        subst this
        rw [List.getD_eq_getElem?_getD, List.getElem?_append_right (Nat.le_refl _), Nat.sub_self]
        show k % 10000 ≠ 0
        omega
      · have e6 : bval (out ++ [k % 10000]) + 10000 ^ (out.length + 1) * (k / 10000) = bval out + 10000 ^ out.length * k := bval_step rfl (by omega)
        rw [List.length_append, List.length_singleton]
        rw [e6]; exact hval
    · have hk0 : k = 0 := by omega
      subst hk0
      rw [Nat.mul_zero, Nat.add_zero] at hval
      have hB2 : rd hh (h.next + 1) 0 2 = some [.bool false, .slice pv out.length sv] := rd_get hB rfl
      repeat (refine W.seq ?_)
      refine W.exit ?_
      simp only [not0, decide_false, thenW_exit, inv_exit, outB_exit, thenW_normal, reduceIte]
      repeat (refine W.seq ?_)
      refine W.reg0 ?_
      simp only [opsA, oneA, wantedA, opnds, evs, ev, Tr.get_set, Nat.reduceEqDiff, g3, reduceIte, opA, cls, loadA, agg135, loadC, size135, hB2, ofCells, putT, blt_iff, Nat.reduceLT, decide_true, g2, effA, cellsN_agg, List.size_toArray, List.length_cons, List.length_nil, Nat.zero_add, Nat.reduceAdd, beq_iff, wr, hA, cellsL_agg, allc_cons, cellv, allc_nil, Bool.and_self, splice, undef, regW_some, thenW_normal]
      repeat (refine W.seq ?_)
      refine W.ret ?_
      simp only [outW, resultA, resA, Tr.get_set, Nat.reduceEqDiff, g2, reduceIte, loadA, agg135, loadC, size135, rd, H.get_set, seg, ofCells]
      refine ⟨trivial, _, rfl, hg.set (Nat.le_refl _) _, pv, sv, out, ?_, (Dig.of_row hrow).2.set_other hA _, hso, hlz rfl, by rw [hval]; rfl, by show x < 10000 ^ 10; omega⟩
      rw [show decide (Int.ofNat x < 0) = false from by simp]
  · simp only [Tr.get_set, Nat.reduceEqDiff, Tr.get_nil, reduceIte, succ0]
    exact ⟨[], _, Nat.le_refl _, trivial, hg1, by omega, (by first | trivial | rfl), (by first | trivial | rfl), (by first | trivial | rfl), hA, hB, NewRow.nil _ _ _ _, by intro d hd; simp at hd, fun _ i hi => by simp at hi, by simp [bval]⟩

theorem x_n (px : PX X) (x : Nat) (hx : x ≤ 9223372036854775807) (h : H) : ∃ r h', callS (EX X) 85 [.int .i64 (Int.ofNat x)] h = some (r, h') ∧ (Grows h h' ∧ IsBig h' r (Int.ofNat x)) := by
  refine call_of px.n85 (gf85 X) rfl (rs := [.cell 2 135]) rfl (m := 17) rfl ?_
  repeat (refine W.seq ?_)
  refine W.reg0 ?_
  simp only [opsA, oneA, wantedA, List.length_cons, List.length_nil, Nat.zero_add, Nat.reduceSub, Nat.reduceAdd, enterT, opnds, evs, opA, cls, newA, btX, beq_iff, Nat.reduceEqDiff, decide_false, zero135, plain, List.all_cons, List.all_nil, Bool.and_self, cellsL_agg, mk, putT, blt_iff, Nat.reduceLT, decide_true, litI, regW_some, thenW_normal]
  have hg1 : Grows h (h.new (.cells [.bool false, .slice none 0 0] 135)) := (Grows.refl h).new _
  have hA : (h.new (.cells [.bool false, .slice none 0 0] 135)).get h.next = some (.cells [.bool false, .slice none 0 0] 135) := H.get_new' _ _
  have hn1 : (h.new (.cells [.bool false, .slice none 0 0] 135)).next = h.next + 1 := rfl
  generalize h.new (.cells [.bool false, .slice none 0 0] 135) = h1 at hg1 hA hn1 ⊢
  obtain ⟨r, h2, e2, hg2, hb2⟩ := x_u px x (by omega) h1
  have hA2 := (hg2.get h.next (by omega)).trans hA
  have hb2' := hb2
  obtain ⟨p, s, ds, rfl, hd⟩ := hb2
  repeat (refine W.seq ?_)
  refine W.reg0 ?_
  simp only [opsA, oneA, wantedA, opnds, evs, ev, Tr.get_set, Nat.reduceEqDiff, Tr.get_nil, reduceIte, opA, cls, pureA, putT, blt_iff, Nat.reduceLT, decide_true, succ0, plain, abin2, abin, dle, Nat.zero_le, regW_some, thenW_normal]
  repeat (refine W.seq ?_)
  refine W.cond2 ?_
  simp only [ev, Tr.get_set, Nat.reduceEqDiff, succ0, Tr.get_nil, reduceIte, condW_bool]
  refine ⟨fun _ => ?_, fun hc => (by simp at hc)⟩
  repeat (refine W.seq ?_)
  refine W.reg0 ?_
  simp only [opsA, oneA, wantedA, opnds, evs, ev, Tr.get_set, Nat.reduceEqDiff, Tr.get_nil, reduceIte, ite_self, opA, cls, pureA, putT, blt_iff, Nat.reduceLT, decide_true, succ0, und2, und23, wrapU (show x ≤ 18446744073709551615 by omega), List.nil_append, List.append_nil, e2, effA, size135, cellsN_agg, List.size_toArray, List.length_cons, List.length_nil, Nat.zero_add, Nat.reduceAdd, beq_iff, wr, hA2, cellsL_agg, allc_cons, cellv, allc_nil, Bool.and_self, splice, undef, regW_some, thenW_normal]
  repeat (refine W.seq ?_)
  refine W.ret ?_
  simp only [thenW_ret, outW, resultA, resA, Tr.get_set, Nat.reduceEqDiff, succ0, Tr.get_nil, reduceIte, loadA, agg135, loadC, size135, rd, H.get_set, seg, ofCells]
  exact ⟨trivial, _, rfl, (hg1.trans hg2).set (Nat.le_refl _) _, hb2'.set_other hA2 _⟩

theorem x_power (px : PX X) (n : Nat) (hn64 : n ≤ 64) (h : H) : ∃ r h', callS (EX X) 82 [.int .i64 (Int.ofNat n)] h = some (r, h') ∧ (Grows h h' ∧ IsBig h' r (Int.ofNat (2 ^ n))) := by
  refine call_of px.n82 (gf82 X) rfl (rs := [.cell 2 135]) rfl (m := 15) rfl ?_
  repeat (refine W.seq ?_)
  refine W.reg0 ?_
  simp only [opsA, oneA, wantedA, List.length_cons, List.length_nil, Nat.zero_add, Nat.reduceSub, Nat.reduceAdd, enterT, opnds, evs, opA, cls, newA, btX, beq_iff, Nat.reduceEqDiff, decide_false, zero135, plain, List.all_cons, List.all_nil, Bool.and_self, cellsL_agg, mk, putT, blt_iff, Nat.reduceLT, decide_true, litI, regW_some, thenW_normal]
  have hg1 : Grows h (h.new (.cells [.bool false, .slice none 0 0] 135)) := (Grows.refl h).new _
  have hA : (h.new (.cells [.bool false, .slice none 0 0] 135)).get h.next = some (.cells [.bool false, .slice none 0 0] 135) := H.get_new' _ _
  have hn1 : (h.new (.cells [.bool false, .slice none 0 0] 135)).next = h.next + 1 := rfl
  generalize h.new (.cells [.bool false, .slice none 0 0] 135) = h1 at hg1 hA hn1 ⊢
  obtain ⟨r, h2, e2, hg2, hb2⟩ := x_n px 1 (by omega) h1
  have hA2 := (hg2.get h.next (by omega)).trans hA
  have hle12 := hg2.next
  obtain ⟨p, s, ds, rfl, hd⟩ := hb2
  have hb2 : IsBig h2 (.agg #[.bool (decide (Int.ofNat 1 < 0)), .slice p ds.length s]) (Int.ofNat 1) := ⟨p, s, ds, rfl, hd⟩
  generalize decide (Int.ofNat 1 < 0) = nb at hb2 e2
  clear hd
  have hg3 : Grows h2 ((h2.new (.cells [.bool false, .slice none 0 0] 135)).set h2.next (.cells [.bool nb, .slice p ds.length s] 135)) := ((Grows.refl h2).new _).set (Nat.le_refl _) _
  have hB3 : ((h2.new (.cells [.bool false, .slice none 0 0] 135)).set h2.next (.cells [.bool nb, .slice p ds.length s] 135)).get h2.next = some (.cells [.bool nb, .slice p ds.length s] 135) := by rw [H.get_set, if_pos rfl]
  have hn3 : ((h2.new (.cells [.bool false, .slice none 0 0] 135)).set h2.next (.cells [.bool nb, .slice p ds.length s] 135)).next = h2.next + 1 := rfl
  repeat (refine W.seq ?_)
  refine W.reg0 ?_
  simp only [opsA, oneA, wantedA, opnds, evs, ev, plain, opA, cls, List.nil_append, List.append_nil, e2, putT, blt_iff, Nat.reduceLT, decide_true, newA, btX, beq_iff, Nat.reduceEqDiff, decide_false, zero135, List.all_cons, List.all_nil, Bool.and_self, cellsL_agg, mk, Tr.get_set, succ0, Tr.get_nil, reduceIte, effA, size135, cellsN_agg, List.size_toArray, List.length_cons, List.length_nil, Nat.zero_add, Nat.reduceAdd, wr, H.get_new, cellv, splice, undef, regW_some, thenW_normal]
  generalize (h2.new (.cells [.bool false, .slice none 0 0] 135)).set h2.next (.cells [.bool nb, .slice p ds.length s] 135) = h3 at hg3 hB3 hn3 ⊢
  repeat (refine W.seq ?_)
  refine W.reg0 ?_
  simp only [opsA, oneA, wantedA, opnds, evs, ev, plain, opA, cls, pureA, putT, blt_iff, Nat.reduceLT, decide_true, regW_some, thenW_normal]
  repeat (refine W.seq ?_)
  refine W.block ?_
  refine W.loop_inv (fun k a hh => ∃ i cs, k = n - i ∧ i ≤ n ∧ a.n = 15 ∧ Grows h hh ∧ h2.next + 1 ≤ hh.next ∧ a.m.get 0 = some (.int .i64 (Int.ofNat n)) ∧ a.m.get 2 = some (.pointer (some ⟨h.next, 0, none⟩)) ∧ a.m.get 3 = some (.pointer (some ⟨h2.next, 0, none⟩)) ∧ a.m.get 4 = some (.int .i64 (Int.ofNat i)) ∧
    hh.get h.next = some (.cells [.bool false, .slice none 0 0] 135) ∧ hh.get h2.next = some (.cells cs 135) ∧ IsBig hh (.agg cs.toArray) (Int.ofNat (2 ^ i))) ?_ n _ _ ?_
  · intro k a hh ⟨i, cs, hk, hi, hn, hg, hnx, g0, g2, g3, g4, hA, hB, hbig⟩
    obtain ⟨pv, sv, dv, ev, hdv⟩ := hbig
    have hcs : cs = [.bool (decide (Int.ofNat (2 ^ i) < 0)), .slice pv dv.length sv] := by
      have := congrArg Value.cells ev
      simpa [Value.cells] using this
    subst hcs
    have hbig : IsBig hh (.agg #[.bool (decide (Int.ofNat (2 ^ i) < 0)), .slice pv dv.length sv]) (Int.ofNat (2 ^ i)) := ⟨pv, sv, dv, rfl, hdv⟩
    clear hdv ev
    generalize decide (Int.ofNat (2 ^ i) < 0) = nv at hbig hB
    have hB2 : rd hh h2.next 0 2 = some [.bool nv, .slice pv dv.length sv] := rd_get hB rfl
    repeat (refine W.seq ?_)
    refine W.reg0 ?_
    simp only [opsA, oneA, wantedA, opnds, evs, ev, g4, opA, cls, pureA, putT, hn, blt_iff, Nat.reduceLT, decide_true, Tr.get_set, Nat.reduceEqDiff, g0, reduceIte, abin2, abin, dlt, regW_some, thenW_normal]
    repeat (refine W.seq ?_)
    refine W.cond2 ?_
    simp only [ev, Tr.get_set, Nat.reduceEqDiff, reduceIte, condW_bool, decide_eq_true_eq, decide_eq_false_iff_not]
    refine ⟨fun hlt => ?_, fun hge => ?_⟩
    · have hp2 : 2 ^ (i + 1) ≤ 2 ^ 64 := Nat.pow_le_pow_right (by omega) (by omega)
      have hsum : Int.ofNat (2 ^ i) + Int.ofNat (2 ^ i) = Int.ofNat (2 ^ (i + 1)) := by
        show ((2 ^ i : Nat) : Int) + ((2 ^ i : Nat) : Int) = ((2 ^ (i + 1) : Nat) : Int)
        rw [Nat.pow_succ]; omega
      obtain ⟨r5, h5, e5, hg5, hb5⟩ := x_add px _ _ (Int.ofNat (2 ^ i)) (Int.ofNat (2 ^ i)) hh hbig hbig (by rw [hsum]; show 2 ^ (i + 1) < 10000 ^ 10; omega)
      rw [hsum] at hb5
      have hb5' := hb5
      obtain ⟨p5, s5, d5, rfl, hd5⟩ := hb5
      have hA5 := (hg5.get h.next (by omega)).trans hA
      have hB5 := (hg5.get h2.next (by omega)).trans hB
      have hle5 := hg5.next
      have hne : ¬ h.next = h2.next := by omega
      repeat (refine W.seq ?_)
      refine W.skip ?_
      simp only [thenW_normal]
      repeat (refine W.seq ?_)
      refine W.block ?_
      repeat (refine W.seq ?_)
      refine W.reg0 ?_
      simp only [opsA, oneA, wantedA, opnds, evs, ev, Tr.get_set, Nat.reduceEqDiff, g3, reduceIte, opA, cls, loadA, agg135, loadC, size135, hB2, ofCells, putT, blt_iff, Nat.reduceLT, decide_true, ite_self, List.nil_append, List.append_nil, e5, effA, cellsN_agg, List.size_toArray, List.length_cons, List.length_nil, Nat.zero_add, Nat.reduceAdd, beq_iff, wr, hB5, cellsL_agg, allc_cons, cellv, allc_nil, Bool.and_self, splice, undef, regW_some, outB_normal, thenW_normal]
      repeat (refine W.seq ?_)
      refine W.reg0 ?_
      simp only [opsA, oneA, wantedA, opnds, evs, ev, Tr.get_set, Nat.reduceEqDiff, g4, ite_self, reduceIte, opA, cls, pureA, putT, blt_iff, Nat.reduceLT, decide_true, plain, abin2, abin, inc_nat (show i + 1 ≤ 9223372036854775807 by omega), regW_some, inv_normal, H.next_set, H.get_set]
      refine ⟨n - (i + 1), by omega, i + 1, [.bool (decide (Int.ofNat (2 ^ (i + 1)) < 0)), .slice p5 d5.length s5], rfl, by omega, ?_⟩
      simp only [g0, g2, g3]
      refine ⟨trivial, (hg.trans hg5).set (by omega) _, by omega, trivial, trivial, trivial, trivial, ?_, (by first | trivial | rfl), hb5'.set_other hB5 _⟩
      rw [if_neg hne]; exact hA5
    · have : i = n := by omega
      subst this
      repeat (refine W.seq ?_)
      refine W.exit ?_
      simp only [thenW_exit, inv_exit, outB_exit, thenW_normal, reduceIte]
      repeat (refine W.seq ?_)
      refine W.reg0 ?_
      simp only [opsA, oneA, wantedA, opnds, evs, ev, Tr.get_set, Nat.reduceEqDiff, g3, reduceIte, opA, cls, loadA, agg135, loadC, size135, hB2, ofCells, putT, blt_iff, Nat.reduceLT, decide_true, g2, effA, cellsN_agg, List.size_toArray, List.length_cons, List.length_nil, Nat.zero_add, Nat.reduceAdd, beq_iff, wr, hA, cellsL_agg, allc_cons, cellv, allc_nil, Bool.and_self, splice, undef, regW_some, thenW_normal]
      repeat (refine W.seq ?_)
      refine W.ret ?_
      simp only [outW, resultA, resA, Tr.get_set, Nat.reduceEqDiff, g2, reduceIte, loadA, agg135, loadC, size135, rd, H.get_set, seg, ofCells]
      exact ⟨trivial, _, rfl, hg.set (Nat.le_refl _) _, hbig.set_other hA _⟩
  · simp only [Tr.get_set, Nat.reduceEqDiff, Tr.get_nil, reduceIte, succ0]
    refine ⟨0, _, rfl, Nat.zero_le _, trivial, (hg1.trans hg2).trans hg3, by omega, (by first | trivial | rfl), (by first | trivial | rfl), (by first | trivial | rfl), (by first | trivial | rfl), (hg3.get h.next (by omega)).trans hA2, hB3, hb2.grows hg3⟩

theorem bval_drop_le (ds : List Nat) : ∀ i, bval (ds.drop i) ≤ bval ds
  | 0 => by simp
  | i + 1 => by
    have h1 := bval_drop_le ds i
    have h2 := bval_drop ds i
    omega

theorem x_word (px : PX X) (V : Value) (x : Nat) (hx : x ≤ 18446744073709551615) (h : H) (hV : IsBig h V (Int.ofNat x)) : ∃ r h', callS (EX X) 86 [V] h = some (r, h') ∧ (Grows h h' ∧ r = .int .u64 (Int.ofNat x)) := by
  obtain ⟨p, s, ds, rfl, hd, hs, hl, hv, hb⟩ := hV
  refine call_of px.n86 (gf86 X) rfl (rs := [.tmp 2]) rfl (m := 23) rfl ?_
  have hlen := canon_len hl (by rw [hv]; exact hb)
  have hv : bval ds = x := hv
  generalize decide (Int.ofNat x < 0) = na
  repeat (refine W.seq ?_)
  refine W.reg0 ?_
  simp only [opsA, oneA, wantedA, List.length_cons, List.length_nil, Nat.zero_add, Nat.reduceSub, Nat.reduceAdd, enterT, opnds, evs, ev, Tr.get_set, Tr.get_nil, reduceIte, opA, cls, newA, cellsL_agg, mk, putT, blt_iff, Nat.reduceLT, decide_true, litI, plain, pureA, regW_some, thenW_normal]
  have hg1 : Grows h (h.new (.cells [.bool na, .slice p ds.length s] 135)) := (Grows.refl h).new _
  have hA : (h.new (.cells [.bool na, .slice p ds.length s] 135)).get h.next = some (.cells [.bool na, .slice p ds.length s] 135) := H.get_new' _ _
  generalize h.new (.cells [.bool na, .slice p ds.length s] 135) = h1 at hg1 hA ⊢
  repeat (refine W.seq ?_)
  refine W.reg0 ?_
  simp only [opsA, oneA, wantedA, opnds, evs, ev, plain, opA, cls, pureA, putT, blt_iff, Nat.reduceLT, decide_true, regW_some, thenW_normal]
  repeat (refine W.seq ?_)
  refine W.reg0 ?_
  simp only [opsA, oneA, wantedA, opnds, evs, ev, Tr.get_set, Nat.reduceEqDiff, succ0, Tr.get_nil, reduceIte, opA, cls, pureA, und135, List.getElem?_cons_succ, List.getElem?_cons_zero, size133, Nat.zero_add, putT, blt_iff, Nat.reduceLT, decide_true, loadA, agg133, loadC, rd, hA, seg, ofCells, und133, castI, goInt_nat, plain, abin2, abin, idx_sub (show ds.length ≤ 1000000 by omega), regW_some, thenW_normal]
  repeat (refine W.seq ?_)
  refine W.block ?_
  refine W.loop_inv (fun k a hh => k ≤ ds.length ∧ a.n = 23 ∧ hh = h1 ∧ a.m.get 1 = some (.pointer (some ⟨h.next, 0, none⟩)) ∧ a.m.get 3 = some (.int .u64 (Int.ofNat (bval (ds.drop k)))) ∧ a.m.get 4 = some (.int .i64 (idxI k))) ?_ ds.length _ _ ?_
  · intro k a hh ⟨hk, hn, hhh, g1, g3, g4⟩
    subst hhh
    cases k with
    | zero =>
      repeat (refine W.seq ?_)
      refine W.reg0 ?_
      simp only [opsA, oneA, wantedA, opnds, evs, ev, g4, idxI, opA, cls, pureA, putT, hn, blt_iff, Nat.reduceLT, decide_true, Tr.get_set, reduceIte, plain, abin2, abin, idx_neg, regW_some, thenW_normal]
      repeat (refine W.seq ?_)
      refine W.cond2 ?_
      simp only [ev, Tr.get_set, Nat.reduceEqDiff, reduceIte, condW_bool]
      refine ⟨fun hc => (by simp at hc), fun _ => ?_⟩
      repeat (refine W.seq ?_)
      refine W.exit ?_
      simp only [thenW_exit, inv_exit, outB_exit, thenW_normal, reduceIte]
      repeat (refine W.seq ?_)
      refine W.reg0 ?_
      simp only [opsA, oneA, wantedA, opnds, evs, ev, Tr.get_set, Nat.reduceEqDiff, g3, List.drop_zero, reduceIte, opA, cls, pureA, putT, blt_iff, Nat.reduceLT, decide_true, regW_some, thenW_normal]
      repeat (refine W.seq ?_)
      refine W.ret ?_
      simp only [outW, resultA, resA, Tr.get_set, Nat.reduceEqDiff, reduceIte]
      exact ⟨trivial, _, rfl, hg1, by rw [hv]⟩
    | succ i =>
      obtain ⟨o, off, rfl, rfl, hr⟩ := (hd.grows hg1).at (i := i) (by omega)
      have hlt : i < ds.length := by omega
      have hrA : rd hh h.next 1 1 = some [.slice (some ⟨o, off, none⟩) ds.length 1] := rd_get hA rfl
      have h1 := bval_drop_le ds i
      have h2 := bval_drop ds i
      have hsub : IntKind.wrap .i64 (Int.ofNat i - Int.ofNat 1) = idxI i := idx_sub (by omega)
      repeat (refine W.seq ?_)
      refine W.reg0 ?_
      simp only [opsA, oneA, wantedA, opnds, evs, ev, g4, idxI, opA, cls, pureA, putT, hn, blt_iff, Nat.reduceLT, decide_true, Tr.get_set, reduceIte, plain, abin2, abin, dle, Nat.zero_le, regW_some, thenW_normal]
      repeat (refine W.seq ?_)
      refine W.cond2 ?_
      simp only [ev, Tr.get_set, Nat.reduceEqDiff, reduceIte, condW_bool]
      refine ⟨fun _ => ?_, fun hc => (by simp at hc)⟩
      repeat (refine W.seq ?_)
      refine W.skip ?_
      simp only [thenW_normal]
      repeat (refine W.seq ?_)
      refine W.block ?_
      repeat (refine W.seq ?_)
      refine W.reg0 ?_
      simp only [opsA, oneA, wantedA, opnds, evs, ev, Tr.get_set, Nat.reduceEqDiff, g3, reduceIte, opA, cls, pureA, putT, blt_iff, Nat.reduceLT, decide_true, plain, abin2, abin, mulU (i := 10000) (j := bval (ds.drop (i + 1))) (by omega), g1, und135, List.getElem?_cons_succ, List.getElem?_cons_zero, size133, Nat.zero_add, loadA, agg133, loadC, hrA, ofCells, g4, idxI, ite_self, und133, size3, hlt, Nat.mul_one, agg3, hr, und3, und23, wrapU (show ds.getD i 0 ≤ 18446744073709551615 by omega), addU (i := 10000 * bval (ds.drop (i + 1))) (j := ds.getD i 0) (by omega), regW_some, outB_normal, thenW_normal]
      repeat (refine W.seq ?_)
      refine W.reg0 ?_
      simp only [opsA, oneA, wantedA, opnds, evs, ev, Tr.get_set, Nat.reduceEqDiff, g4, idxI, ite_self, reduceIte, opA, cls, pureA, putT, blt_iff, Nat.reduceLT, decide_true, plain, abin2, abin, hsub, regW_some, inv_normal]
      refine ⟨i, Nat.lt_succ_self i, by omega, ?_⟩
      simp only [g1]
      rw [h2, Nat.add_comm]
      trivial
  · simp only [Tr.get_set, Nat.reduceEqDiff, succ0, Tr.get_nil, reduceIte]
    refine ⟨Nat.le_refl _, trivial, trivial, (by first | trivial | rfl), ?_, (by first | trivial | rfl)⟩
    rw [List.drop_of_length_le (Nat.le_refl _)]; rfl
end Go.Proofs.YtkoccbggjfbgaaaGreatDoor
end

section
open Go.Eng
set_option maxRecDepth 100000
set_option linter.unusedSimpArgs false
set_option linter.unusedVariables false
namespace Go.Proofs.YtkoccbggjfbgaaaGreatDoor
variable {X : Tr Nat}

theorem splice_one : ∀ (l : List Value) (j : Nat) (v : Value), j < l.length → splice l j [v] = some (l.set j v)
  | [], j, v, h => by simp at h
  | x :: r, 0, v, _ => by cases r <;> simp [splice]
  | x :: r, j + 1, v, h => by
    have := splice_one r j v (by simpa using h)
    simp [splice, this]
theorem intC_set (os : List Nat) (j e : Nat) : (intC os).set j (.int .i64 (Int.ofNat e)) = intC (os.set j e) := by
  simp [intC, List.map_set]
theorem repl_zero (n : Nat) : repl [Value.int .i64 (Int.ofNat 0)] n = intC (List.replicate n 0) := by
  induction n with
  | zero => rfl
  | succ n ih => rw [repl, ih]; rfl
theorem bval_zeros (n : Nat) : bval (List.replicate n 0) = 0 := by
  induction n with
  | zero => rfl
  | succ n ih => rw [List.replicate_succ, bval, ih]
theorem getD_zeros (n j : Nat) : (List.replicate n 0).getD j 0 = 0 := by
  rw [List.getD_eq_getElem?_getD, List.getElem?_replicate]
  split <;> rfl

theorem info3 (X : Tr Nat) : ∃ i, (EX X).T.get 3 = some i ∧ i.zero = some (.int .i64 (Int.ofNat 0)) ∧ i.size = 0 + 1 ∧ i.bytes = 8 := by
  have h1 := sl133 X
  have h2 := zero3 X
  unfold Env.zero at h2
  unfold sliceT at h1
  cases hT : (EX X).T.get 3 with
  | none => rw [hT] at h2; simp at h2
  | some i =>
    rw [hT] at h1 h2
    simp only [und133] at h1 h2
    refine ⟨i, rfl, h2, ?_⟩
    rw [h2] at h1
    simp only [Bool.and_eq_true, Nat.beq_eq] at h1
    exact ⟨h1.1.1.1.1.2, h1.1.2⟩

theorem x_mul (px : PX X) (V V' : Value) (x y : Nat) (h : H) (hV : IsBig h V (Int.ofNat x)) (hV' : IsBig h V' (Int.ofNat y)) (hxy : x * y < 10000 ^ 10) : ∃ r h', callS (EX X) 84 [V, V'] h = some (r, h') ∧ (Grows h h' ∧ IsBig h' r (Int.ofNat (x * y))) := by
  obtain ⟨p, s, ds, rfl, hd, hs, hl, hv, hb⟩ := hV
  obtain ⟨p', s', ds', rfl, hd', hs', hl', hv', hb'⟩ := hV'
  have hlen := canon_len hl (by rw [hv]; exact hb)
  have hlen' := canon_len hl' (by rw [hv']; exact hb')
  have hv : bval ds = x := hv
  have hv' : bval ds' = y := hv'
  rw [show decide (Int.ofNat x < 0) = false from by simp, show decide (Int.ofNat y < 0) = false from by simp]
  refine call_of px.n84 (gf84 X) rfl (rs := [.cell 4 135]) rfl (m := 71) rfl ?_
  repeat (refine W.seq ?_)
  refine W.reg0 ?_
  simp only [opsA, oneA, wantedA, List.length_cons, List.length_nil, Nat.zero_add, Nat.reduceAdd, Nat.reduceSub, enterT, opnds, evs, ev, Tr.get_set, Nat.reduceEqDiff, Tr.get_nil, reduceIte, opA, cls, newA, cellsL_agg, mk, putT, blt_iff, Nat.reduceLT, decide_true, succ0, H.next_new, btX, beq_iff, decide_false, zero135, plain, List.all_cons, List.all_nil, Bool.and_self, litI, regW_some, thenW_normal]
  obtain ⟨hg1, hA, hB, hC, hn1⟩ := three_new h (.cells [.bool false, .slice p ds.length s] 135) (.cells [.bool false, .slice p' ds'.length s'] 135) (.cells [.bool false, .slice none 0 0] 135)
  generalize ((h.new (.cells [.bool false, .slice p ds.length s] 135)).new (.cells [.bool false, .slice p' ds'.length s'] 135)).new (.cells [.bool false, .slice none 0 0] 135) = h1 at hg1 hA hB hC hn1 ⊢
  obtain ⟨i3, h3T, h3z, h3s, h3b⟩ := info3 X
  have hle1 : 8 * (ds.length + ds'.length + 1) ≤ 16777216 := by omega
  have hle2 : ds.length + ds'.length ≤ 16777215 := by omega
  repeat (refine W.seq ?_)
  refine W.reg0 ?_
  simp only [opsA, oneA, wantedA, opnds, evs, ev, Tr.get_set, Nat.reduceEqDiff, succ0, Tr.get_nil, reduceIte, opA, cls, pureA, und135, List.getElem?_cons_succ, List.getElem?_cons_zero, size133, Nat.zero_add, putT, blt_iff, Nat.reduceLT, decide_true, loadA, agg133, loadC, rd, hA, seg, ofCells, und133, castI, goInt_nat, hB, abin2, abin, add_nat (show ds.length + ds'.length ≤ 9223372036854775807 by omega), plain, add_nat (show ds.length + ds'.length + 1 ≤ 9223372036854775807 by omega), newA, h3T, h3z, h3s, cellsN_int, beq_iff, ble_iff, Nat.le_refl, h3b, hle1, Nat.reduceLeDiff, hle2, repl, cellsL_int, repl_zero, List.cons_append, List.nil_append, mk, regW_some, thenW_normal]
  obtain ⟨hgO, hO⟩ : Grows h1 (h1.new (.cells (Value.int .i64 (Int.ofNat 0) :: intC (List.replicate (ds.length + ds'.length) 0)) 3)) ∧ (h1.new (.cells (Value.int .i64 (Int.ofNat 0) :: intC (List.replicate (ds.length + ds'.length) 0)) 3)).get h1.next = some (.cells (intC (List.replicate (ds.length + ds'.length + 1) 0)) 3) := ⟨(Grows.refl _).new _, H.get_new' _ _⟩
  have hnO : (h1.new (.cells (Value.int .i64 (Int.ofNat 0) :: intC (List.replicate (ds.length + ds'.length) 0)) 3)).next = h1.next + 1 := rfl
  generalize h1.new (.cells (Value.int .i64 (Int.ofNat 0) :: intC (List.replicate (ds.length + ds'.length) 0)) 3) = h2 at hgO hO hnO ⊢
  have hA2 := (hgO.get h.next (by omega)).trans hA
  repeat (refine W.seq ?_)
  refine W.reg0 ?_
  simp only [opsA, oneA, wantedA, opnds, evs, ev, Tr.get_set, Nat.reduceEqDiff, succ0, Tr.get_nil, reduceIte, opA, cls, pureA, und135, List.getElem?_cons_succ, List.getElem?_cons_zero, size133, Nat.zero_add, putT, blt_iff, Nat.reduceLT, decide_true, loadA, agg133, loadC, rd, hA2, seg, ofCells, und133, castI, goInt_nat, plain, regW_some, thenW_normal]
  repeat (refine W.seq ?_)
  refine W.block ?_
  refine W.loop_inv (fun k a hh => ∃ i os, k = ds.length - i ∧ i ≤ ds.length ∧ a.n = 71 ∧ Grows h1 hh ∧ h1.next < hh.next ∧ hh.get h1.next = some (.cells (intC os) 3) ∧ os.length = ds.length + ds'.length + 1 ∧ small os ∧ a.m.get 2 = some (.pointer (some ⟨h.next, 0, none⟩)) ∧ a.m.get 3 = some (.pointer (some ⟨h.next + 1, 0, none⟩)) ∧ a.m.get 4 = some (.pointer (some ⟨h.next + 2, 0, none⟩)) ∧ a.m.get 5 = some (.slice (some ⟨h1.next, 0, none⟩) (ds.length + ds'.length + 1) 1) ∧ a.m.get 21 = some (.slice p ds.length s) ∧ a.m.get 22 = some (.int .i64 (Int.ofNat ds.length)) ∧ a.m.get 23 = some (.int .i64 (Int.ofNat i)) ∧
    (∀ j, i + ds'.length ≤ j → os.getD j 0 = 0) ∧ bval os = bval (ds.take i) * bval ds') ?_ ds.length _ _ ?_
  · intro k a hh ⟨i, os, hk, hi, hn, hg, hnx, hos, hol, hso, g2, g3, g4, g5, g21, g22, g23, hz0, hval⟩
    repeat (refine W.seq ?_)
    refine W.reg0 ?_
    simp only [opsA, oneA, wantedA, opnds, evs, ev, g23, g22, opA, cls, pureA, abin2, abin, decide_true, dlt, putT, hn, blt_iff, Nat.reduceLT, regW_some, thenW_normal]
    repeat (refine W.seq ?_)
    refine W.cond2 ?_
    simp only [ev, Tr.get_set, reduceIte, condW_bool, decide_eq_true_eq, decide_eq_false_iff_not]
    refine ⟨fun hlt => ?_, fun hge => ?_⟩
    · obtain ⟨oa, fa, rfl, rfl, hra⟩ := ((hd.grows hg1).grows hg).at hlt
      have hxd := getD_small hs i
      have htk := bval_take ds hlt
      generalize ds.getD i 0 = d at hxd hra htk
      repeat (refine W.seq ?_)
      refine W.skip ?_
      simp only [thenW_normal]
      repeat (refine W.seq ?_)
      refine W.block ?_
      repeat (refine W.seq ?_)
      refine W.reg0 ?_
      simp only [opsA, oneA, wantedA, hlt, decide_true, opnds, evs, ev, Tr.get_set, Nat.reduceEqDiff, g23, reduceIte, opA, cls, pureA, putT, blt_iff, Nat.reduceLT, g21, ite_self, und133, size3, Nat.mul_one, loadA, agg3, loadC, hra, ofCells, regW_some, thenW_normal]
      repeat (refine W.seq ?_)
      refine W.reg0 ?_
      simp only [opsA, oneA, wantedA, opnds, evs, ev, plain, opA, cls, pureA, putT, blt_iff, Nat.reduceLT, decide_true, regW_some, thenW_normal]
      repeat (refine W.seq ?_)
      refine W.reg0 ?_
      simp only [opsA, oneA, wantedA, opnds, evs, ev, plain, opA, cls, pureA, putT, blt_iff, Nat.reduceLT, decide_true, regW_some, thenW_normal]
      repeat (refine W.seq ?_)
      refine W.block ?_
      refine W.loop_inv (fun m a hh => ∃ k c os', m = ds'.length + 1 - k ∧ k ≤ ds'.length + 1 ∧ a.n = 71 ∧ Grows h1 hh ∧ h1.next < hh.next ∧ hh.get h1.next = some (.cells (intC os') 3) ∧ os'.length = ds.length + ds'.length + 1 ∧ small os' ∧ a.m.get 2 = some (.pointer (some ⟨h.next, 0, none⟩)) ∧ a.m.get 3 = some (.pointer (some ⟨h.next + 1, 0, none⟩)) ∧ a.m.get 4 = some (.pointer (some ⟨h.next + 2, 0, none⟩)) ∧ a.m.get 5 = some (.slice (some ⟨h1.next, 0, none⟩) (ds.length + ds'.length + 1) 1) ∧ a.m.get 21 = some (.slice (some ⟨oa, fa, none⟩) ds.length 1) ∧ a.m.get 22 = some (.int .i64 (Int.ofNat ds.length)) ∧ a.m.get 23 = some (.int .i64 (Int.ofNat i)) ∧
        a.m.get 6 = some (.int .i64 (Int.ofNat i)) ∧ a.m.get 7 = some (.int .i64 (Int.ofNat d)) ∧ a.m.get 8 = some (.int .i64 (Int.ofNat c)) ∧ a.m.get 9 = some (.int .i64 (Int.ofNat k)) ∧
        c < 10000 ∧ (k = ds'.length + 1 → c = 0) ∧ (∀ j, i + k ≤ j → os'.getD j 0 = os.getD j 0) ∧ bval os' + 10000 ^ (i + k) * (c + d * bval (ds'.drop k)) = bval os + 10000 ^ i * (d * bval ds')) ?_ (ds'.length + 1) _ _ ?_
      · clear g2 g3 g4 g5 g21 g22 g23 hn
        intro m a hh ⟨k, c, os', hm, hkk, hn, hg, hnx, hos', hol', hso', g2, g3, g4, g5, g21, g22, g23, g6, g7, g8, g9, hc, hck, hsame, hin⟩
        have hB' := (hg.get (h.next + 1) (by omega)).trans hB
        refine W.seq ?_
        refine W.cut (fun a' h' => h' = hh ∧ a'.n = 71 ∧ a'.m.get 2 = some (.pointer (some ⟨h.next, 0, none⟩)) ∧ a'.m.get 3 = some (.pointer (some ⟨h.next + 1, 0, none⟩)) ∧ a'.m.get 4 = some (.pointer (some ⟨h.next + 2, 0, none⟩)) ∧ a'.m.get 5 = some (.slice (some ⟨h1.next, 0, none⟩) (ds.length + ds'.length + 1) 1) ∧ a'.m.get 21 = some (.slice (some ⟨oa, fa, none⟩) ds.length 1) ∧ a'.m.get 22 = some (.int .i64 (Int.ofNat ds.length)) ∧ a'.m.get 23 = some (.int .i64 (Int.ofNat i)) ∧
          a'.m.get 6 = some (.int .i64 (Int.ofNat i)) ∧ a'.m.get 7 = some (.int .i64 (Int.ofNat d)) ∧ a'.m.get 8 = some (.int .i64 (Int.ofNat c)) ∧ a'.m.get 9 = some (.int .i64 (Int.ofNat k)) ∧ a'.m.get 36 = some (.bool (decide (k < ds'.length ∨ 0 < c)))) ?_ ?_
        · by_cases hkl : k < ds'.length
          · repeat (refine W.seq ?_)
            refine W.reg0 ?_
            simp only [opsA, oneA, wantedA, opnds, evs, ev, g9, opA, cls, pureA, putT, hn, blt_iff, Nat.reduceLT, decide_true, Tr.get_set, Nat.reduceEqDiff, g3, reduceIte, und135, List.getElem?_cons_succ, List.getElem?_cons_zero, size133, Nat.zero_add, loadA, agg133, loadC, rd, hB', seg, ofCells, und133, castI, goInt_nat, abin2, abin, dlt, hkl, beqTF, undef, plain, true_or, regW_some, cutQ_normal, g2, g4, g5, g21, g22, g23, g6, g7, g8, ite_self, and_self]
          · repeat (refine W.seq ?_)
            refine W.reg0 ?_
            simp only [opsA, oneA, wantedA, opnds, evs, ev, g9, opA, cls, pureA, putT, hn, blt_iff, Nat.reduceLT, decide_true, Tr.get_set, Nat.reduceEqDiff, g3, reduceIte, und135, List.getElem?_cons_succ, List.getElem?_cons_zero, size133, Nat.zero_add, loadA, agg133, loadC, rd, hB', seg, ofCells, und133, castI, goInt_nat, abin2, abin, dlt, hkl, decide_false, beqFF, g8, plain, false_or, regW_some, cutQ_normal, g2, g4, g5, g21, g22, g23, g6, g7, ite_self, and_self]
        · clear g2 g3 g4 g5 g21 g22 g23 g6 g7 g8 g9 hn
          intro a' h' ⟨hh', hn, g2, g3, g4, g5, g21, g22, g23, g6, g7, g8, g9, g36⟩
          subst hh'
          repeat (refine W.seq ?_)
          refine W.cond2 ?_
          simp only [ev, g36, condW_bool, decide_eq_true_eq, decide_eq_false_iff_not]
          refine ⟨fun hgo => ?_, fun hstop => ?_⟩
          · have hkle : k ≤ ds'.length := by
              rcases hgo with hgo | hgo
              · omega
              · by_cases hk1 : k = ds'.length + 1
                · have := hck hk1; omega
                · omega
            have hyb := getD_small hs' k
            have hjb := getD_small hso' (i + k)
            have hdr := bval_drop ds' k
            have hy0 : k = ds'.length → ds'.getD k 0 = 0 := fun e => getD_out (by omega)
            have hj0 : k = ds'.length → os'.getD (i + k) 0 = 0 := fun e => by rw [hsame _ (Nat.le_refl _)]; exact hz0 _ (by omega)
            obtain ⟨r3, h3, e3, hg3, rfl⟩ := x_digit px false p' s' ds' k h' ((hd'.grows hg1).grows hg)
            have hB3 := (hg3.get (h.next + 1) (by omega)).trans hB'
            have hO3 := (hg3.get h1.next (by omega)).trans hos'
            have hrB : rd h' (h.next + 1) 0 2 = some [.bool false, .slice p' ds'.length s'] := rd_get hB' rfl
            have hrO : rd h' h1.next (i + k) 1 = some [.int .i64 (Int.ofNat (os'.getD (i + k) 0))] := rd_get hos' (seg_one _ _ _ (intC_at (by omega)))
            have hrO3 : rd h3 h1.next (i + k) 1 = some [.int .i64 (Int.ofNat (os'.getD (i + k) 0))] := rd_get hO3 (seg_one _ _ _ (intC_at (by omega)))
            have hq := hd'.same false
            have hjl : i + k < ds.length + ds'.length + 1 := by omega
            have hin2 := hin
            rw [hdr] at hin2
            generalize hoj : os'.getD (i + k) 0 = oj at *
            generalize hyy : ds'.getD k 0 = y at *
            have hdy : d * y ≤ 9999 * 9999 := Nat.mul_le_mul (by omega) (by omega)
            have hsp : splice (intC os') (i + k) [.int .i64 (Int.ofNat ((oj + d * y + c) % 10000))] = some (intC (os'.set (i + k) ((oj + d * y + c) % 10000))) := by
              rw [splice_one _ _ _ (by rw [intC_length]; omega), intC_set]
            repeat (refine W.seq ?_)
            refine W.skip ?_
            simp only [thenW_normal]
            repeat (refine W.seq ?_)
            refine W.block ?_
            repeat (refine W.seq ?_)
            refine W.plan (st := [(7, 0, false), (8, 0, false), (9, 384, true), (0, 0, false), (1, 0, false), (2, 0, false), (3, 6, false), (4, 15, false), (5, 31, false), (6, 0, false), (10, 960, false), (11, 2047, false), (12, 0, false), (13, 8191, false), (14, 16383, true)]) (by kernel_rfl) ?_
            simp only [goP, List.getElem?_cons_succ, List.getElem?_cons_zero, stableD, wantedA, ev, g3, size135, hrB, List.length_cons, List.length_nil, Nat.zero_add, Nat.reduceAdd, stab_cons, hq, stab_nil, Bool.or_true, oneA, opnds, evs, opA, cls, loadA, agg135, loadC, ofCells, putT, hn, blt_iff, Nat.reduceLT, decide_true, Tr.get_set, Nat.reduceEqDiff, g9, reduceIte, pureA, List.nil_append, List.append_nil, e3, g5, g6, ite_self, abin2, abin, add_nat (show i + k ≤ 9223372036854775807 by omega), und133, size3, hjl, Nat.mul_one, hrO3, all1_cons, cell1, all1_nil, Bool.and_self, sameL_refl, hrO, agg3, g7, mul_nat (show d * y ≤ 9223372036854775807 by omega), add_nat (show oj + d * y ≤ 9223372036854775807 by omega), g8, add_nat (show oj + d * y + c ≤ 9223372036854775807 by omega), regW_some, thenW_normal]
            repeat (refine W.seq ?_)
            refine W.reg0 ?_
            simp only [opsA, oneA, wantedA, opnds, evs, ev, Tr.get_set, Nat.reduceEqDiff, g5, reduceIte, ite_self, opA, cls, pureA, putT, blt_iff, Nat.reduceLT, decide_true, g6, g9, abin2, abin, add_nat (show i + k ≤ 9223372036854775807 by omega), plain, rem_nat (oj + d * y + c) 10000 (by omega), und133, size3, hjl, Nat.mul_one, Nat.zero_add, effA, cellsN_int, beq_iff, wr, hO3, cellsL_int, allc_cons, cellv, allc_nil, Bool.and_self, hsp, undef, regW_some, thenW_normal]
            repeat (refine W.seq ?_)
            refine W.reg0 ?_
            simp only [opsA, oneA, wantedA, opnds, evs, ev, Tr.get_set, Nat.reduceEqDiff, reduceIte, ite_self, opA, cls, pureA, putT, blt_iff, Nat.reduceLT, decide_true, plain, abin2, abin, quo_nat (s := oj + d * y + c) (m := 10000) (by omega) (by omega), regW_some, outB_normal, thenW_normal]
            repeat (refine W.seq ?_)
            refine W.reg0 ?_
            simp only [opsA, oneA, wantedA, opnds, evs, ev, Tr.get_set, Nat.reduceEqDiff, g9, reduceIte, ite_self, opA, cls, pureA, putT, blt_iff, Nat.reduceLT, decide_true, plain, abin2, abin, inc_nat (show k + 1 ≤ 9223372036854775807 by omega), regW_some, inv_normal, H.next_set, H.get_set]
            refine ⟨ds'.length + 1 - (k + 1), by omega, k + 1, (oj + d * y + c) / 10000, os'.set (i + k) ((oj + d * y + c) % 10000), rfl, by omega, ?_⟩
            simp only [g2, g3, g4, g5, g21, g22, g23, g6, g7, Nat.reduceEqDiff]
            refine ⟨trivial, (hg.trans hg3).set (Nat.le_refl _) _, by have := hg3.next; omega, (by first | trivial | rfl), by rw [List.length_set]; exact hol', small_set hso' _ (by omega), trivial, trivial, trivial, trivial, trivial, trivial, trivial, trivial, trivial, trivial, trivial, by omega, ?_, ?_, ?_⟩
            · intro e
              have e1 := hy0 (by omega)
              have e2 := hj0 (by omega)
              subst e1; subst e2
              omega
            · intro j hj
              rw [List.getD_eq_getElem?_getD, List.getElem?_set_ne (by omega), ← List.getD_eq_getElem?_getD]
              exact hsame j (by omega)
            · exact bval_cell (by omega) (by rw [hoj]; omega) hin2
          · have hc0 : c = 0 := by omega
            have hdr : bval (ds'.drop k) = 0 := by rw [List.drop_of_length_le (by omega)]; rfl
            rw [hc0, hdr, Nat.mul_zero, Nat.add_zero, Nat.mul_zero, Nat.add_zero] at hin
            repeat (refine W.seq ?_)
            refine W.exit ?_
            simp only [thenW_exit, inv_exit, outB_exit, outB_normal, thenW_normal, Nat.reduceEqDiff, succ0, reduceIte]
            repeat (refine W.seq ?_)
            refine W.reg0 ?_
            simp only [opsA, oneA, wantedA, opnds, evs, ev, g23, plain, opA, cls, pureA, abin2, abin, decide_true, inc_nat (show i + 1 ≤ 9223372036854775807 by omega), putT, hn, blt_iff, Nat.reduceLT, Tr.get_set, reduceIte, regW_some, inv_normal, Nat.reduceEqDiff]
            refine ⟨ds.length - (i + 1), by omega, i + 1, os', rfl, by omega, ?_⟩
            simp only [g2, g3, g4, g5, g21, g22]
            refine ⟨trivial, hg, hnx, hos', hol', hso', trivial, trivial, trivial, trivial, trivial, trivial, trivial, fun j hj => ?_, ?_⟩
            · rw [hsame j (by omega)]; exact hz0 j (by omega)
            · rw [hin, hval, htk, Nat.add_mul, Nat.mul_assoc]
      · simp only [Tr.get_set, Nat.reduceEqDiff, g2, reduceIte, g3, g4, g5, g21, g22, g23, ite_self]
        exact ⟨0, 0, os, rfl, Nat.zero_le _, trivial, hg, hnx, hos, hol, hso, trivial, trivial, trivial, trivial, trivial, trivial, trivial, (by first | trivial | rfl), (by first | trivial | rfl), (by first | trivial | rfl), (by first | trivial | rfl), by omega, fun e => rfl, fun j _ => rfl, by simp⟩
    · have hil : i = ds.length := by omega
      rw [List.take_of_length_le (by omega), hv, hv'] at hval
      have hA' := (hg.get h.next (by omega)).trans hA
      have hB' := (hg.get (h.next + 1) (by omega)).trans hB
      have hC' := (hg.get (h.next + 2) (by omega)).trans hC
      have hrow : NewRow 3 0 hh (.slice (some ⟨h1.next, 0, none⟩) (ds.length + ds'.length + 1) 1) os.length 1 (intC os) := .inr ⟨h1.next, Nat.zero_le _, hnx, by rw [hol], hos, by rw [intC_length, Nat.mul_one]⟩
      have hdo : Dig hh (some ⟨h1.next, 0, none⟩) 1 os := (Dig.of_row hrow).2
      obtain ⟨r3, h3, e3, hg3, p3, s3, es3, rfl, hd3, hs3, hl3, hv3⟩ := x_trim px false (some ⟨h1.next, 0, none⟩) 1 os hh hdo hso (by omega)
      rw [hol] at e3
      have hC3 := (hg3.get (h.next + 2) (by omega)).trans hC'
      have haeq : aeq (EX X) 20 4 (.bool false) (.bool false) = some true := by simp only [aeq, und4, beqFF]
      repeat (refine W.seq ?_)
      refine W.exit ?_
      simp only [thenW_exit, inv_exit, outB_exit, thenW_normal, reduceIte]
      repeat (refine W.seq ?_)
      refine W.reg0 ?_
      simp only [opsA, oneA, wantedA, opnds, evs, ev, Tr.get_set, Nat.reduceEqDiff, g2, reduceIte, opA, cls, pureA, und135, List.getElem?_cons_zero, size4, Nat.add_zero, putT, blt_iff, Nat.reduceLT, decide_true, loadA, agg4, loadC, rd, hA', seg, ofCells, g3, hB', ite_self, abin2, abin, isEq, haeq, beqTF, g5, List.map_cons, List.map_nil, zero135, plain, List.all_cons, List.all_nil, Bool.and_self, cellsL_agg, List.zip_cons_cons, List.zip_nil_left, fillA, placeS, cellsN_bool, beq_iff, cellsL_bool, splice, List.getElem?_cons_succ, size133, cellsN_slice, cellsL_slice, List.nil_append, List.append_nil, e3, Bool.false_and, g4, effA, size135, cellsN_agg, List.size_toArray, List.length_cons, List.length_nil, Nat.zero_add, Nat.reduceAdd, wr, hC3, cellv, undef, regW_some, thenW_normal]
      repeat (refine W.seq ?_)
      refine W.ret ?_
      simp only [outW, resultA, resA, Tr.get_set, Nat.reduceEqDiff, g4, reduceIte, loadA, agg135, loadC, size135, rd, H.get_set, seg, ofCells]
      refine ⟨trivial, _, rfl, ((hg1.trans hg).trans hg3).set (by omega) _, p3, s3, es3, ?_, hd3.set_other hC3 _, hs3, hl3, by rw [hv3, hval]; rfl, hxy⟩
      rw [show decide (Int.ofNat (x * y) < 0) = false from by rw [decide_eq_false_iff_not]; show ¬ ((x * y : Nat) : Int) < 0; omega]
  · simp only [Tr.get_set, Nat.reduceEqDiff, succ0, Tr.get_nil, reduceIte]
    exact ⟨0, List.replicate (ds.length + ds'.length + 1) 0, rfl, Nat.zero_le _, trivial, hgO, by omega, hO, by simp, by intro d hd; have := List.eq_of_mem_replicate hd; omega, (by first | trivial | rfl), (by first | trivial | rfl), (by first | trivial | rfl), (by first | trivial | rfl), (by first | trivial | rfl), (by first | trivial | rfl), (by first | trivial | rfl), fun j _ => getD_zeros _ _, by rw [bval_zeros]; simp [bval]⟩
end Go.Proofs.YtkoccbggjfbgaaaGreatDoor
end

section
open Go.Eng
set_option maxRecDepth 100000
set_option linter.unusedSimpArgs false
set_option linter.unusedVariables false
namespace Go.Proofs.YtkoccbggjfbgaaaGreatDoor
variable {X : Tr Nat}

def numL : Nat → List UInt8 → Nat
  | n, [] => n
  | n, c :: r => numL (if n < 18446744073709551616 then n * 10 + (c.toNat - 48) else n) r
theorem numL_big : ∀ (l : List UInt8) (n : Nat), 18446744073709551616 ≤ n → numL n l = n
  | [], n, _ => rfl
  | c :: r, n, h => by rw [numL, if_neg (by omega)]; exact numL_big r n h
theorem parse_numL : ∀ (l : List UInt8) (acc : Nat), acc < 18446744073709551616 → l.all isDig = true → Lib.parseUint10 acc l = if numL acc l < 18446744073709551616 then .ok (numL acc l) else .range
  | [], acc, h, _ => by rw [Lib.parseUint10, numL, if_pos h]
  | c :: r, acc, h, hd => by
    simp only [List.all_cons, isDig, Bool.and_eq_true, decide_eq_true_eq] at hd
    have hr : r.all isDig = true := by simpa [isDig] using hd.2
    rw [Lib.parseUint10, if_pos hd.1, numL, if_pos h]
    split
    · rw [numL_big _ _ (by omega), if_neg (by omega)]
    · split
      · rw [numL_big _ _ (by omega), if_neg (by omega)]
      · exact parse_numL r _ (by omega) hr
theorem sub8 {i j : Nat} (h : j ≤ i) (hi : i < 256) : IntKind.wrap .u8 (Int.ofNat i - Int.ofNat j) = Int.ofNat (i - j) := by
  have : (Int.ofNat i - Int.ofNat j) = Int.ofNat (i - j) := by
    show (i : Int) - (j : Int) = ((i - j : Nat) : Int)
    omega
  rw [this]; exact wrap8 (by omega)
theorem pow64 : 2 ^ 64 = 18446744073709551616 := by rfl
theorem neg_lt0 : decide ((-1 : Int) < Int.ofNat 0) = true := rfl
theorem neg_ge0 : decide ((-1 : Int) ≥ Int.ofNat 0) = false := rfl

theorem x_rnumber (px : PX X) (w : List UInt8) (hw : w.length ≤ 900000) (h : H) : ∃ v h', callS (EX X) 51 [.string (bsOf w)] h = some (v, h') ∧ Grows h h' ∧ v = .tuple #[.int .u64 (Int.ofNat (numS w).1), .int .i64 (Int.ofNat (numS w).2)] := by
  refine call_of px.n51 (gf51 X) rfl (rs := [.tmp 2, .tmp 3]) rfl (m := 55) rfl ?_
  match w, hw with
  | [], hw =>
    repeat (refine W.seq ?_)
    refine W.reg0 ?_
    simp only [opsA, oneA, wantedA, List.length_cons, List.length_nil, Nat.zero_add, Nat.reduceSub, Nat.reduceAdd, enterT, opnds, litI, evs, ev, plain, opA, cls, pureA, putT, blt_iff, Nat.reduceLT, decide_true, regW_some, thenW_normal]
    repeat (refine W.seq ?_)
    refine W.reg0 ?_
    simp only [opsA, oneA, wantedA, opnds, evs, ev, Tr.get_set, Nat.reduceEqDiff, Tr.get_nil, reduceIte, opA, cls, pureA, putT, blt_iff, Nat.reduceLT, decide_true, succ0, und9, castI, goInt_nat, plain, abin2, abin, deq, List.getElem?_cons_succ, List.getElem?_cons_zero, ite_self, undef, isEq, litO, bounds2, bound, ble_iff, beq_iff]
    repeat (refine W.seq ?_)
    refine W.cond2 ?_
    simp only [ev, Tr.get_set, Nat.reduceEqDiff, succ0, Tr.get_nil, reduceIte, condW_bool]
    refine ⟨fun _ => ?_, fun hc => (by simp at hc)⟩
    repeat (refine W.seq ?_)
    refine W.reg0 ?_
    simp only [opsA, oneA, wantedA, opnds, evs, ev, plain, opA, cls, pureA, putT, blt_iff, Nat.reduceLT, decide_true, regW_some, thenW_normal]
    repeat (refine W.seq ?_)
    refine W.ret ?_
    simp only [thenW_ret, outW, resultA, resA, Tr.get_set, Nat.reduceEqDiff, succ0, Tr.get_nil, reduceIte, ite_self]
    exact ⟨trivial, _, rfl, Grows.refl _, rfl⟩
  | x :: r, hw =>
    have hsz : (bsOf (x :: r)).size = r.length + 1 := by rw [bsOf_size]; rfl
    repeat (refine W.seq ?_)
    refine W.reg0 ?_
    simp only [opsA, oneA, wantedA, List.length_cons, List.length_nil, Nat.zero_add, Nat.reduceSub, Nat.reduceAdd, enterT, opnds, litI, evs, ev, plain, opA, cls, pureA, putT, blt_iff, Nat.reduceLT, decide_true, regW_some, thenW_normal]
    refine W.cut (fun a h' => a.n = 55 ∧ h' = h ∧ a.m.get 0 = some (.string (bsOf (x :: r))) ∧ ¬ (x = 48 ∧ r ≠ [])) ?_ ?_
    · cases r with
      | nil =>
        repeat (refine W.seq ?_)
        refine W.reg0 ?_
        simp only [opsA, oneA, wantedA, opnds, evs, ev, Tr.get_set, Nat.reduceEqDiff, Tr.get_nil, reduceIte, opA, cls, pureA, putT, blt_iff, Nat.reduceLT, decide_true, succ0, und9, hsz, List.length_nil, Nat.zero_add, castI, goInt_nat, plain, abin2, abin, deq, decide_false, List.getElem?_cons_succ, List.getElem?_cons_zero, beqFF, ite_self, dlt, beqFT, undef, regW_some, thenW_normal]
        repeat (refine W.seq ?_)
        refine W.cond2 ?_
        simp only [ev, Tr.get_set, Nat.reduceEqDiff, succ0, Tr.get_nil, reduceIte, condW_bool]
        refine ⟨fun hc => (by simp at hc), fun _ => ?_⟩
        repeat (refine W.seq ?_)
        refine W.skip ?_
        simp only [cutQ_normal, Tr.get_set, Nat.reduceEqDiff, Tr.get_nil, reduceIte, ite_self]
        exact ⟨trivial, trivial, trivial, fun hc => hc.2 rfl⟩
      | cons y r =>
        have hlt : 1 < r.length + 1 + 1 := by omega
        repeat (refine W.seq ?_)
        refine W.reg0 ?_
        simp only [opsA, oneA, wantedA, opnds, evs, ev, Tr.get_set, reduceCtorEq, Tr.get_nil, reduceIte, opA, cls, pureA, putT, blt_iff, Nat.reduceLT, decide_true, Nat.reduceEqDiff, succ0, und9, hsz, List.length_cons, castI, goInt_nat, plain, abin2, abin, deq, decide_false, List.getElem?_cons_succ, List.getElem?_cons_zero, beqFF, ite_self, dlt, hlt, beqTT, bsOf_list, regW_some, thenW_normal]
        repeat (refine W.seq ?_)
        refine W.cond2 ?_
        simp only [ev, Tr.get_set, Nat.reduceEqDiff, succ0, Tr.get_nil, reduceIte, condW_bool, decide_eq_true_eq, decide_eq_false_iff_not]
        refine ⟨fun hc => ?_, fun hc => ?_⟩
        · have hx : x = 48 := UInt8.toNat_inj.1 hc
          subst hx
          repeat (refine W.seq ?_)
          refine W.reg0 ?_
          simp only [opsA, oneA, wantedA, opnds, evs, ev, plain, opA, cls, pureA, putT, blt_iff, Nat.reduceLT, decide_true, regW_some, thenW_normal]
          repeat (refine W.seq ?_)
          refine W.ret ?_
          simp only [cutQ_ret, outW, resultA, resA, Tr.get_set, Nat.reduceEqDiff, succ0, Tr.get_nil, reduceIte, ite_self]
          exact ⟨trivial, _, rfl, Grows.refl _, rfl⟩
        · repeat (refine W.seq ?_)
          refine W.skip ?_
          simp only [cutQ_normal, Tr.get_set, Nat.reduceEqDiff, Tr.get_nil, reduceIte, ite_self]
          exact ⟨trivial, trivial, trivial, fun hc2 => hc (by rw [hc2.1]; rfl)⟩
    · intro a h' ⟨hn, hh, g0, hz⟩
      subst hh
      have hg1 : Grows h' (h'.new (.cells [.bool false, .slice none 0 0] 135)) := (Grows.refl h').new _
      have hA : (h'.new (.cells [.bool false, .slice none 0 0] 135)).get h'.next = some (.cells [.bool false, .slice none 0 0] 135) := H.get_new' _ _
      have hn1 : (h'.new (.cells [.bool false, .slice none 0 0] 135)).next = h'.next + 1 := rfl
      repeat (refine W.seq ?_)
      refine W.reg0 ?_
      simp only [opsA, oneA, wantedA, opnds, evs, opA, cls, newA, btX, beq_iff, Nat.reduceEqDiff, decide_false, zero135, plain, List.all_cons, List.all_nil, Bool.and_self, cellsL_agg, mk, putT, hn, blt_iff, Nat.reduceLT, decide_true, regW_some, thenW_normal]
      generalize h'.new (.cells [.bool false, .slice none 0 0] 135) = h1 at hg1 hA hn1 ⊢
      repeat (refine W.seq ?_)
      refine W.reg0 ?_
      simp only [opsA, oneA, wantedA, opnds, evs, ev, plain, opA, cls, pureA, putT, blt_iff, Nat.reduceLT, decide_true, regW_some, thenW_normal]
      repeat (refine W.seq ?_)
      refine W.block ?_
      refine W.loop_inv (fun k a hh => ∃ i n cs, k = (x :: r).length - i ∧ i ≤ (x :: r).length ∧ a.n = 55 ∧ Grows h' hh ∧ h'.next < hh.next ∧ hh.get h'.next = some (.cells cs 135) ∧ IsBig hh (.agg cs.toArray) (Int.ofNat n) ∧ n ≤ 184467440737095516169 ∧ a.m.get 0 = some (.string (bsOf (x :: r))) ∧ a.m.get 4 = some (.pointer (some ⟨h'.next, 0, none⟩)) ∧ a.m.get 5 = some (.int .i64 (.ofNat i)) ∧ ((x :: r).take i).all isDig = true ∧ numL n ((x :: r).drop i) = numL 0 (x :: r)) ?_ (x :: r).length _ _ ?_
      · intro k a hh ⟨i, n, cs, hk, hi, hn, hg, hnx, hcs, hbig, hnb, g0, g4, g5, hd, hnum⟩
        obtain ⟨pv, sv, dv, ev, hdv⟩ := hbig
        have hcse : cs = [.bool (decide (Int.ofNat n < 0)), .slice pv dv.length sv] := by
          have := congrArg Value.cells ev
          simpa [Value.cells] using this
        subst hcse
        have hq := hdv.1.same (decide (Int.ofNat n < 0))
        have hbig : IsBig hh (.agg #[.bool (decide (Int.ofNat n < 0)), .slice pv dv.length sv]) (Int.ofNat n) := ⟨pv, sv, dv, rfl, hdv⟩
        clear hdv ev
        generalize decide (Int.ofNat n < 0) = nv at hbig hcs hq
        have hrd : rd hh h'.next 0 2 = some [.bool nv, .slice pv dv.length sv] := rd_get hcs rfl
        obtain ⟨rp, h2, e2, hg2, hbp⟩ := x_power px 64 (by omega) hh
        rw [pow64] at hbp
        have hcs2 := (hg2.get _ hnx).trans hcs
        have hrd2 : rd h2 h'.next 0 2 = some [.bool nv, .slice pv dv.length sv] := rd_get hcs2 rfl
        obtain ⟨rc, h3, e3, hg3, hrc⟩ := x_cmp px _ _ (Int.ofNat n) (Int.ofNat 18446744073709551616) h2 (hbig.grows hg2) hbp (by show ((n : Int) - 18446744073709551616).natAbs < 10000 ^ 10; omega)
        have hcs3 := (hg3.get _ (Nat.lt_of_lt_of_le hnx hg2.next)).trans hcs2
        have hrd3 : rd h3 h'.next 0 2 = some [.bool nv, .slice pv dv.length sv] := rd_get hcs3 rfl
        have hg13 := hg2.trans hg3
        have hnx3 : h'.next < h3.next := by have := hg13.next; omega
        repeat (refine W.seq ?_)
        refine W.reg0 ?_
        simp only [opsA, oneA, wantedA, opnds, evs, ev, g5, opA, cls, pureA, putT, hn, blt_iff, Nat.reduceLT, decide_true, Tr.get_set, Nat.reduceEqDiff, g0, reduceIte, und9, hsz, castI, goInt_nat, abin2, abin, dlt, List.length_cons, regW_some, thenW_normal]
        repeat (refine W.seq ?_)
        refine W.cond2 ?_
        simp only [ev, Tr.get_set, Nat.reduceEqDiff, reduceIte, condW_bool, decide_eq_true_eq, decide_eq_false_iff_not]
        refine ⟨fun hlt => ?_, fun hge => ?_⟩
        · have hlt' : i < (x :: r).length := hlt
          have hat : (x :: r)[i]? = some ((x :: r)[i]'hlt') := List.getElem?_eq_getElem _
          have hdrop : (x :: r).drop i = (x :: r)[i]'hlt' :: (x :: r).drop (i + 1) := List.drop_eq_getElem_cons hlt'
          have htake : (x :: r).take (i + 1) = (x :: r).take i ++ [(x :: r)[i]'hlt'] := by rw [List.take_add_one, hat]; rfl
          rw [hdrop, numL] at hnum
          have hall : (isDig ((x :: r)[i]'hlt') = false) → (x :: r).all isDig = false := by
            intro hf
            rw [Bool.eq_false_iff]
            intro hc
            rw [List.all_eq_true] at hc
            have := hc _ (List.getElem_mem hlt')
            rw [hf] at this; simp at this
          generalize (x :: r)[i]'hlt' = c at hat hnum htake hall
          repeat (refine W.seq ?_)
          refine W.skip ?_
          simp only [thenW_normal]
          repeat (refine W.seq ?_)
          refine W.block ?_
          by_cases hlo : c.toNat < 48
          · repeat (refine W.seq ?_)
            refine W.reg0 ?_
            simp only [opsA, oneA, wantedA, opnds, evs, ev, Tr.get_set, Nat.reduceEqDiff, g0, reduceIte, ite_self, opA, cls, pureA, putT, blt_iff, Nat.reduceLT, decide_true, g5, und9, bsOf_list, hat, castI, plain, abin2, abin, dlt, hlo, List.getElem?_cons_succ, List.getElem?_cons_zero, beqTF, undef, regW_some, thenW_normal]
            repeat (refine W.seq ?_)
            refine W.cond2 ?_
            simp only [ev, Tr.get_set, Nat.reduceEqDiff, reduceIte, condW_bool]
            refine ⟨fun _ => ?_, fun hc => (by simp at hc)⟩
            repeat (refine W.seq ?_)
            refine W.reg0 ?_
            simp only [opsA, oneA, wantedA, opnds, evs, ev, plain, opA, cls, pureA, putT, blt_iff, Nat.reduceLT, decide_true, regW_some, thenW_normal]
            repeat (refine W.seq ?_)
            refine W.ret ?_
            simp only [thenW_ret, outB_ret, inv_ret, outW, resultA, resA, Tr.get_set, Nat.reduceEqDiff, reduceIte]
            rw [numS_else hz, hall (isDig_lo hlo)]
            exact ⟨trivial, _, rfl, hg, rfl⟩
          · repeat (refine W.seq ?_)
            refine W.reg0 ?_
            simp only [opsA, oneA, wantedA, opnds, evs, ev, Tr.get_set, Nat.reduceEqDiff, g0, reduceIte, ite_self, opA, cls, pureA, putT, blt_iff, Nat.reduceLT, decide_true, g5, und9, bsOf_list, hat, castI, plain, abin2, abin, dlt, hlo, decide_false, List.getElem?_cons_succ, List.getElem?_cons_zero, beqFF, regW_some, thenW_normal]
            repeat (refine W.seq ?_)
            refine W.cond2 ?_
            simp only [ev, Tr.get_set, Nat.reduceEqDiff, reduceIte, condW_bool, decide_eq_true_eq, decide_eq_false_iff_not]
            refine ⟨fun hhi => ?_, fun hhi => ?_⟩
            · repeat (refine W.seq ?_)
              refine W.reg0 ?_
              simp only [opsA, oneA, wantedA, opnds, evs, ev, plain, opA, cls, pureA, putT, blt_iff, Nat.reduceLT, decide_true, regW_some, thenW_normal]
              repeat (refine W.seq ?_)
              refine W.ret ?_
              simp only [thenW_ret, outB_ret, inv_ret, outW, resultA, resA, Tr.get_set, Nat.reduceEqDiff, reduceIte]
              rw [numS_else hz, hall (isDig_hi hhi)]
              exact ⟨trivial, _, rfl, hg, rfl⟩
            · have hdig := isDig_in hlo hhi
              have hd' : ((x :: r).take (i + 1)).all isDig = true := by
                rw [htake, List.all_append, hd, List.all_cons, List.all_nil, hdig]; rfl
              have hc8 : c.toNat < 256 := UInt8.toNat_lt c
              repeat (refine W.seq ?_)
              refine W.skip ?_
              simp only [thenW_normal]
              by_cases hsm : n < 18446744073709551616
              · rw [if_pos (by show ((n : Int) - 18446744073709551616) < 0; omega)] at hrc
                rw [if_pos hsm] at hnum
                subst hrc
                obtain ⟨r4, h4, e4, hg4, hb4⟩ := x_n px 10 (by omega) h3
                have hcs4 := (hg4.get _ hnx3).trans hcs3
                have hrd4 : rd h4 h'.next 0 2 = some [.bool nv, .slice pv dv.length sv] := rd_get hcs4 rfl
                obtain ⟨r5, h5, e5, hg5, hb5⟩ := x_mul px _ _ n 10 h4 ((hbig.grows hg13).grows hg4) hb4 (by omega)
                obtain ⟨r6, h6, e6, hg6, hb6⟩ := x_n px (c.toNat - 48) (by omega) h5
                obtain ⟨r7, h7, e7, hg7, hb7⟩ := x_add px _ _ (Int.ofNat (n * 10)) (Int.ofNat (c.toNat - 48)) h6 (hb5.grows hg6) hb6 (by show (((n * 10 : Nat) : Int) + ((c.toNat - 48 : Nat) : Int)).natAbs < 10000 ^ 10; omega)
                have hb7 : IsBig h7 r7 (Int.ofNat (n * 10 + (c.toNat - 48))) := hb7
                have hg37 := ((hg4.trans hg5).trans hg6).trans hg7
                have hcs7 := (hg37.get _ hnx3).trans hcs3
                have hb7' := hb7
                obtain ⟨p7, s7, d7, rfl, _⟩ := hb7
                repeat (refine W.seq ?_)
                refine W.plan (st := [(1, 0, true), (0, 0, false), (2, 3, true), (3, 7, false)]) (by kernel_rfl) ?_
                simp only [goP, List.getElem?_cons_succ, List.getElem?_cons_zero, oneA, wantedA, opnds, evs, ev, plain, opA, cls, List.nil_append, List.append_nil, e2, putT, blt_iff, Nat.reduceLT, decide_true, stableD, Tr.get_set, Nat.reduceEqDiff, g4, reduceIte, size135, hrd2, List.length_cons, List.length_nil, Nat.zero_add, Nat.reduceAdd, stab_cons, hq, hrd, stab_nil, Bool.or_true, loadA, agg135, loadC, ofCells, e3, pureA, abin2, abin, neg_lt0, regW_some, thenW_normal]
                repeat (refine W.seq ?_)
                refine W.cond2 ?_
                simp only [ev, Tr.get_set, Nat.reduceEqDiff, reduceIte, condW_bool]
                refine ⟨fun _ => ?_, fun hc => (by simp at hc)⟩
                repeat (refine W.seq ?_)
                refine W.plan (st := [(1, 0, true), (0, 0, false), (2, 3, true), (3, 0, false), (4, 0, false), (5, 24, false), (6, 56, false), (7, 120, false), (8, 255, true), (9, 511, true), (10, 1023, true)]) (by kernel_rfl) ?_
                simp only [goP, List.getElem?_cons_succ, List.getElem?_cons_zero, oneA, wantedA, opnds, evs, ev, plain, opA, cls, List.nil_append, List.append_nil, e4, putT, blt_iff, Nat.reduceLT, decide_true, stableD, Tr.get_set, Nat.reduceEqDiff, g4, reduceIte, size135, hrd4, List.length_cons, List.length_nil, Nat.zero_add, Nat.reduceAdd, stab_cons, hq, hrd3, stab_nil, Bool.or_true, loadA, agg135, loadC, ofCells, e5, g0, ite_self, pureA, g5, und9, bsOf_list, hat, castI, abin2, abin, sub8 (show 48 ≤ c.toNat by omega) hc8, und5, und2, wrapN (show c.toNat - 48 ≤ 9223372036854775807 by omega), e6, e7, effA, cellsN_agg, List.size_toArray, beq_iff, wr, hcs7, cellsL_agg, allc_cons, cellv, allc_nil, Bool.and_self, splice, undef, regW_some, outB_normal, thenW_normal]
                repeat (refine W.seq ?_)
                refine W.reg0 ?_
                simp only [opsA, oneA, wantedA, opnds, evs, ev, Tr.get_set, Nat.reduceEqDiff, g5, ite_self, reduceIte, opA, cls, pureA, putT, blt_iff, Nat.reduceLT, decide_true, plain, abin2, abin, inc_nat (show i + 1 ≤ 9223372036854775807 by omega), regW_some, inv_normal, H.next_set, H.get_set]
                refine ⟨(x :: r).length - (i + 1), by omega, i + 1, n * 10 + (c.toNat - 48), [.bool (decide (Int.ofNat (n * 10 + (c.toNat - 48)) < 0)), .slice p7 d7.length s7], rfl, by omega, ?_⟩
                simp only [g0, g4]
                exact ⟨trivial, ((hg.trans hg13).trans hg37).set (Nat.le_refl _) _, by have := hg37.next; omega, (by first | trivial | rfl), hb7'.set_other hcs7 _, by omega, trivial, trivial, trivial, hd', hnum⟩
              · rw [if_neg (by show ¬ ((n : Int) - 18446744073709551616) < 0; omega)] at hrc
                rw [if_neg hsm] at hnum
                obtain ⟨m, rfl⟩ : ∃ m : Nat, rc = .int .i64 (Int.ofNat m) := by
                  split at hrc
                  · exact ⟨0, hrc⟩
                  · exact ⟨1, hrc⟩
                repeat (refine W.seq ?_)
                refine W.plan (st := [(1, 0, true), (0, 0, false), (2, 3, true), (3, 7, false)]) (by kernel_rfl) ?_
                simp only [goP, List.getElem?_cons_succ, List.getElem?_cons_zero, oneA, wantedA, opnds, evs, ev, plain, opA, cls, List.nil_append, List.append_nil, e2, putT, blt_iff, Nat.reduceLT, decide_true, stableD, Tr.get_set, Nat.reduceEqDiff, g4, reduceIte, size135, hrd2, List.length_cons, List.length_nil, Nat.zero_add, Nat.reduceAdd, stab_cons, hq, hrd, stab_nil, Bool.or_true, loadA, agg135, loadC, ofCells, e3, pureA, abin2, abin, dlt, not0, decide_false, regW_some, thenW_normal]
                repeat (refine W.seq ?_)
                refine W.cond2 ?_
                simp only [ev, Tr.get_set, Nat.reduceEqDiff, reduceIte, condW_bool]
                refine ⟨fun hc => (by simp at hc), fun _ => ?_⟩
                repeat (refine W.seq ?_)
                refine W.skip ?_
                simp only [outB_normal, thenW_normal]
                repeat (refine W.seq ?_)
                refine W.reg0 ?_
                simp only [opsA, oneA, wantedA, opnds, evs, ev, Tr.get_set, Nat.reduceEqDiff, g5, ite_self, reduceIte, opA, cls, pureA, putT, blt_iff, Nat.reduceLT, decide_true, plain, abin2, abin, inc_nat (show i + 1 ≤ 9223372036854775807 by omega), regW_some, inv_normal]
                refine ⟨(x :: r).length - (i + 1), by omega, i + 1, n, [.bool nv, .slice pv dv.length sv], rfl, by omega, ?_⟩
                simp only [g0, g4]
                exact ⟨trivial, hg.trans hg13, hnx3, hcs3, hbig.grows hg13, hnb, trivial, trivial, trivial, hd', hnum⟩
        · rw [List.take_of_length_le (by simp only [List.length_cons]; omega)] at hd
          rw [List.drop_of_length_le (by simp only [List.length_cons]; omega), numL] at hnum
          rw [numS_else hz, hd, parse_numL _ 0 (by omega) hd, ← hnum]
          repeat (refine W.seq ?_)
          refine W.exit ?_
          simp only [thenW_exit, inv_exit, outB_exit, thenW_normal, reduceIte]
          by_cases hsm : n < 18446744073709551616
          · rw [if_pos (by show ((n : Int) - 18446744073709551616) < 0; omega)] at hrc
            rw [if_pos hsm]
            subst hrc
            obtain ⟨r4, h4, e4, hg4, rfl⟩ := x_word px _ n (by omega) h3 (hbig.grows hg13)
            repeat (refine W.seq ?_)
            refine W.plan (st := [(1, 0, true), (0, 0, false), (2, 3, true), (3, 7, false)]) (by kernel_rfl) ?_
            simp only [goP, List.getElem?_cons_succ, List.getElem?_cons_zero, oneA, wantedA, opnds, evs, ev, plain, opA, cls, List.nil_append, List.append_nil, e2, putT, blt_iff, Nat.reduceLT, decide_true, stableD, Tr.get_set, Nat.reduceEqDiff, g4, reduceIte, size135, hrd2, List.length_cons, List.length_nil, Nat.zero_add, Nat.reduceAdd, stab_cons, hq, hrd, stab_nil, Bool.or_true, loadA, agg135, loadC, ofCells, e3, pureA, abin2, abin, neg_ge0, regW_some, thenW_normal]
            repeat (refine W.seq ?_)
            refine W.cond2 ?_
            simp only [ev, Tr.get_set, Nat.reduceEqDiff, reduceIte, condW_bool]
            refine ⟨fun hc => (by simp at hc), fun _ => ?_⟩
            repeat (refine W.seq ?_)
            refine W.skip ?_
            simp only [thenW_normal]
            repeat (refine W.seq ?_)
            refine W.reg0 ?_
            simp only [opsA, oneA, wantedA, opnds, evs, ev, Tr.get_set, Nat.reduceEqDiff, g4, reduceIte, opA, cls, loadA, agg135, loadC, size135, hrd3, ofCells, putT, blt_iff, Nat.reduceLT, decide_true, List.nil_append, List.append_nil, e4, pureA, plain, regW_some, thenW_normal]
            repeat (refine W.seq ?_)
            refine W.ret ?_
            simp only [outW, resultA, resA, Tr.get_set, Nat.reduceEqDiff, reduceIte]
            exact ⟨trivial, _, rfl, (hg.trans hg13).trans hg4, rfl⟩
          · rw [if_neg (by show ¬ ((n : Int) - 18446744073709551616) < 0; omega)] at hrc
            rw [if_neg hsm]
            obtain ⟨m, rfl⟩ : ∃ m : Nat, rc = .int .i64 (Int.ofNat m) := by
              split at hrc
              · exact ⟨0, hrc⟩
              · exact ⟨1, hrc⟩
            repeat (refine W.seq ?_)
            refine W.plan (st := [(1, 0, true), (0, 0, false), (2, 3, true), (3, 7, false)]) (by kernel_rfl) ?_
            simp only [goP, List.getElem?_cons_succ, List.getElem?_cons_zero, oneA, wantedA, opnds, evs, ev, plain, opA, cls, List.nil_append, List.append_nil, e2, putT, blt_iff, Nat.reduceLT, decide_true, stableD, Tr.get_set, Nat.reduceEqDiff, g4, reduceIte, size135, hrd2, List.length_cons, List.length_nil, Nat.zero_add, Nat.reduceAdd, stab_cons, hq, hrd, stab_nil, Bool.or_true, loadA, agg135, loadC, ofCells, e3, pureA, abin2, abin, dle, Nat.zero_le, regW_some, thenW_normal]
            repeat (refine W.seq ?_)
            refine W.cond2 ?_
            simp only [ev, Tr.get_set, Nat.reduceEqDiff, reduceIte, condW_bool]
            refine ⟨fun _ => ?_, fun hc => (by simp at hc)⟩
            repeat (refine W.seq ?_)
            refine W.reg0 ?_
            simp only [opsA, oneA, wantedA, opnds, evs, ev, plain, opA, cls, pureA, putT, blt_iff, Nat.reduceLT, decide_true, regW_some, thenW_normal]
            repeat (refine W.seq ?_)
            refine W.ret ?_
            simp only [thenW_ret, outW, resultA, resA, Tr.get_set, Nat.reduceEqDiff, reduceIte]
            exact ⟨trivial, _, rfl, hg.trans hg13, rfl⟩
      · simp only [List.length_cons, Tr.get_set, Nat.reduceEqDiff, g0, reduceIte]
        exact ⟨0, 0, _, rfl, Nat.zero_le _, trivial, hg1, by omega, hA, ⟨none, 0, [], rfl, Dig.nil _, by intro d hd; simp at hd, by intro i hi; simp at hi, rfl, by decide⟩, by omega, by first | trivial | rfl, by first | trivial | rfl, by first | trivial | rfl, by simp, rfl⟩
end Go.Proofs.YtkoccbggjfbgaaaGreatDoor
end
