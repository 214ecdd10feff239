/-
  The script seat: numbers without bounds: a digit, noughts ahead are struck. The script seat: numbers without bounds: digits together. The script seat: numbers without bounds: digits less others, which is larger. The script seat: numbers without bounds: sums, differences, which is larger.
-/
import Derived.Test.YtkoccbggjfbgaaaGreatDoorKSa
set_option linter.all false

section
open Go.Eng
set_option maxRecDepth 100000
set_option linter.unusedSimpArgs false
set_option linter.unusedVariables false
namespace Go.Proofs.YtkoccbggjfbgaaaGreatDoor
variable {X : Tr Nat}

/-- digits in memory -/
def Dig (h : H) (p : Option Addr) (s : Nat) (ds : List Nat) : Prop := View 3 h (.slice p ds.length s) (intC ds) ∧ cell1 (.slice p ds.length s) = true
theorem Dig.grows {h h' : H} {p : Option Addr} {s : Nat} {ds : List Nat} (a : Dig h p s ds) (g : Grows h h') : Dig h' p s ds := ⟨View.grows a.1 g, a.2⟩
theorem Dig.at {h : H} {p : Option Addr} {s : Nat} {ds : List Nat} (a : Dig h p s ds) {i : Nat} (hi : i < ds.length) : ∃ o off, p = some ⟨o, off, none⟩ ∧ s = 1 ∧ rd h o (off + i) 1 = some [.int .i64 (Int.ofNat (ds.getD i 0))] := by
  obtain ⟨o, off, e, _, hr⟩ := View.at a.1 (intC_at hi)
  simp only [Value.slice.injEq] at e
  exact ⟨o, off, e.1, e.2.2, hr⟩
theorem cell1_len {p : Option Addr} {s n m : Nat} (h : cell1 (.slice p n s) = true) : cell1 (.slice p m s) = true := by
  unfold cell1 at h ⊢
  split at h <;> simp_all
theorem Dig.take {h : H} {p : Option Addr} {s : Nat} {ds : List Nat} (a : Dig h p s ds) (k : Nat) (hk : k ≤ ds.length) : Dig h p s (ds.take k) := by
  refine ⟨?_, cell1_len a.2⟩
  obtain ⟨p', s', e, f⟩ := a.1
  rw [intC_length] at e
  simp only [Value.slice.injEq, true_and] at e
  obtain ⟨rfl, rfl⟩ := e
  refine ⟨p, s, by rw [intC_length], fun hne => ?_⟩
  have hne2 : intC ds ≠ [] := by
    intro e2
    apply hne
    have : ds = [] := List.map_eq_nil_iff.1 e2
    subst this; simp [intC]
  obtain ⟨hs, o, off, all, e1, e2, e3, e4⟩ := f hne2
  refine ⟨hs, o, off, all, e1, e2, e3, fun i x hx => e4 i x ?_⟩
  have h1 : intC (ds.take k) = (intC ds).take k := by simp [intC, List.map_take]
  rw [h1, List.getElem?_take] at hx
  split at hx
  · exact hx
  · simp at hx
theorem Dig.of_row {b : Nat} {h : H} {p : Option Addr} {s n : Nat} {ds : List Nat} (a : NewRow 3 b h (.slice p n s) ds.length 1 (intC ds)) : n = ds.length ∧ Dig h p s ds := by
  have hn : n = ds.length := by
    rcases a with ⟨e, h2, _⟩ | ⟨o, _, _, e, _⟩
    · simp only [Value.slice.injEq] at e; omega
    · simp only [Value.slice.injEq] at e; exact e.2.1
  subst hn
  refine ⟨rfl, a.is.view, ?_⟩
  rcases a with ⟨e, _⟩ | ⟨o, _, _, e, _⟩ <;> rw [e] <;> rfl
theorem Dig.nil (h : H) : Dig h none 0 [] := ⟨⟨none, 0, rfl, fun h => absurd rfl h⟩, rfl⟩
/-- a number's two cells are like themselves -/
theorem Dig.same {h : H} {p : Option Addr} {s : Nat} {ds : List Nat} (a : Dig h p s ds) (b : Bool) : sameL [Value.bool b, .slice p ds.length s] [.bool b, .slice p ds.length s] = true :=
  sameL_refl (by simp only [all1_cons, a.2, all1_nil]; rfl)
/-- a whole number: is it below 0, its digits -/
def IsBig (h : H) (v : Value) (z : Int) : Prop := ∃ p s ds, v = .agg #[.bool (decide (z < 0)), .slice p ds.length s] ∧ Dig h p s ds ∧ small ds ∧ lastNZ ds ∧ bval ds = z.natAbs ∧ z.natAbs < 10000 ^ 10
theorem IsBig.grows {h h' : H} {v : Value} {z : Int} (a : IsBig h v z) (g : Grows h h') : IsBig h' v z := by
  obtain ⟨p, s, ds, e, h1, h2⟩ := a
  exact ⟨p, s, ds, e, h1.grows g, h2⟩

theorem x_digit (px : PX X) (b : Bool) (p : Option Addr) (s : Nat) (ds : List Nat) (i : Nat) (h : H) (hd : Dig h p s ds) :
    ∃ r h', callS (EX X) 115 [.agg #[.bool b, .slice p ds.length s], .int .i64 (Int.ofNat i)] h = some (r, h') ∧ (Grows h h' ∧ r = .int .i64 (Int.ofNat (ds.getD i 0))) := by
  refine call_of px.n115 (gf115 X) rfl (rs := [.tmp 4]) rfl (m := 15) rfl ?_
  repeat (refine W.seq ?_)
  refine W.reg0 ?_
  simp only [opsA, oneA, wantedA, List.length_cons, List.length_nil, Nat.zero_add, Nat.reduceAdd, Nat.reduceSub, enterT, opnds, evs, ev, Tr.get_set, Nat.reduceEqDiff, Tr.get_nil, reduceIte, opA, cls, newA, cellsL_agg, mk, putT, blt_iff, Nat.reduceLT, decide_true, litI, plain, pureA, regW_some, thenW_normal]
  have hg1 : Grows h (h.new (.cells [.bool b, .slice p ds.length s] 135)) := (Grows.refl h).new _
  have ha1 : (h.new (.cells [.bool b, .slice p ds.length s] 135)).get h.next = some (.cells [.bool b, .slice p ds.length s] 135) := H.get_new' _ _
  generalize h.new (.cells [.bool b, .slice p ds.length s] 135) = h1 at hg1 ha1 ⊢
  repeat (refine W.seq ?_)
  refine W.reg0 ?_
  simp only [opsA, oneA, wantedA, opnds, evs, ev, Tr.get_set, Nat.reduceEqDiff, succ0, Tr.get_nil, reduceIte, opA, cls, pureA, putT, blt_iff, Nat.reduceLT, decide_true, und135, List.getElem?_cons_succ, List.getElem?_cons_zero, size133, Nat.zero_add, loadA, agg133, loadC, rd, ha1, seg, ofCells, und133, castI, goInt_nat, abin2, abin, dlt, regW_some, thenW_normal]
  repeat (refine W.seq ?_)
  refine W.cond2 ?_
  simp only [ev, Tr.get_set, Nat.reduceEqDiff, succ0, Tr.get_nil, reduceIte, condW_bool, decide_eq_true_eq, decide_eq_false_iff_not]
  refine ⟨fun hlt => ?_, fun hge => ?_⟩
  · obtain ⟨o, off, rfl, rfl, hr⟩ := (hd.grows hg1).at hlt
    have hra : rd h1 h.next 1 1 = some [.slice (some ⟨o, off, none⟩) ds.length 1] := rd_get ha1 rfl
    repeat (refine W.seq ?_)
    refine W.reg0 ?_
    simp only [opsA, oneA, wantedA, hlt, decide_true, opnds, evs, ev, Tr.get_set, Nat.reduceEqDiff, succ0, Tr.get_nil, reduceIte, opA, cls, pureA, und135, List.getElem?_cons_succ, List.getElem?_cons_zero, size133, Nat.zero_add, putT, blt_iff, Nat.reduceLT, loadA, agg133, loadC, hra, ofCells, ite_self, und133, size3, Nat.mul_one, agg3, hr, regW_some, thenW_normal]
    repeat (refine W.seq ?_)
    refine W.ret ?_
    simp only [thenW_ret, outW, resultA, resA, Tr.get_set, Nat.reduceEqDiff, succ0, Tr.get_nil, reduceIte]
    exact ⟨trivial, _, rfl, hg1, rfl⟩
  · rw [getD_out (by omega)]
    repeat (refine W.seq ?_)
    refine W.skip ?_
    simp only [thenW_normal]
    repeat (refine W.seq ?_)
    refine W.reg0 ?_
    simp only [opsA, oneA, wantedA, opnds, evs, ev, plain, opA, cls, pureA, putT, blt_iff, Nat.reduceLT, decide_true, regW_some, thenW_normal]
    repeat (refine W.seq ?_)
    refine W.ret ?_
    simp only [outW, resultA, resA, Tr.get_set, Nat.reduceEqDiff, succ0, Tr.get_nil, reduceIte, ite_self]
    exact ⟨trivial, _, rfl, hg1, rfl⟩

theorem x_trim (px : PX X) (b : Bool) (p : Option Addr) (s : Nat) (ds : List Nat) (h : H) (hd : Dig h p s ds) (hs : small ds) (hl : ds.length ≤ 900000) :
    ∃ r h', callS (EX X) 111 [.agg #[.bool b, .slice p ds.length s]] h = some (r, h') ∧ (Grows h h' ∧ ∃ p' s' es, r = .agg #[.bool (b && decide (bval ds ≠ 0)), .slice p' es.length s'] ∧ Dig h' p' s' es ∧ small es ∧ lastNZ es ∧ bval es = bval ds) := by
  refine call_of px.n111 (gf111 X) rfl (rs := [.cell 2 135]) rfl (m := 32) rfl ?_
  have hne0 : ¬ h.next = h.next + 1 := by omega
  repeat (refine W.seq ?_)
  refine W.reg0 ?_
  simp only [opsA, oneA, wantedA, List.length_cons, List.length_nil, Nat.zero_add, Nat.reduceSub, Nat.reduceAdd, enterT, opnds, evs, ev, Tr.get_set, Tr.get_nil, reduceIte, opA, cls, newA, cellsL_agg, mk, putT, blt_iff, Nat.reduceLT, decide_true, btX, beq_iff, Nat.reduceEqDiff, decide_false, zero135, plain, List.all_cons, List.all_nil, Bool.and_self, H.next_new, litI, regW_some, thenW_normal]
  have hg1 : Grows h ((h.new (.cells [.bool b, .slice p ds.length s] 135)).new (.cells [.bool false, .slice none 0 0] 135)) := ((Grows.refl h).new _).new _
  have ha1 : ((h.new (.cells [.bool b, .slice p ds.length s] 135)).new (.cells [.bool false, .slice none 0 0] 135)).get h.next = some (.cells [.bool b, .slice p ds.length s] 135) := by
    rw [H.get_new, if_neg (show ¬ h.next = (h.new (.cells [.bool b, .slice p ds.length s] 135)).next from hne0)]
    exact H.get_new' _ _
  have hb1 : ((h.new (.cells [.bool b, .slice p ds.length s] 135)).new (.cells [.bool false, .slice none 0 0] 135)).get (h.next + 1) = some (.cells [.bool false, .slice none 0 0] 135) := H.get_new' _ _
  generalize (h.new (.cells [.bool b, .slice p ds.length s] 135)).new (.cells [.bool false, .slice none 0 0] 135) = h1 at hg1 ha1 hb1 ⊢
  repeat (refine W.seq ?_)
  refine W.block ?_
  refine W.loop_inv (fun k a hh => k ≤ ds.length ∧ a.n = 32 ∧ Grows h hh ∧ a.m.get 1 = some (.pointer (some ⟨h.next, 0, none⟩)) ∧ a.m.get 2 = some (.pointer (some ⟨h.next + 1, 0, none⟩)) ∧
    hh.get h.next = some (.cells [.bool b, .slice p k s] 135) ∧ hh.get (h.next + 1) = some (.cells [.bool false, .slice none 0 0] 135) ∧ bval (ds.take k) = bval ds) ?_ ds.length _ _ ?_
  · intro k a hh ⟨hk, hn, hg, g1, g2, ha, hb, hv⟩
    cases k with
    | zero =>
      have hz : bval ds = 0 := by rw [← hv]; rfl
      repeat (refine W.seq ?_)
      refine W.reg0 ?_
      simp only [opsA, oneA, wantedA, opnds, evs, ev, g1, opA, cls, pureA, und135, List.getElem?_cons_succ, List.getElem?_cons_zero, size133, Nat.zero_add, putT, hn, blt_iff, Nat.reduceLT, decide_true, Tr.get_set, reduceIte, loadA, agg133, loadC, rd, ha, seg, ofCells, Nat.reduceEqDiff, und133, castI, goInt_nat, plain, abin2, abin, dlt, not0, decide_false, beqFT, undef, regW_some, thenW_normal]
      repeat (refine W.seq ?_)
      refine W.cond2 ?_
      simp only [ev, Tr.get_set, Nat.reduceEqDiff, reduceIte, condW_bool]
      refine ⟨fun hc => (by simp at hc), fun _ => ?_⟩
      repeat (refine W.seq ?_)
      refine W.exit ?_
      simp only [thenW_exit, inv_exit, outB_exit, thenW_normal, reduceIte]
      repeat (refine W.seq ?_)
      refine W.reg0 ?_
      simp only [opsA, oneA, wantedA, opnds, evs, ev, Tr.get_set, Nat.reduceEqDiff, g1, reduceIte, opA, cls, pureA, und135, List.getElem?_cons_succ, List.getElem?_cons_zero, size133, Nat.zero_add, putT, blt_iff, Nat.reduceLT, decide_true, loadA, agg133, loadC, rd, ha, seg, ofCells, und133, castI, goInt_nat, plain, abin2, abin, deq, regW_some, thenW_normal]
      repeat (refine W.seq ?_)
      refine W.cond2 ?_
      simp only [ev, Tr.get_set, Nat.reduceEqDiff, reduceIte, condW_bool]
      refine ⟨fun _ => ?_, fun hc => (by simp at hc)⟩
      repeat (refine W.seq ?_)
      refine W.reg0 ?_
      simp only [opsA, oneA, wantedA, opnds, List.map_nil, evs, opA, cls, pureA, zero135, und135, plain, List.all_cons, List.all_nil, Bool.and_self, cellsL_agg, List.zip_nil_left, fillA, putT, blt_iff, Nat.reduceLT, decide_true, ev, Tr.get_set, Nat.reduceEqDiff, g2, reduceIte, effA, size135, cellsN_agg, List.size_toArray, List.length_cons, List.length_nil, Nat.zero_add, Nat.reduceAdd, beq_iff, wr, hb, cellv, splice, undef, regW_some, thenW_normal]
      repeat (refine W.seq ?_)
      refine W.ret ?_
      simp only [thenW_ret, outW, resultA, resA, Tr.get_set, Nat.reduceEqDiff, g2, reduceIte, loadA, agg135, loadC, size135, rd, H.get_set, seg, ofCells]
      exact ⟨trivial, _, rfl, hg.set (by omega) _, none, 0, [], by simp [hz], Dig.nil _, by intro d hd; simp at hd, by intro i hi; simp at hi, by rw [hz]; rfl⟩
    | succ k =>
      obtain ⟨o, off, rfl, rfl, hr⟩ := (hd.grows hg).at (i := k) (by omega)
      have hra : rd hh h.next 1 1 = some [.slice (some ⟨o, off, none⟩) (k + 1) 1] := rd_get ha rfl
      have hkk : k < k + 1 := by omega
      have e1 := bval_take ds (k := k) (by omega)
      repeat (refine W.seq ?_)
      refine W.reg0 ?_
      simp only [opsA, oneA, wantedA, opnds, evs, ev, g1, opA, cls, pureA, und135, List.getElem?_cons_succ, List.getElem?_cons_zero, size133, Nat.zero_add, putT, hn, blt_iff, Nat.reduceLT, decide_true, Tr.get_set, reduceIte, loadA, agg133, loadC, hra, ofCells, Nat.reduceEqDiff, und133, castI, goInt_nat, plain, abin2, abin, dlt, pos1, beqTT, sub64i (show 1 ≤ k + 1 by omega) (show k + 1 ≤ 9223372036854775807 by omega), Nat.add_sub_cancel, ite_self, size3, hkk, Nat.mul_one, agg3, hr, deq, regW_some, thenW_normal]
      repeat (refine W.seq ?_)
      refine W.cond2 ?_
      simp only [ev, Tr.get_set, Nat.reduceEqDiff, reduceIte, condW_bool, decide_eq_true_eq, decide_eq_false_iff_not]
      refine ⟨fun hz => ?_, fun hnz => ?_⟩
      · repeat (refine W.seq ?_)
        refine W.skip ?_
        simp only [thenW_normal]
        repeat (refine W.seq ?_)
        refine W.block ?_
        have hle : k ≤ k + 1 := by omega
        repeat (refine W.seq ?_)
        refine W.reg0 ?_
        simp only [opsA, oneA, wantedA, opnds, evs, ev, Tr.get_set, Nat.reduceEqDiff, g1, reduceIte, opA, cls, pureA, und135, List.getElem?_cons_succ, List.getElem?_cons_zero, size133, Nat.zero_add, putT, blt_iff, Nat.reduceLT, decide_true, loadA, agg133, loadC, hra, ofCells, und133, castI, goInt_nat, plain, abin2, abin, sub64i (show 1 ≤ k + 1 by omega) (show k + 1 ≤ 9223372036854775807 by omega), Nat.add_sub_cancel, Option.toList_none, Option.toList_some, List.nil_append, List.append_nil, ite_self, bounds2, Option.isSome_none, Option.isSome_some, size3, bound, ble_iff, hle, Nat.mul_one, Nat.add_zero, Nat.sub_zero, effA, cellsN_slice, beq_iff, wr, ha, cellsL_slice, allc_cons, cellv, allc_nil, Bool.and_self, splice, undef, regW_some, outB_normal, inv_normal, H.get_set]
        refine ⟨k, Nat.lt_succ_self k, by omega, ?_⟩
        have h01 : ¬ h.next + 1 = h.next := by omega
        simp only [g2]
        refine ⟨trivial, hg.set (Nat.le_refl _) _, trivial, trivial, trivial, ?_, ?_⟩
        · rw [if_neg h01]; exact hb
        · have e2 : bval (ds.take (k + 1)) = bval (ds.take k) := by rw [e1, hz]; simp
          rw [← e2]; exact hv
      · repeat (refine W.seq ?_)
        refine W.exit ?_
        simp only [thenW_exit, inv_exit, outB_exit, thenW_normal, reduceIte]
        repeat (refine W.seq ?_)
        refine W.reg0 ?_
        simp only [opsA, oneA, wantedA, opnds, evs, ev, Tr.get_set, Nat.reduceEqDiff, g1, reduceIte, opA, cls, pureA, und135, List.getElem?_cons_succ, List.getElem?_cons_zero, size133, Nat.zero_add, putT, blt_iff, Nat.reduceLT, decide_true, loadA, agg133, loadC, hra, ofCells, und133, castI, goInt_nat, plain, abin2, abin, deq, succ0, decide_false, regW_some, thenW_normal]
        repeat (refine W.seq ?_)
        refine W.cond2 ?_
        simp only [ev, Tr.get_set, Nat.reduceEqDiff, reduceIte, condW_bool]
        refine ⟨fun hc => (by simp at hc), fun _ => ?_⟩
        have hrb : rd hh h.next 0 2 = some [.bool b, .slice (some ⟨o, off, none⟩) (k + 1) 1] := rd_get ha rfl
        repeat (refine W.seq ?_)
        refine W.skip ?_
        simp only [thenW_normal]
        repeat (refine W.seq ?_)
        refine W.reg0 ?_
        simp only [opsA, oneA, wantedA, opnds, evs, ev, Tr.get_set, Nat.reduceEqDiff, g1, reduceIte, opA, cls, loadA, agg135, loadC, size135, hrb, ofCells, putT, blt_iff, Nat.reduceLT, decide_true, g2, effA, cellsN_agg, List.size_toArray, List.length_cons, List.length_nil, Nat.zero_add, Nat.reduceAdd, beq_iff, wr, hb, cellsL_agg, allc_cons, cellv, allc_nil, Bool.and_self, splice, undef, regW_some, thenW_normal]
        repeat (refine W.seq ?_)
        refine W.ret ?_
        simp only [outW, resultA, resA, Tr.get_set, Nat.reduceEqDiff, g2, reduceIte, loadA, agg135, loadC, size135, rd, H.get_set, seg, ofCells]
        have hpos : bval ds ≠ 0 := by
          rw [← hv, e1]
          have := Nat.pow_pos (n := k) (show 0 < 10000 by omega)
          have h3 : 10000 ^ k * 1 ≤ 10000 ^ k * ds.getD k 0 := Nat.mul_le_mul_left _ (by omega)
          omega
        have hlen : (ds.take (k + 1)).length = k + 1 := by rw [List.length_take]; omega
        refine ⟨trivial, _, rfl, hg.set (by omega) _, some ⟨o, off, none⟩, 1, ds.take (k + 1), ?_, ?_, small_take hs _, ?_, hv⟩
        · rw [hlen]; simp [hpos]
        · exact (hd.take (k + 1) hk).grows (hg.set (by omega) _)
        · intro i hi
          rw [hlen] at hi
          have : i = k := by omega
          subst this
          rw [List.getD_eq_getElem?_getD, List.getElem?_take, if_pos (by omega), ← List.getD_eq_getElem?_getD]
          exact hnz
  · simp only [Tr.get_set, Nat.reduceEqDiff, succ0, Tr.get_nil, reduceIte]
    exact ⟨Nat.le_refl _, trivial, hg1, (by first | trivial | rfl), (by first | trivial | rfl), ha1, hb1, by rw [List.take_of_length_le (Nat.le_refl _)]⟩
end Go.Proofs.YtkoccbggjfbgaaaGreatDoor
end

section
open Go.Eng
set_option maxRecDepth 100000
set_option linter.unusedSimpArgs false
set_option linter.unusedVariables false
namespace Go.Proofs.YtkoccbggjfbgaaaGreatDoor
variable {X : Tr Nat}

theorem x_plus (px : PX X) (ba bb : Bool) (pa pb : Option Addr) (sa sb : Nat) (da db : List Nat) (h : H) (hda : Dig h pa sa da) (hdb : Dig h pb sb db) (ha : small da) (hb : small db) (hla : da.length ≤ 1000) (hlb : db.length ≤ 1000) :
    ∃ r h', callS (EX X) 112 [.agg #[.bool ba, .slice pa da.length sa], .agg #[.bool bb, .slice pb db.length sb]] h = some (r, h') ∧ (Grows h h' ∧ ∃ p s es, r = .slice p es.length s ∧ Dig h' p s es ∧ small es ∧ es.length ≤ 1001 ∧ bval es = bval da + bval db) := by
  refine call_of px.n112 (gf112 X) rfl (rs := [.tmp 4]) rfl (m := 44) rfl ?_
  repeat (refine W.seq ?_)
  refine W.reg0 ?_
  simp only [opsA, oneA, wantedA, List.length_cons, List.length_nil, Nat.zero_add, Nat.reduceAdd, Nat.reduceSub, enterT, opnds, evs, ev, Tr.get_set, Nat.reduceEqDiff, Tr.get_nil, reduceIte, opA, cls, newA, cellsL_agg, mk, putT, blt_iff, Nat.reduceLT, decide_true, succ0, H.next_new, plain, pureA, litI, regW_some, thenW_normal]
  obtain ⟨hg1, hA, hB, hn1⟩ := two_new h (.cells [.bool ba, .slice pa da.length sa] 135) (.cells [.bool bb, .slice pb db.length sb] 135)
  generalize (h.new (.cells [.bool ba, .slice pa da.length sa] 135)).new (.cells [.bool bb, .slice pb db.length sb] 135) = h1 at hg1 hA hB hn1 ⊢
  repeat (refine W.seq ?_)
  refine W.reg0 ?_
  simp only [opsA, oneA, wantedA, opnds, evs, ev, plain, opA, cls, pureA, putT, blt_iff, Nat.reduceLT, decide_true, regW_some, thenW_normal]
  repeat (refine W.seq ?_)
  refine W.reg0 ?_
  simp only [opsA, oneA, wantedA, opnds, evs, ev, plain, opA, cls, pureA, putT, blt_iff, Nat.reduceLT, decide_true, regW_some, thenW_normal]
  repeat (refine W.seq ?_)
  refine W.reg0 ?_
  simp only [opsA, oneA, wantedA, opnds, evs, ev, plain, opA, cls, pureA, putT, blt_iff, Nat.reduceLT, decide_true, regW_some, thenW_normal]
  repeat (refine W.seq ?_)
  refine W.block ?_
  refine W.loop_inv (fun k a hh => ∃ i c out v, k = 2 * (max da.length db.length - i) + c ∧ a.n = 44 ∧ Grows h1 hh ∧ a.m.get 2 = some (.pointer (some ⟨h.next, 0, none⟩)) ∧ a.m.get 3 = some (.pointer (some ⟨h.next + 1, 0, none⟩)) ∧
    a.m.get 5 = some v ∧ a.m.get 6 = some (.int .i64 (.ofNat c)) ∧ a.m.get 7 = some (.int .i64 (.ofNat i)) ∧ NewRow 3 h1.next hh v out.length 1 (intC out) ∧ out.length = i ∧ c ≤ 1 ∧ i + c ≤ max da.length db.length + 1 ∧ small out ∧
    bval out + 10000 ^ i * (c + (bval (da.drop i) + bval (db.drop i))) = bval da + bval db) ?_ (2 * max da.length db.length) _ _ ?_
  · intro k a hh ⟨i, c, out, v, hk, hn, hg, g2, g3, g5, g6, g7, hrow, hol, hc, hic, hso, hval⟩
    obtain ⟨pv, sv, rfl⟩ := hrow.form
    have hA' := (hg.get h.next (by omega)).trans hA
    have hB' := (hg.get (h.next + 1) (by omega)).trans hB
    refine W.seq ?_
    refine W.cut (fun a' h' => h' = hh ∧ a'.n = 44 ∧ a'.m.get 2 = some (.pointer (some ⟨h.next, 0, none⟩)) ∧ a'.m.get 3 = some (.pointer (some ⟨h.next + 1, 0, none⟩)) ∧
      a'.m.get 5 = some (.slice pv out.length sv) ∧ a'.m.get 6 = some (.int .i64 (.ofNat c)) ∧ a'.m.get 7 = some (.int .i64 (.ofNat i)) ∧ a'.m.get 24 = some (.bool (decide (i < da.length ∨ i < db.length ∨ 0 < c)))) ?_ ?_
    · by_cases h1 : i < da.length
      · repeat (refine W.seq ?_)
        refine W.reg0 ?_
        simp only [opsA, oneA, wantedA, opnds, evs, ev, g7, opA, cls, pureA, putT, hn, blt_iff, Nat.reduceLT, decide_true, Tr.get_set, Nat.reduceEqDiff, g2, reduceIte, und135, List.getElem?_cons_succ, List.getElem?_cons_zero, size133, Nat.zero_add, loadA, agg133, loadC, rd, hA', seg, ofCells, und133, castI, goInt_nat, abin2, abin, dlt, h1, beqTF, undef, plain, true_or, regW_some, cutQ_normal, g3, g5, g6, ite_self, and_self]
      · by_cases h2 : i < db.length
        · repeat (refine W.seq ?_)
          refine W.reg0 ?_
          simp only [opsA, oneA, wantedA, opnds, evs, ev, g7, opA, cls, pureA, putT, hn, blt_iff, Nat.reduceLT, decide_true, Tr.get_set, Nat.reduceEqDiff, g2, reduceIte, und135, List.getElem?_cons_succ, List.getElem?_cons_zero, size133, Nat.zero_add, loadA, agg133, loadC, rd, hA', seg, ofCells, und133, castI, goInt_nat, abin2, abin, dlt, h1, decide_false, beqFF, ite_self, g3, hB', h2, plain, beqTF, undef, true_or, or_true, regW_some, cutQ_normal, g5, g6, and_self]
        · repeat (refine W.seq ?_)
          refine W.reg0 ?_
          simp only [opsA, oneA, wantedA, opnds, evs, ev, g7, opA, cls, pureA, putT, hn, blt_iff, Nat.reduceLT, decide_true, Tr.get_set, Nat.reduceEqDiff, g2, reduceIte, und135, List.getElem?_cons_succ, List.getElem?_cons_zero, size133, Nat.zero_add, loadA, agg133, loadC, rd, hA', seg, ofCells, und133, castI, goInt_nat, abin2, abin, dlt, h1, decide_false, beqFF, ite_self, g3, hB', h2, plain, g6, false_or, regW_some, cutQ_normal, g5, and_self]
    · intro a' h' ⟨rfl, hn, g2, g3, g5, g6, g7, g24⟩
      repeat (refine W.seq ?_)
      refine W.cond2 ?_
      simp only [ev, g24, condW_bool, decide_eq_true_eq, decide_eq_false_iff_not]
      refine ⟨fun hgo => ?_, fun hstop => ?_⟩
      · have hxa := getD_small ha i
        have hxb := getD_small hb i
        obtain ⟨ra, h2, e2, hg2, rfl⟩ := x_digit px ba pa sa da i h' ((hda.grows hg1).grows hg)
        have hA2 := (hg2.get h.next (by have := hg.next; omega)).trans hA'
        have hB2 := (hg2.get (h.next + 1) (by have := hg.next; omega)).trans hB'
        obtain ⟨rb, h3, e3, hg3, rfl⟩ := x_digit px bb pb sb db i h2 (((hdb.grows hg1).grows hg).grows hg2)
        have hrA : rd h' h.next 0 2 = some [.bool ba, .slice pa da.length sa] := rd_get hA' rfl
        have hrB : rd h' (h.next + 1) 0 2 = some [.bool bb, .slice pb db.length sb] := rd_get hB' rfl
        have hrA2 : rd h2 h.next 0 2 = some [.bool ba, .slice pa da.length sa] := rd_get hA2 rfl
        have hrB2 : rd h2 (h.next + 1) 0 2 = some [.bool bb, .slice pb db.length sb] := rd_get hB2 rfl
        have hq1 := hda.same ba
        have hq2 := hdb.same bb
        generalize hx : da.getD i 0 = x at *
        generalize hy : db.getD i 0 = y at *
        repeat (refine W.seq ?_)
        refine W.skip ?_
        simp only [thenW_normal]
        repeat (refine W.seq ?_)
        refine W.block ?_
        repeat (refine W.seq ?_)
        refine W.plan (st := [(0, 0, false), (1, 0, false), (2, 3, true), (3, 0, false), (4, 0, false), (5, 31, true), (6, 63, false), (7, 0, false), (8, 255, false), (9, 511, true)]) (by kernel_rfl) ?_
        simp only [goP, List.getElem?_cons_zero, stableD, wantedA, ev, g2, size135, hrA, List.length_cons, List.length_nil, Nat.zero_add, Nat.reduceAdd, stab_cons, hq1, stab_nil, Bool.or_true, oneA, opnds, evs, opA, cls, loadA, agg135, loadC, ofCells, putT, hn, blt_iff, Nat.reduceLT, decide_true, List.getElem?_cons_succ, Tr.get_set, Nat.reduceEqDiff, g7, reduceIte, pureA, List.nil_append, List.append_nil, e2, g3, hrB2, hq2, hrB, ite_self, e3, abin2, abin, add_nat (show x + y ≤ 9223372036854775807 by omega), g6, add_nat (show x + y + c ≤ 9223372036854775807 by omega), regW_some, thenW_normal]
        have hg13 := hg2.trans hg3
        obtain ⟨v4, h4, e4, hrow4, hg4, _, _⟩ := app_one (sl133 X) (h0 := h1) (cs := intC out) (by rw [intC_length]; exact hrow.grows hg13) (hg.trans hg13) (.int .i64 (Int.ofNat ((x + y + c) % 10000))) rfl (by rw [intC_length]; omega)
        have e5 : intC out ++ [.int .i64 (Int.ofNat ((x + y + c) % 10000))] = intC (out ++ [(x + y + c) % 10000]) := by rw [intC_append]; rfl
        rw [e5, intC_length] at hrow4
        obtain ⟨p4, s4, rfl⟩ := hrow4.form
        repeat (refine W.seq ?_)
        refine W.reg0 ?_
        simp only [opsA, oneA, wantedA, opnds, evs, ev, Tr.get_set, Nat.reduceEqDiff, g5, reduceIte, opA, cls, pureA, putT, blt_iff, Nat.reduceLT, decide_true, plain, abin2, abin, rem_nat (x + y + c) 10000 (by omega), List.map_cons, List.map_nil, newA, und133, size3, zero3, litI, cellsN_int, Nat.zero_add, beq_iff, Nat.mul_one, ble_iff, Nat.reduceLeDiff, repl, cellsL_int, List.append_nil, List.zip_cons_cons, List.zip_nil_left, fillA, splice, mk, effA, e4, regW_some, thenW_normal]
        repeat (refine W.seq ?_)
        refine W.reg0 ?_
        simp only [opsA, oneA, wantedA, opnds, evs, ev, Tr.get_set, Nat.reduceEqDiff, reduceIte, ite_self, opA, cls, pureA, putT, blt_iff, Nat.reduceLT, decide_true, plain, abin2, abin, quo_nat (s := x + y + c) (m := 10000) (by omega) (by omega), regW_some, outB_normal, thenW_normal]
        repeat (refine W.seq ?_)
        refine W.reg0 ?_
        simp only [opsA, oneA, wantedA, opnds, evs, ev, Tr.get_set, Nat.reduceEqDiff, g7, reduceIte, ite_self, opA, cls, pureA, putT, blt_iff, Nat.reduceLT, decide_true, plain, abin2, abin, inc_nat (show i + 1 ≤ 9223372036854775807 by omega), regW_some, inv_normal]
        have hc' : (x + y + c) / 10000 ≤ 1 := by omega
        refine ⟨2 * (max da.length db.length - (i + 1)) + (x + y + c) / 10000, ?_, i + 1, (x + y + c) / 10000, out ++ [(x + y + c) % 10000], .slice p4 (out ++ [(x + y + c) % 10000]).length s4, rfl, ?_⟩
        · rw [hk]
          rcases hgo with hgo | hgo | hgo
          · omega
          · omega
          · by_cases hlt : i < max da.length db.length
            · omega
            · have h1 : x = 0 := by rw [← hx]; exact getD_out (by omega)
              have h2 : y = 0 := by rw [← hy]; exact getD_out (by omega)
              omega
        · simp only [g2, g3]
          refine ⟨trivial, hg4, trivial, trivial, trivial, trivial, trivial, hrow4, by simp [hol], hc', ?_, small_append hso (by omega), ?_⟩
          · by_cases hlt : i < max da.length db.length
            · omega
            · have h1 : x = 0 := by rw [← hx]; exact getD_out (by omega)
              have h2 : y = 0 := by rw [← hy]; exact getD_out (by omega)
              omega
          · rw [bval_step (M := c + (bval (da.drop i) + bval (db.drop i))) hol (by rw [bval_drop da i, bval_drop db i, hx, hy]; omega)]
            exact hval
      · have hi1 : bval (da.drop i) = 0 := by rw [List.drop_of_length_le (by omega)]; rfl
        have hi2 : bval (db.drop i) = 0 := by rw [List.drop_of_length_le (by omega)]; rfl
        have hc0 : c = 0 := by omega
        rw [hi1, hi2, hc0] at hval
        repeat (refine W.seq ?_)
        refine W.exit ?_
        simp only [thenW_exit, inv_exit, outB_exit, thenW_normal, reduceIte]
        repeat (refine W.seq ?_)
        refine W.reg0 ?_
        simp only [opsA, oneA, wantedA, opnds, evs, ev, g5, opA, cls, pureA, putT, hn, blt_iff, Nat.reduceLT, decide_true, Tr.get_set, reduceIte, regW_some, thenW_normal]
        repeat (refine W.seq ?_)
        refine W.ret ?_
        simp only [outW, resultA, resA, Tr.get_set, Nat.reduceEqDiff, reduceIte]
        exact ⟨trivial, _, rfl, hg1.trans hg, pv, sv, out, rfl, (Dig.of_row hrow).2, hso, by omega, by simpa using hval⟩
  · simp only [Tr.get_set, Nat.reduceEqDiff, succ0, Tr.get_nil, reduceIte, ite_self]
    exact ⟨0, 0, [], _, by simp, trivial, Grows.refl _, (by first | trivial | rfl), (by first | trivial | rfl), (by first | trivial | rfl), (by first | trivial | rfl), (by first | trivial | rfl), NewRow.nil _ _ _ _, rfl, by omega, by omega, by intro d hd; simp at hd, by simp [bval]⟩
end Go.Proofs.YtkoccbggjfbgaaaGreatDoor
end

section
open Go.Eng
set_option maxRecDepth 100000
set_option linter.unusedSimpArgs false
set_option linter.unusedVariables false
namespace Go.Proofs.YtkoccbggjfbgaaaGreatDoor
variable {X : Tr Nat}

theorem wrapI {z : Int} (h1 : -9223372036854775808 ≤ z) (h2 : z ≤ 9223372036854775807) : IntKind.wrap .i64 z = z := by
  unfold IntKind.wrap; simp [IntKind.bits, IntKind.signed]; omega

theorem Dig.lt {h : H} {o off : Nat} {s : Nat} {ds : List Nat} (a : Dig h (some ⟨o, off, none⟩) s ds) (hne : 0 < ds.length) : o < h.next := by
  obtain ⟨p', s', e, f⟩ := a.1
  have hne2 : intC ds ≠ [] := by
    intro e2
    have : ds = [] := List.map_eq_nil_iff.1 e2
    subst this; simp at hne
  obtain ⟨_, o', off', all, e1, e2, _⟩ := f hne2
  simp only [Value.slice.injEq] at e
  rw [e1] at e
  simp only [Option.some.injEq, Addr.mk.injEq] at e
  rw [e.1.1]; exact e2

theorem x_minus (px : PX X) (ba bb : Bool) (pa pb : Option Addr) (sa sb : Nat) (da db : List Nat) (h : H) (hda : Dig h pa sa da) (hdb : Dig h pb sb db) (ha : small da) (hb : small db) (hla : da.length ≤ 1000) (hle : bval db ≤ bval da) :
    ∃ r h', callS (EX X) 114 [.agg #[.bool ba, .slice pa da.length sa], .agg #[.bool bb, .slice pb db.length sb]] h = some (r, h') ∧ (Grows h h' ∧ ∃ p s es, r = .slice p es.length s ∧ Dig h' p s es ∧ small es ∧ es.length ≤ 1001 ∧ bval es = bval da - bval db) := by
  refine call_of px.n114 (gf114 X) rfl (rs := [.tmp 4]) rfl (m := 36) rfl ?_
  repeat (refine W.seq ?_)
  refine W.reg0 ?_
  simp only [opsA, oneA, wantedA, List.length_cons, List.length_nil, Nat.zero_add, Nat.reduceAdd, Nat.reduceSub, enterT, opnds, evs, ev, Tr.get_set, Nat.reduceEqDiff, Tr.get_nil, reduceIte, opA, cls, newA, cellsL_agg, mk, putT, blt_iff, Nat.reduceLT, decide_true, succ0, H.next_new, plain, pureA, litI, regW_some, thenW_normal]
  obtain ⟨hg1, hA, hB, hn1⟩ := two_new h (.cells [.bool ba, .slice pa da.length sa] 135) (.cells [.bool bb, .slice pb db.length sb] 135)
  generalize (h.new (.cells [.bool ba, .slice pa da.length sa] 135)).new (.cells [.bool bb, .slice pb db.length sb] 135) = h1 at hg1 hA hB hn1 ⊢
  repeat (refine W.seq ?_)
  refine W.reg0 ?_
  simp only [opsA, oneA, wantedA, opnds, evs, ev, plain, opA, cls, pureA, putT, blt_iff, Nat.reduceLT, decide_true, regW_some, thenW_normal]
  repeat (refine W.seq ?_)
  refine W.reg0 ?_
  simp only [opsA, oneA, wantedA, opnds, evs, ev, plain, opA, cls, pureA, putT, blt_iff, Nat.reduceLT, decide_true, regW_some, thenW_normal]
  repeat (refine W.seq ?_)
  refine W.reg0 ?_
  simp only [opsA, oneA, wantedA, opnds, evs, ev, plain, opA, cls, pureA, putT, blt_iff, Nat.reduceLT, decide_true, regW_some, thenW_normal]
  repeat (refine W.seq ?_)
  refine W.block ?_
  refine W.loop_inv (fun k a hh => ∃ i c out v, k = da.length - i ∧ i ≤ da.length ∧ a.n = 36 ∧ Grows h1 hh ∧ a.m.get 2 = some (.pointer (some ⟨h.next, 0, none⟩)) ∧ a.m.get 3 = some (.pointer (some ⟨h.next + 1, 0, none⟩)) ∧
    a.m.get 5 = some v ∧ a.m.get 6 = some (.int .i64 (.ofNat c)) ∧ a.m.get 7 = some (.int .i64 (.ofNat i)) ∧ NewRow 3 h1.next hh v out.length 1 (intC out) ∧ out.length = i ∧ c ≤ 1 ∧ small out ∧
    bval out + 10000 ^ i * bval (da.drop i) + bval db = bval da + 10000 ^ i * (c + bval (db.drop i))) ?_ da.length _ _ ?_
  · intro k a hh ⟨i, c, out, v, hk, hi, hn, hg, g2, g3, g5, g6, g7, hrow, hol, hc, hso, hval⟩
    obtain ⟨pv, sv, rfl⟩ := hrow.form
    have hA' := (hg.get h.next (by omega)).trans hA
    have hB' := (hg.get (h.next + 1) (by omega)).trans hB
    repeat (refine W.seq ?_)
    refine W.reg0 ?_
    simp only [opsA, oneA, wantedA, opnds, evs, ev, g7, opA, cls, pureA, putT, hn, blt_iff, Nat.reduceLT, decide_true, Tr.get_set, Nat.reduceEqDiff, g2, reduceIte, und135, List.getElem?_cons_succ, List.getElem?_cons_zero, size133, Nat.zero_add, loadA, agg133, loadC, rd, hA', seg, ofCells, und133, castI, goInt_nat, abin2, abin, dlt, regW_some, thenW_normal]
    repeat (refine W.seq ?_)
    refine W.cond2 ?_
    simp only [ev, Tr.get_set, Nat.reduceEqDiff, reduceIte, condW_bool, decide_eq_true_eq, decide_eq_false_iff_not]
    refine ⟨fun hlt => ?_, fun hge => ?_⟩
    · have hxa := getD_small ha i
      have hxb := getD_small hb i
      obtain ⟨oa, fa, rfl, rfl, hra⟩ := ((hda.grows hg1).grows hg).at hlt
      obtain ⟨rb, h2, e2, hg2, rfl⟩ := x_digit px bb pb sb db i hh ((hdb.grows hg1).grows hg)
      have hoa : oa < hh.next := ((hda.grows hg1).grows hg).lt (by omega)
      have hra2 : rd h2 oa (fa + i) 1 = _ := rd_grows hg2 hoa hra
      have hA2 := (hg2.get h.next (by have := hg.next; omega)).trans hA'
      have hrA : rd hh h.next 1 1 = some [.slice (some ⟨oa, fa, none⟩) da.length 1] := rd_get hA' rfl
      have hrA2 : rd h2 h.next 1 1 = some [.slice (some ⟨oa, fa, none⟩) da.length 1] := rd_get hA2 rfl
      have hrB : rd hh (h.next + 1) 0 2 = some [.bool bb, .slice pb db.length sb] := rd_get hB' rfl
      have hq2 := hdb.same bb
      rw [bval_drop da i, bval_drop db i] at hval
      generalize hx : da.getD i 0 = x at *
      generalize hy : db.getD i 0 = y at *
      obtain ⟨z1, hz1, hz1'⟩ : ∃ z1 : Int, IntKind.wrap .i64 (Int.ofNat x - Int.ofNat y) = z1 ∧ z1 = (x : Int) - y := ⟨_, wrapI (by simp; omega) (by simp; omega), rfl⟩
      obtain ⟨z2, hz2, hz2'⟩ : ∃ z2 : Int, IntKind.wrap .i64 (z1 - Int.ofNat c) = z2 ∧ z2 = (x : Int) - y - c := ⟨_, wrapI (by simp; omega) (by simp; omega), by rw [hz1']; rfl⟩
      repeat (refine W.seq ?_)
      refine W.skip ?_
      simp only [thenW_normal]
      repeat (refine W.seq ?_)
      refine W.block ?_
      repeat (refine W.seq ?_)
      refine W.plan (st := [(5, 0, false), (6, 0, false), (7, 96, true), (0, 0, false), (1, 1, false), (2, 0, false), (3, 7, false), (4, 15, false), (8, 255, false), (9, 0, false), (10, 1023, false), (11, 2047, true)]) (by kernel_rfl) ?_
      simp only [goP, List.getElem?_cons_succ, List.getElem?_cons_zero, stableD, wantedA, ev, hlt, decide_true, Tr.get_set, Nat.reduceEqDiff, g3, reduceIte, size135, hrB, List.length_cons, List.length_nil, Nat.zero_add, Nat.reduceAdd, stab_cons, hq2, stab_nil, Bool.or_true, oneA, opnds, evs, opA, cls, loadA, agg135, loadC, ofCells, putT, blt_iff, Nat.reduceLT, g7, ite_self, pureA, List.nil_append, List.append_nil, e2, g2, und135, size133, hrA2, all1_cons, cell1, all1_nil, Bool.and_self, sameL_refl, hrA, agg133, und133, size3, Nat.mul_one, hra2, hra, agg3, abin2, abin, hz1, g6, hz2, regW_some, thenW_normal]
      repeat (refine W.seq ?_)
      refine W.reg0 ?_
      simp only [opsA, oneA, wantedA, opnds, evs, ev, plain, opA, cls, pureA, putT, blt_iff, Nat.reduceLT, decide_true, regW_some, thenW_normal]
      by_cases hneg : x < y + c
      · have hd1 : decide (z2 < Int.ofNat 0) = true := by
          rw [decide_eq_true_eq]; show z2 < (0 : Int); omega
        have hadd : IntKind.wrap .i64 (z2 + Int.ofNat 10000) = Int.ofNat (x + 10000 - y - c) := by
          rw [wrapI (by show _ ≤ z2 + (10000 : Int); omega) (by show z2 + (10000 : Int) ≤ _; omega)]
          show z2 + (10000 : Int) = ((x + 10000 - y - c : Nat) : Int)
          omega
        repeat (refine W.seq ?_)
        refine W.reg0 ?_
        simp only [opsA, oneA, wantedA, opnds, evs, ev, Tr.get_set, Nat.reduceEqDiff, reduceIte, opA, cls, pureA, putT, blt_iff, Nat.reduceLT, decide_true, plain, abin2, abin, hd1, regW_some, thenW_normal]
        repeat (refine W.seq ?_)
        refine W.cond2 ?_
        simp only [ev, Tr.get_set, Nat.reduceEqDiff, reduceIte, condW_bool]
        refine ⟨fun _ => ?_, fun hc => (by simp at hc)⟩
        repeat (refine W.seq ?_)
        refine W.reg0 ?_
        simp only [opsA, oneA, wantedA, opnds, evs, ev, Tr.get_set, Nat.reduceEqDiff, reduceIte, ite_self, opA, cls, pureA, putT, blt_iff, Nat.reduceLT, decide_true, plain, abin2, abin, hadd, regW_some, thenW_normal]
        repeat (refine W.seq ?_)
        refine W.reg0 ?_
        simp only [opsA, oneA, wantedA, opnds, evs, ev, plain, opA, cls, pureA, putT, blt_iff, Nat.reduceLT, decide_true, regW_some, thenW_normal]
        obtain ⟨v4, h4, e4, hrow4, hg4, _, _⟩ := app_one (sl133 X) (h0 := h1) (cs := intC out) (by rw [intC_length]; exact hrow.grows hg2) (hg.trans hg2) (.int .i64 (Int.ofNat (x + 10000 - y - c))) rfl (by rw [intC_length]; omega)
        have e5 : intC out ++ [.int .i64 (Int.ofNat (x + 10000 - y - c))] = intC (out ++ [x + 10000 - y - c]) := by rw [intC_append]; rfl
        rw [e5, intC_length] at hrow4
        obtain ⟨p4, s4, rfl⟩ := hrow4.form
        repeat (refine W.seq ?_)
        refine W.reg0 ?_
        simp only [opsA, oneA, wantedA, opnds, evs, ev, Tr.get_set, Nat.reduceEqDiff, g5, reduceIte, opA, cls, pureA, putT, blt_iff, Nat.reduceLT, decide_true, ite_self, List.map_cons, List.map_nil, newA, und133, size3, zero3, litI, plain, cellsN_int, Nat.zero_add, beq_iff, Nat.mul_one, ble_iff, Nat.reduceLeDiff, repl, cellsL_int, List.append_nil, List.zip_cons_cons, List.zip_nil_left, fillA, splice, mk, effA, e4, regW_some, outB_normal, thenW_normal]
        repeat (refine W.seq ?_)
        refine W.reg0 ?_
        simp only [opsA, oneA, wantedA, opnds, evs, ev, Tr.get_set, Nat.reduceEqDiff, g7, ite_self, reduceIte, opA, cls, pureA, putT, blt_iff, Nat.reduceLT, decide_true, plain, abin2, abin, inc_nat (show i + 1 ≤ 9223372036854775807 by omega), regW_some, inv_normal]
        refine ⟨da.length - (i + 1), by omega, i + 1, 1, out ++ [x + 10000 - y - c], .slice p4 (out ++ [x + 10000 - y - c]).length s4, rfl, by omega, ?_⟩
        simp only [g2, g3, Nat.reduceLeDiff]
        exact ⟨trivial, hg4, trivial, trivial, trivial, trivial, trivial, hrow4, by simp [hol], by omega, small_append hso (by omega), (by have hb := bval_back (c' := 1) (d := x + 10000 - y - c) hol (by omega) hval; simpa only [Nat.zero_add] using hb)⟩
      · obtain ⟨d, hd⟩ : ∃ d : Nat, d = x - y - c := ⟨_, rfl⟩
        have hd0 : z2 = Int.ofNat d := by show z2 = (d : Int); omega
        subst hd0
        repeat (refine W.seq ?_)
        refine W.reg0 ?_
        simp only [opsA, oneA, wantedA, opnds, evs, ev, Tr.get_set, Nat.reduceEqDiff, reduceIte, opA, cls, pureA, putT, blt_iff, Nat.reduceLT, decide_true, plain, abin2, abin, dlt, not0, decide_false, regW_some, thenW_normal]
        repeat (refine W.seq ?_)
        refine W.cond2 ?_
        simp only [ev, Tr.get_set, Nat.reduceEqDiff, reduceIte, condW_bool]
        refine ⟨fun hc => (by simp at hc), fun _ => ?_⟩
        repeat (refine W.seq ?_)
        refine W.skip ?_
        simp only [thenW_normal]
        obtain ⟨v4, h4, e4, hrow4, hg4, _, _⟩ := app_one (sl133 X) (h0 := h1) (cs := intC out) (by rw [intC_length]; exact hrow.grows hg2) (hg.trans hg2) (.int .i64 (Int.ofNat (d))) rfl (by rw [intC_length]; omega)
        have e5 : intC out ++ [.int .i64 (Int.ofNat (d))] = intC (out ++ [d]) := by rw [intC_append]; rfl
        rw [e5, intC_length] at hrow4
        obtain ⟨p4, s4, rfl⟩ := hrow4.form
        repeat (refine W.seq ?_)
        refine W.reg0 ?_
        simp only [opsA, oneA, wantedA, opnds, evs, ev, Tr.get_set, Nat.reduceEqDiff, g5, reduceIte, opA, cls, pureA, putT, blt_iff, Nat.reduceLT, decide_true, ite_self, List.map_cons, List.map_nil, newA, und133, size3, zero3, litI, plain, cellsN_int, Nat.zero_add, beq_iff, Nat.mul_one, ble_iff, Nat.reduceLeDiff, repl, cellsL_int, List.append_nil, List.zip_cons_cons, List.zip_nil_left, fillA, splice, mk, effA, e4, regW_some, outB_normal, thenW_normal]
        repeat (refine W.seq ?_)
        refine W.reg0 ?_
        simp only [opsA, oneA, wantedA, opnds, evs, ev, Tr.get_set, Nat.reduceEqDiff, g7, ite_self, reduceIte, opA, cls, pureA, putT, blt_iff, Nat.reduceLT, decide_true, plain, abin2, abin, inc_nat (show i + 1 ≤ 9223372036854775807 by omega), regW_some, inv_normal]
        refine ⟨da.length - (i + 1), by omega, i + 1, 0, out ++ [d], .slice p4 (out ++ [d]).length s4, rfl, by omega, ?_⟩
        simp only [g2, g3, Nat.reduceLeDiff, Nat.zero_add]
        exact ⟨trivial, hg4, trivial, trivial, trivial, trivial, trivial, hrow4, by simp [hol], by omega, small_append hso (by omega), (by have hb := bval_back (c' := 0) (d := d) hol (by omega) hval; simpa only [Nat.zero_add] using hb)⟩
    · have hi1 : bval (da.drop i) = 0 := by rw [List.drop_of_length_le (by omega)]; rfl
      have hlt := bval_lt hso
      rw [hi1] at hval
      rw [hol] at hlt
      have hz : c + bval (db.drop i) = 0 := by
        cases hz : c + bval (db.drop i) with
        | zero => rfl
        | succ m =>
          rw [hz, Nat.mul_add, Nat.mul_one, Nat.mul_zero] at hval
          omega
      rw [hz, Nat.mul_zero] at hval
      repeat (refine W.seq ?_)
      refine W.exit ?_
      simp only [thenW_exit, inv_exit, outB_exit, thenW_normal, reduceIte]
      repeat (refine W.seq ?_)
      refine W.reg0 ?_
      simp only [opsA, oneA, wantedA, opnds, evs, ev, Tr.get_set, Nat.reduceEqDiff, g5, reduceIte, opA, cls, pureA, putT, blt_iff, Nat.reduceLT, decide_true, regW_some, thenW_normal]
      repeat (refine W.seq ?_)
      refine W.ret ?_
      simp only [outW, resultA, resA, Tr.get_set, Nat.reduceEqDiff, reduceIte]
      exact ⟨trivial, _, rfl, hg1.trans hg, pv, sv, out, rfl, (Dig.of_row hrow).2, hso, by omega, by omega⟩
  · simp only [Tr.get_set, Nat.reduceEqDiff, succ0, Tr.get_nil, reduceIte, ite_self]
    exact ⟨0, 0, [], _, rfl, Nat.zero_le _, trivial, Grows.refl _, (by first | trivial | rfl), (by first | trivial | rfl), (by first | trivial | rfl), (by first | trivial | rfl), (by first | trivial | rfl), NewRow.nil _ _ _ _, rfl, by omega, by intro d hd; simp at hd, by simp [bval]⟩

def idxI : Nat → Int
  | 0 => -1
  | n + 1 => Int.ofNat n
theorem idx_sub {n : Nat} (h : n ≤ 1000000) : IntKind.wrap .i64 (Int.ofNat n - Int.ofNat 1) = idxI n := by
  cases n with
  | zero => rfl
  | succ n => exact sub64i (by omega) (by omega)

theorem max_nat (k : IntKind) (a b : Nat) : maxA (.int k (Int.ofNat a)) [.int k (Int.ofNat b)] = some (.int k (Int.ofNat (max a b))) := by
  unfold maxA
  simp only [decide_true, maxA]
  congr 2
  show (if (Int.ofNat a) < (Int.ofNat b) then Int.ofNat b else Int.ofNat a) = Int.ofNat (max a b)
  by_cases h : a < b
  · have h1 : (Int.ofNat a) < (Int.ofNat b) := Int.ofNat_lt.2 h
    rw [if_pos h1, Nat.max_eq_right (Nat.le_of_lt h)]
  · have h1 : ¬ (Int.ofNat a) < (Int.ofNat b) := fun e => h (Int.ofNat_lt.1 e)
    rw [if_neg h1, Nat.max_eq_left (by omega)]
theorem idx_neg : decide ((-1 : Int) ≥ Int.ofNat 0) = false := rfl

theorem x_larger (px : PX X) (ba bb : Bool) (pa pb : Option Addr) (sa sb : Nat) (da db : List Nat) (h : H) (hda : Dig h pa sa da) (hdb : Dig h pb sb db) (ha : small da) (hb : small db) (hla : da.length ≤ 1000) (hlb : db.length ≤ 1000) :
    ∃ r h', callS (EX X) 113 [.agg #[.bool ba, .slice pa da.length sa], .agg #[.bool bb, .slice pb db.length sb]] h = some (r, h') ∧ (Grows h h' ∧ r = .int .i64 (if bval da < bval db then -1 else if bval db < bval da then Int.ofNat 1 else Int.ofNat 0)) := by
  refine call_of px.n113 (gf113 X) rfl (rs := [.tmp 4]) rfl (m := 32) rfl ?_
  repeat (refine W.seq ?_)
  refine W.reg0 ?_
  simp only [opsA, oneA, wantedA, List.length_cons, List.length_nil, Nat.zero_add, Nat.reduceAdd, Nat.reduceSub, enterT, opnds, evs, ev, Tr.get_set, Nat.reduceEqDiff, Tr.get_nil, reduceIte, opA, cls, newA, cellsL_agg, mk, putT, blt_iff, Nat.reduceLT, decide_true, succ0, H.next_new, litI, plain, pureA, regW_some, thenW_normal]
  obtain ⟨hg1, hA, hB, hn1⟩ := two_new h (.cells [.bool ba, .slice pa da.length sa] 135) (.cells [.bool bb, .slice pb db.length sb] 135)
  generalize (h.new (.cells [.bool ba, .slice pa da.length sa] 135)).new (.cells [.bool bb, .slice pb db.length sb] 135) = h1 at hg1 hA hB hn1 ⊢
  repeat (refine W.seq ?_)
  refine W.reg0 ?_
  simp only [opsA, oneA, wantedA, opnds, evs, ev, Tr.get_set, Nat.reduceEqDiff, succ0, Tr.get_nil, reduceIte, opA, cls, pureA, und135, List.getElem?_cons_succ, List.getElem?_cons_zero, size133, Nat.zero_add, putT, blt_iff, Nat.reduceLT, decide_true, loadA, agg133, loadC, rd, hA, seg, ofCells, und133, castI, goInt_nat, hB, max_nat, plain, abin2, abin, idx_sub (show max da.length db.length ≤ 1000000 by omega), regW_some, thenW_normal]
  repeat (refine W.seq ?_)
  refine W.block ?_
  refine W.loop_inv (fun k a hh => k ≤ max da.length db.length ∧ a.n = 32 ∧ Grows h1 hh ∧ a.m.get 2 = some (.pointer (some ⟨h.next, 0, none⟩)) ∧ a.m.get 3 = some (.pointer (some ⟨h.next + 1, 0, none⟩)) ∧
    a.m.get 5 = some (.int .i64 (idxI k)) ∧ ∀ j, k ≤ j → da.getD j 0 = db.getD j 0) ?_ (max da.length db.length) _ _ ?_
  · intro k a hh ⟨hk, hn, hg, g2, g3, g5, heq⟩
    cases k with
    | zero =>
      have he : bval da = bval db := bval_eq_of fun j => heq j (Nat.zero_le _)
      rw [if_neg (by omega), if_neg (by omega)]
      repeat (refine W.seq ?_)
      refine W.reg0 ?_
      simp only [opsA, oneA, wantedA, opnds, evs, ev, g5, idxI, opA, cls, pureA, putT, hn, blt_iff, Nat.reduceLT, decide_true, Tr.get_set, reduceIte, plain, abin2, abin, idx_neg, regW_some, thenW_normal]
      repeat (refine W.seq ?_)
      refine W.cond2 ?_
      simp only [ev, Tr.get_set, Nat.reduceEqDiff, reduceIte, condW_bool]
      refine ⟨fun hc => (by simp at hc), fun _ => ?_⟩
      repeat (refine W.seq ?_)
      refine W.exit ?_
      simp only [thenW_exit, inv_exit, outB_exit, thenW_normal, reduceIte]
      repeat (refine W.seq ?_)
      refine W.reg0 ?_
      simp only [opsA, oneA, wantedA, opnds, evs, ev, plain, opA, cls, pureA, putT, blt_iff, Nat.reduceLT, decide_true, regW_some, thenW_normal]
      repeat (refine W.seq ?_)
      refine W.ret ?_
      simp only [outW, resultA, resA, Tr.get_set, Nat.reduceEqDiff, reduceIte]
      exact ⟨trivial, _, rfl, hg1.trans hg, rfl⟩
    | succ i =>
      have hA' := (hg.get h.next (by omega)).trans hA
      have hB' := (hg.get (h.next + 1) (by omega)).trans hB
      obtain ⟨ra, h2, e2, hg2, rfl⟩ := x_digit px ba pa sa da i hh ((hda.grows hg1).grows hg)
      have hA2 := (hg2.get h.next (by have := hg.next; omega)).trans hA'
      have hB2 := (hg2.get (h.next + 1) (by have := hg.next; omega)).trans hB'
      obtain ⟨rb, h3, e3, hg3, rfl⟩ := x_digit px bb pb sb db i h2 (((hdb.grows hg1).grows hg).grows hg2)
      have hg13 := hg2.trans hg3
      have hA3 := (hg13.get h.next (by have := hg.next; omega)).trans hA'
      have hB3 := (hg13.get (h.next + 1) (by have := hg.next; omega)).trans hB'
      obtain ⟨ra, h4, e4, hg4, rfl⟩ := x_digit px ba pa sa da i h3 (((hda.grows hg1).grows hg).grows hg13)
      have hA4 := (hg4.get h.next (by have := hg.next; have := hg13.next; omega)).trans hA3
      have hB4 := (hg4.get (h.next + 1) (by have := hg.next; have := hg13.next; omega)).trans hB3
      obtain ⟨rb, h5, e5, hg5, rfl⟩ := x_digit px bb pb sb db i h4 ((((hdb.grows hg1).grows hg).grows hg13).grows hg4)
      have hrA : rd hh h.next 0 2 = some [.bool ba, .slice pa da.length sa] := rd_get hA' rfl
      have hrB : rd hh (h.next + 1) 0 2 = some [.bool bb, .slice pb db.length sb] := rd_get hB' rfl
      have hrA2 : rd h2 h.next 0 2 = some [.bool ba, .slice pa da.length sa] := rd_get hA2 rfl
      have hrB2 : rd h2 (h.next + 1) 0 2 = some [.bool bb, .slice pb db.length sb] := rd_get hB2 rfl
      have hrA3 : rd h3 h.next 0 2 = some [.bool ba, .slice pa da.length sa] := rd_get hA3 rfl
      have hrB3 : rd h3 (h.next + 1) 0 2 = some [.bool bb, .slice pb db.length sb] := rd_get hB3 rfl
      have hrA4 : rd h4 h.next 0 2 = some [.bool ba, .slice pa da.length sa] := rd_get hA4 rfl
      have hrB4 : rd h4 (h.next + 1) 0 2 = some [.bool bb, .slice pb db.length sb] := rd_get hB4 rfl
      have hq1 := hda.same ba
      have hq2 := hdb.same bb
      have hsub : IntKind.wrap .i64 (Int.ofNat i - Int.ofNat 1) = idxI i := idx_sub (by omega)
      repeat (refine W.seq ?_)
      refine W.reg0 ?_
      simp only [opsA, oneA, wantedA, opnds, evs, ev, g5, idxI, opA, cls, pureA, putT, hn, blt_iff, Nat.reduceLT, decide_true, Tr.get_set, reduceIte, plain, abin2, abin, dle, regW_some, thenW_normal]
      repeat (refine W.seq ?_)
      refine W.cond2 ?_
      simp only [ev, Tr.get_set, Nat.reduceEqDiff, reduceIte, condW_bool, decide_eq_true_eq, decide_eq_false_iff_not]
      refine ⟨fun _ => ?_, fun hc => (by simp at hc)⟩
      repeat (refine W.seq ?_)
      refine W.skip ?_
      simp only [thenW_normal]
      repeat (refine W.seq ?_)
      refine W.block ?_
      repeat (refine W.seq ?_)
      refine W.plan (st := [(0, 0, false), (1, 0, false), (2, 3, true), (3, 0, false), (4, 0, false), (5, 31, true), (6, 63, false)]) (by kernel_rfl) ?_
      simp only [goP, List.getElem?_cons_zero, stableD, wantedA, ev, Tr.get_set, Nat.reduceEqDiff, g2, reduceIte, size135, hrA, List.length_cons, List.length_nil, Nat.zero_add, Nat.reduceAdd, stab_cons, hq1, stab_nil, Bool.or_true, oneA, opnds, evs, opA, cls, loadA, agg135, loadC, ofCells, putT, blt_iff, Nat.reduceLT, decide_true, List.getElem?_cons_succ, g5, idxI, ite_self, pureA, List.nil_append, List.append_nil, e2, g3, hrB2, hq2, hrB, e3, abin2, abin, dlt, regW_some, thenW_normal]
      repeat (refine W.seq ?_)
      refine W.cond2 ?_
      simp only [ev, Tr.get_set, Nat.reduceEqDiff, reduceIte, condW_bool, decide_eq_true_eq, decide_eq_false_iff_not]
      refine ⟨fun hlt => ?_, fun hge => ?_⟩
      · have := bval_lt_of i da db ha hb (fun j hj => heq j hj) hlt
        rw [if_pos this]
        repeat (refine W.seq ?_)
        refine W.reg0 ?_
        simp only [opsA, oneA, wantedA, opnds, evs, ev, plain, opA, cls, pureA, putT, blt_iff, Nat.reduceLT, decide_true, regW_some, thenW_normal]
        repeat (refine W.seq ?_)
        refine W.ret ?_
        simp only [thenW_ret, outB_ret, inv_ret, outW, resultA, resA, Tr.get_set, Nat.reduceEqDiff, reduceIte]
        exact ⟨trivial, _, rfl, (hg1.trans hg).trans hg13, rfl⟩
      · repeat (refine W.seq ?_)
        refine W.skip ?_
        simp only [thenW_normal]
        repeat (refine W.seq ?_)
        refine W.plan (st := [(0, 0, false), (1, 0, false), (2, 3, true), (3, 0, false), (4, 0, false), (5, 31, true), (6, 63, false)]) (by kernel_rfl) ?_
        simp only [goP, List.getElem?_cons_zero, stableD, wantedA, ev, Tr.get_set, Nat.reduceEqDiff, g2, reduceIte, size135, hrA3, List.length_cons, List.length_nil, Nat.zero_add, Nat.reduceAdd, stab_cons, hq1, stab_nil, Bool.or_true, oneA, opnds, evs, opA, cls, loadA, agg135, loadC, ofCells, putT, blt_iff, Nat.reduceLT, decide_true, List.getElem?_cons_succ, g5, idxI, ite_self, pureA, List.nil_append, List.append_nil, e4, g3, hrB4, hq2, hrB3, e5, abin2, abin, dlt, regW_some, thenW_normal]
        repeat (refine W.seq ?_)
        refine W.cond2 ?_
        simp only [ev, Tr.get_set, Nat.reduceEqDiff, reduceIte, condW_bool, decide_eq_true_eq, decide_eq_false_iff_not]
        refine ⟨fun hgt => ?_, fun hle => ?_⟩
        · have := bval_lt_of i db da hb ha (fun j hj => (heq j hj).symm) hgt
          rw [if_neg (by omega), if_pos this]
          repeat (refine W.seq ?_)
          refine W.reg0 ?_
          simp only [opsA, oneA, wantedA, opnds, evs, ev, plain, opA, cls, pureA, putT, blt_iff, Nat.reduceLT, decide_true, regW_some, thenW_normal]
          repeat (refine W.seq ?_)
          refine W.ret ?_
          simp only [outB_ret, thenW_ret, inv_ret, outW, resultA, resA, Tr.get_set, Nat.reduceEqDiff, reduceIte]
          exact ⟨trivial, _, rfl, ((hg1.trans hg).trans hg13).trans (hg4.trans hg5), rfl⟩
        · repeat (refine W.seq ?_)
          refine W.skip ?_
          simp only [outB_normal, thenW_normal]
          repeat (refine W.seq ?_)
          refine W.reg0 ?_
          simp only [opsA, oneA, wantedA, opnds, evs, ev, Tr.get_set, Nat.reduceEqDiff, g5, idxI, ite_self, reduceIte, opA, cls, pureA, putT, blt_iff, Nat.reduceLT, decide_true, plain, abin2, abin, hsub, regW_some, inv_normal]
          refine ⟨i, Nat.lt_succ_self i, by omega, ?_⟩
          simp only [g2, g3]
          refine ⟨trivial, (hg.trans hg13).trans (hg4.trans hg5), trivial, trivial, trivial, fun j hj => ?_⟩
          by_cases hji : j = i
          · subst hji; omega
          · exact heq j (by omega)
  · simp only [Tr.get_set, Nat.reduceEqDiff, succ0, Tr.get_nil, reduceIte]
    refine ⟨Nat.le_refl _, trivial, Grows.refl _, (by first | trivial | rfl), (by first | trivial | rfl), (by first | trivial | rfl), fun j hj => ?_⟩
    rw [getD_out (by omega), getD_out (by omega)]
end Go.Proofs.YtkoccbggjfbgaaaGreatDoor
end

section
open Go.Eng
set_option maxRecDepth 100000
set_option linter.unusedSimpArgs false
set_option linter.unusedVariables false
namespace Go.Proofs.YtkoccbggjfbgaaaGreatDoor
variable {X : Tr Nat}

theorem View.set_other {t t' : TypeId} {h : H} {v : Value} {cs cs' : List Value} (a : View t h v cs) {o : Nat} (ho : h.get o = some (.cells cs' t')) (ht : t' ≠ t) (x : AObj) : View t (h.set o x) v cs := by
  obtain ⟨p, s, e, k⟩ := a
  refine ⟨p, s, e, fun hne => ?_⟩
  obtain ⟨hs, o', off, all, e1, e2, e3, e4⟩ := k hne
  refine ⟨hs, o', off, all, e1, e2, ?_, e4⟩
  rw [H.get_set, if_neg]
  · exact e3
  · intro e5
    subst e5
    rw [ho] at e3
    simp only [Option.some.injEq, AObj.cells.injEq] at e3
    exact ht e3.2
theorem Dig.set_other {h : H} {p : Option Addr} {s : Nat} {ds : List Nat} (a : Dig h p s ds) {o : Nat} {cs' : List Value} (ho : h.get o = some (.cells cs' 135)) (x : AObj) : Dig (h.set o x) p s ds :=
  ⟨View.set_other a.1 ho (by decide) x, a.2⟩
theorem IsBig.set_other {h : H} {v : Value} {z : Int} (a : IsBig h v z) {o : Nat} {cs' : List Value} (ho : h.get o = some (.cells cs' 135)) (x : AObj) : IsBig (h.set o x) v z := by
  obtain ⟨p, s, ds, e, h1, h2⟩ := a
  exact ⟨p, s, ds, e, h1.set_other ho x, h2⟩

theorem x_neg (px : PX X) (V : Value) (z : Int) (h : H) (hV : IsBig h V z) : ∃ r h', callS (EX X) 147 [V] h = some (r, h') ∧ (Grows h h' ∧ IsBig h' r (-z)) := by
  obtain ⟨p, s, ds, rfl, hd, hs, hl, hv, hb⟩ := hV
  refine call_of px.n147 (gf147 X) rfl (rs := [.cell 2 135]) rfl (m := 10) rfl ?_
  have hlen := canon_len hl (by rw [hv]; exact hb)
  generalize hna : decide (z < 0) = na
  repeat (refine W.seq ?_)
  refine W.reg0 ?_
  simp only [opsA, oneA, wantedA, List.length_cons, List.length_nil, Nat.zero_add, Nat.reduceSub, Nat.reduceAdd, enterT, opnds, evs, ev, Tr.get_set, Tr.get_nil, reduceIte, opA, cls, newA, cellsL_agg, mk, putT, blt_iff, Nat.reduceLT, decide_true, btX, beq_iff, Nat.reduceEqDiff, decide_false, zero135, plain, List.all_cons, List.all_nil, Bool.and_self, H.next_new, regW_some, thenW_normal]
  obtain ⟨hg1, hA, hB, hn1⟩ := two_new h (.cells [.bool na, .slice p ds.length s] 135) (.cells [.bool false, .slice none 0 0] 135)
  generalize (h.new (.cells [.bool na, .slice p ds.length s] 135)).new (.cells [.bool false, .slice none 0 0] 135) = h1 at hg1 hA hB hn1 ⊢
  obtain ⟨r, h2, e2, hg2, p', s', es, rfl, hd2, hs2, hl2, hv2⟩ := x_trim px (!na) p s ds h1 (hd.grows hg1) hs (by omega)
  have hB2 := (hg2.get (h.next + 1) (by omega)).trans hB
  repeat (refine W.seq ?_)
  refine W.reg0 ?_
  simp only [opsA, oneA, wantedA, opnds, evs, ev, Tr.get_set, Nat.reduceEqDiff, succ0, Tr.get_nil, reduceIte, opA, cls, pureA, und135, List.getElem?_cons_zero, size4, Nat.add_zero, putT, blt_iff, Nat.reduceLT, decide_true, loadA, agg4, loadC, rd, hA, seg, ofCells, ite_self, List.getElem?_cons_succ, size133, Nat.zero_add, agg133, List.map_cons, List.map_nil, zero135, plain, List.all_cons, List.all_nil, Bool.and_self, cellsL_agg, List.zip_cons_cons, List.zip_nil_left, fillA, placeS, cellsN_bool, beq_iff, cellsL_bool, splice, cellsN_slice, cellsL_slice, List.nil_append, List.append_nil, e2, effA, size135, cellsN_agg, List.size_toArray, List.length_cons, List.length_nil, Nat.reduceAdd, wr, hB2, cellv, undef, regW_some, thenW_normal]
  repeat (refine W.seq ?_)
  refine W.ret ?_
  simp only [outW, resultA, resA, Tr.get_set, Nat.reduceEqDiff, succ0, Tr.get_nil, reduceIte, loadA, agg135, loadC, size135, rd, H.get_set, seg, ofCells]
  refine ⟨trivial, _, rfl, (hg1.trans hg2).set (by omega) _, p', s', es, ?_, hd2.set_other hB2 _, hs2, hl2, by rw [hv2, hv]; omega, by omega⟩
  have : decide (-z < 0) = (!na && decide (bval ds ≠ 0)) := by
    rw [← hna, hv, Bool.eq_iff_iff]
    simp only [decide_eq_true_eq, ne_eq, Bool.and_eq_true, Bool.not_eq_true', decide_eq_false_iff_not]
    omega
  rw [this]

theorem x_add (px : PX X) (V V' : Value) (a b : Int) (h : H) (hV : IsBig h V a) (hV' : IsBig h V' b) (hab : (a + b).natAbs < 10000 ^ 10) : ∃ r h', callS (EX X) 83 [V, V'] h = some (r, h') ∧ (Grows h h' ∧ IsBig h' r (a + b)) := by
  obtain ⟨p, s, ds, rfl, hd, hs, hl, hv, hb⟩ := hV
  obtain ⟨p', s', ds', rfl, hd', hs', hl', hv', hb'⟩ := hV'
  refine call_of px.n83 (gf83 X) rfl (rs := [.cell 4 135]) rfl (m := 35) rfl ?_
  have hlen := canon_len hl (by rw [hv]; exact hb)
  have hlen' := canon_len hl' (by rw [hv']; exact hb')
  generalize hna : decide (a < 0) = na
  generalize hnb : decide (b < 0) = nb
  repeat (refine W.seq ?_)
  refine W.reg0 ?_
  simp only [opsA, oneA, wantedA, List.length_cons, List.length_nil, Nat.zero_add, Nat.reduceAdd, Nat.reduceSub, enterT, opnds, evs, ev, Tr.get_set, Nat.reduceEqDiff, Tr.get_nil, reduceIte, opA, cls, newA, cellsL_agg, mk, putT, blt_iff, Nat.reduceLT, decide_true, succ0, H.next_new, btX, beq_iff, decide_false, zero135, plain, List.all_cons, List.all_nil, Bool.and_self, litI, regW_some, thenW_normal]
  obtain ⟨hg1, hA, hB, hC, hn1⟩ := three_new h (.cells [.bool na, .slice p ds.length s] 135) (.cells [.bool nb, .slice p' ds'.length s'] 135) (.cells [.bool false, .slice none 0 0] 135)
  generalize ((h.new (.cells [.bool na, .slice p ds.length s] 135)).new (.cells [.bool nb, .slice p' ds'.length s'] 135)).new (.cells [.bool false, .slice none 0 0] 135) = h1 at hg1 hA hB hC hn1 ⊢
  have hq1 := hd.same na
  have hq2 := hd'.same nb
  have hrA : rd h1 h.next 0 2 = some [.bool na, .slice p ds.length s] := rd_get hA rfl
  have hrB : rd h1 (h.next + 1) 0 2 = some [.bool nb, .slice p' ds'.length s'] := rd_get hB rfl
  have hrA1 : rd h1 h.next 0 1 = some [.bool na] := rd_get hA rfl
  have hrB1 : rd h1 (h.next + 1) 0 1 = some [.bool nb] := rd_get hB rfl
  repeat (refine W.seq ?_)
  refine W.reg0 ?_
  simp only [opsA, oneA, wantedA, opnds, evs, ev, Tr.get_set, Nat.reduceEqDiff, succ0, Tr.get_nil, reduceIte, opA, cls, pureA, und135, List.getElem?_cons_zero, size4, Nat.add_zero, putT, blt_iff, Nat.reduceLT, decide_true, loadA, agg4, loadC, rd, hA, seg, ofCells, hB, abin2, abin, isEq]
  repeat (refine W.seq ?_)
  refine W.cond2 ?_
  simp only [ev, Tr.get_set, Nat.reduceEqDiff, succ0, Tr.get_nil, reduceIte, condW_bool]
  refine ⟨fun heq => ?_, fun hne => ?_⟩
  · have heq : na = nb := by revert heq; cases na <;> cases nb <;> simp
    have hsg : (a < 0 ∧ b < 0) ∨ (0 ≤ a ∧ 0 ≤ b) := by
      rw [← hna, ← hnb] at heq
      have := decide_eq_decide.1 heq
      by_cases h1 : a < 0
      · exact .inl ⟨h1, this.1 h1⟩
      · exact .inr ⟨by omega, by have := mt this.2 h1; omega⟩
    obtain ⟨r2, h2, e2, hg2, p2, s2, es2, rfl, hd2, hs2, hle2, hv2⟩ := x_plus px na nb p p' s s' ds ds' h1 (hd.grows hg1) (hd'.grows hg1) hs hs' (by omega) (by omega)
    have hA2 := (hg2.get h.next (by omega)).trans hA
    have hB2 := (hg2.get (h.next + 1) (by omega)).trans hB
    have hC2 := (hg2.get (h.next + 2) (by omega)).trans hC
    have hrA2 : rd h2 h.next 0 1 = some [.bool na] := rd_get hA2 rfl
    have hrB2 : rd h2 (h.next + 1) 0 1 = some [.bool nb] := rd_get hB2 rfl
    obtain ⟨r3, h3, e3, hg3, p3, s3, es3, rfl, hd3, hs3, hl3, hv3⟩ := x_trim px na p2 s2 es2 h2 hd2 hs2 (by omega)
    have hC3 := (hg3.get (h.next + 2) (by have := hg2.next; omega)).trans hC2
    repeat (refine W.seq ?_)
    refine W.plan (st := [(2, 0, false), (3, 0, false), (4, 12, true), (0, 0, false), (1, 1, false), (5, 31, false), (6, 63, true), (7, 127, true)]) (by kernel_rfl) ?_
    simp only [goP, List.getElem?_cons_succ, List.getElem?_cons_zero, stableD, wantedA, ev, Tr.get_set, Nat.reduceEqDiff, succ0, Tr.get_nil, reduceIte, ite_self, size135, hrA, List.length_cons, List.length_nil, Nat.zero_add, Nat.reduceAdd, stab_cons, hq1, stab_nil, Bool.or_true, oneA, opnds, evs, opA, cls, loadA, agg135, loadC, ofCells, putT, blt_iff, Nat.reduceLT, decide_true, hrB, hq2, List.nil_append, List.append_nil, e2, pureA, und135, size4, Nat.add_zero, hrA2, List.all_cons, cell1, List.all_nil, Bool.and_self, sameL_refl, hrA1, agg4, List.map_cons, List.map_nil, zero135, plain, cellsL_agg, List.zip_cons_cons, List.zip_nil_left, fillA, placeS, cellsN_bool, beq_iff, cellsL_bool, splice, size133, cellsN_slice, cellsL_slice, e3, effA, cellsN_agg, List.size_toArray, wr, hC3, cellv, undef, regW_some, thenW_normal]
    repeat (refine W.seq ?_)
    refine W.ret ?_
    simp only [thenW_ret, outW, resultA, resA, Tr.get_set, Nat.reduceEqDiff, succ0, Tr.get_nil, reduceIte, loadA, agg135, loadC, size135, rd, H.get_set, seg, ofCells]
    refine ⟨trivial, _, rfl, ((hg1.trans hg2).trans hg3).set (by omega) _, p3, s3, es3, ?_, hd3.set_other hC3 _, hs3, hl3, ?_, hab⟩
    · have : decide (a + b < 0) = (na && decide (bval es2 ≠ 0)) := by
        rw [hv2, hv, hv', ← hna, Bool.eq_iff_iff]
        simp only [decide_eq_true_eq, ne_eq, Bool.and_eq_true]
        rcases hsg with hsg | hsg <;> constructor <;> intro hh <;> first | exact hh.elim | omega
      rw [this]
    · rw [hv3, hv2, hv, hv']
      omega
  · have hne : na ≠ nb := by revert hne; cases na <;> cases nb <;> simp
    have hsg : (a < 0 ∧ 0 ≤ b ∧ na = true ∧ nb = false) ∨ (0 ≤ a ∧ b < 0 ∧ na = false ∧ nb = true) := by
      rw [← hna, ← hnb] at hne ⊢
      by_cases h1 : a < 0 <;> by_cases h2 : b < 0 <;> simp [h1, h2] at hne ⊢ <;> omega
    obtain ⟨r2, h2, e2, hg2, hr2⟩ := x_larger px na nb p p' s s' ds ds' h1 (hd.grows hg1) (hd'.grows hg1) hs hs' (by omega) (by omega)
    have hA2 := (hg2.get h.next (by omega)).trans hA
    have hB2 := (hg2.get (h.next + 1) (by omega)).trans hB
    have hC2 := (hg2.get (h.next + 2) (by omega)).trans hC
    have hrA2 : rd h2 h.next 0 2 = some [.bool na, .slice p ds.length s] := rd_get hA2 rfl
    have hrB2 : rd h2 (h.next + 1) 0 2 = some [.bool nb, .slice p' ds'.length s'] := rd_get hB2 rfl
    have hrA21 : rd h2 h.next 0 1 = some [.bool na] := rd_get hA2 rfl
    have hrB21 : rd h2 (h.next + 1) 0 1 = some [.bool nb] := rd_get hB2 rfl
    by_cases hlt : bval ds < bval ds'
    · rw [if_pos hlt] at hr2
      subst hr2
      obtain ⟨r3, h3, e3, hg3, p3, s3, es3, rfl, hd3, hs3, hle3, hv3⟩ := x_minus px nb na p' p s' s ds' ds h2 ((hd'.grows hg1).grows hg2) ((hd.grows hg1).grows hg2) hs' hs (by omega) (by omega)
      have hB3 := (hg3.get (h.next + 1) (by have := hg2.next; omega)).trans hB2
      have hC3 := (hg3.get (h.next + 2) (by have := hg2.next; omega)).trans hC2
      have hrB3 : rd h3 (h.next + 1) 0 1 = some [.bool nb] := rd_get hB3 rfl
      obtain ⟨r4, h4, e4, hg4, p4, s4, es4, rfl, hd4, hs4, hl4, hv4⟩ := x_trim px nb p3 s3 es3 h3 hd3 hs3 (by omega)
      have hC4 := (hg4.get (h.next + 2) (by have := hg2.next; have := hg3.next; omega)).trans hC3
      repeat (refine W.seq ?_)
      refine W.skip ?_
      simp only [thenW_normal]
      repeat (refine W.seq ?_)
      refine W.reg0 ?_
      simp only [opsA, oneA, wantedA, opnds, evs, ev, Tr.get_set, Nat.reduceEqDiff, succ0, Tr.get_nil, reduceIte, ite_self, opA, cls, loadA, agg135, loadC, size135, hrA, ofCells, putT, blt_iff, Nat.reduceLT, decide_true, hrB, List.nil_append, List.append_nil, e2, plain, pureA, abin2, abin, idx_neg, regW_some, thenW_normal]
      repeat (refine W.seq ?_)
      refine W.cond2 ?_
      simp only [ev, Tr.get_set, Nat.reduceEqDiff, succ0, Tr.get_nil, reduceIte, condW_bool]
      refine ⟨fun hc => (by simp at hc), fun _ => ?_⟩
      repeat (refine W.seq ?_)
      refine W.skip ?_
      simp only [thenW_normal]
      repeat (refine W.seq ?_)
      refine W.plan (st := [(2, 0, false), (3, 0, false), (4, 12, true), (0, 0, false), (1, 1, false), (5, 31, false), (6, 63, true), (7, 127, true)]) (by kernel_rfl) ?_
      simp only [goP, List.getElem?_cons_succ, List.getElem?_cons_zero, stableD, wantedA, ev, Tr.get_set, Nat.reduceEqDiff, succ0, Tr.get_nil, reduceIte, ite_self, size135, hrB2, List.length_cons, List.length_nil, Nat.zero_add, Nat.reduceAdd, stab_cons, hq2, stab_nil, Bool.or_true, oneA, opnds, evs, opA, cls, loadA, agg135, loadC, ofCells, putT, blt_iff, Nat.reduceLT, decide_true, hrA2, hq1, List.nil_append, List.append_nil, e3, pureA, und135, size4, Nat.add_zero, hrB3, List.all_cons, cell1, List.all_nil, Bool.and_self, sameL_refl, hrB21, agg4, List.map_cons, List.map_nil, zero135, plain, cellsL_agg, List.zip_cons_cons, List.zip_nil_left, fillA, placeS, cellsN_bool, beq_iff, cellsL_bool, splice, size133, cellsN_slice, cellsL_slice, e4, effA, cellsN_agg, List.size_toArray, wr, hC4, cellv, undef, regW_some, thenW_normal]
      repeat (refine W.seq ?_)
      refine W.ret ?_
      simp only [outW, resultA, resA, Tr.get_set, Nat.reduceEqDiff, succ0, Tr.get_nil, reduceIte, loadA, agg135, loadC, size135, rd, H.get_set, seg, ofCells]
      refine ⟨trivial, _, rfl, (((hg1.trans hg2).trans hg3).trans hg4).set (by omega) _, p4, s4, es4, ?_, hd4.set_other hC4 _, hs4, hl4, ?_, hab⟩
      · have : decide (a + b < 0) = (nb && decide (bval es3 ≠ 0)) := by
          rw [hv3, Bool.eq_iff_iff]
          rcases hsg with ⟨h1, h2, h3, h4⟩ | ⟨h1, h2, h3, h4⟩ <;> rw [h4] <;> simp only [decide_eq_true_eq, ne_eq, Bool.false_and, Bool.false_eq_true, Bool.true_and] <;> constructor <;> intro hh <;> first | exact hh.elim | omega
        rw [this]
      · rw [hv4, hv3]; omega
    · rw [if_neg hlt] at hr2
      obtain ⟨m, rfl⟩ : ∃ m : Nat, r2 = .int .i64 (Int.ofNat m) := by
        split at hr2
        · exact ⟨1, hr2⟩
        · exact ⟨0, hr2⟩
      obtain ⟨r3, h3, e3, hg3, p3, s3, es3, rfl, hd3, hs3, hle3, hv3⟩ := x_minus px na nb p p' s s' ds ds' h2 ((hd.grows hg1).grows hg2) ((hd'.grows hg1).grows hg2) hs hs' (by omega) (by omega)
      have hA3 := (hg3.get h.next (by have := hg2.next; omega)).trans hA2
      have hC3 := (hg3.get (h.next + 2) (by have := hg2.next; omega)).trans hC2
      have hrA3 : rd h3 h.next 0 1 = some [.bool na] := rd_get hA3 rfl
      obtain ⟨r4, h4, e4, hg4, p4, s4, es4, rfl, hd4, hs4, hl4, hv4⟩ := x_trim px na p3 s3 es3 h3 hd3 hs3 (by omega)
      have hC4 := (hg4.get (h.next + 2) (by have := hg2.next; have := hg3.next; omega)).trans hC3
      repeat (refine W.seq ?_)
      refine W.skip ?_
      simp only [thenW_normal]
      repeat (refine W.seq ?_)
      refine W.reg0 ?_
      simp only [opsA, oneA, wantedA, opnds, evs, ev, Tr.get_set, Nat.reduceEqDiff, succ0, Tr.get_nil, reduceIte, ite_self, opA, cls, loadA, agg135, loadC, size135, hrA, ofCells, putT, blt_iff, Nat.reduceLT, decide_true, hrB, List.nil_append, List.append_nil, e2, plain, pureA, abin2, abin, dle, Nat.zero_le, regW_some, thenW_normal]
      repeat (refine W.seq ?_)
      refine W.cond2 ?_
      simp only [ev, Tr.get_set, Nat.reduceEqDiff, succ0, Tr.get_nil, reduceIte, condW_bool]
      refine ⟨fun _ => ?_, fun hc => (by simp at hc)⟩
      repeat (refine W.seq ?_)
      refine W.plan (st := [(2, 0, false), (3, 0, false), (4, 12, true), (0, 0, false), (1, 1, false), (5, 31, false), (6, 63, true), (7, 127, true)]) (by kernel_rfl) ?_
      simp only [goP, List.getElem?_cons_succ, List.getElem?_cons_zero, stableD, wantedA, ev, Tr.get_set, Nat.reduceEqDiff, succ0, Tr.get_nil, reduceIte, ite_self, size135, hrA2, List.length_cons, List.length_nil, Nat.zero_add, Nat.reduceAdd, stab_cons, hq1, stab_nil, Bool.or_true, oneA, opnds, evs, opA, cls, loadA, agg135, loadC, ofCells, putT, blt_iff, Nat.reduceLT, decide_true, hrB2, hq2, List.nil_append, List.append_nil, e3, pureA, und135, size4, Nat.add_zero, hrA3, List.all_cons, cell1, List.all_nil, Bool.and_self, sameL_refl, hrA21, agg4, List.map_cons, List.map_nil, zero135, plain, cellsL_agg, List.zip_cons_cons, List.zip_nil_left, fillA, placeS, cellsN_bool, beq_iff, cellsL_bool, splice, size133, cellsN_slice, cellsL_slice, e4, effA, cellsN_agg, List.size_toArray, wr, hC4, cellv, undef, regW_some, thenW_normal]
      repeat (refine W.seq ?_)
      refine W.ret ?_
      simp only [thenW_ret, outW, resultA, resA, Tr.get_set, Nat.reduceEqDiff, succ0, Tr.get_nil, reduceIte, loadA, agg135, loadC, size135, rd, H.get_set, seg, ofCells]
      refine ⟨trivial, _, rfl, (((hg1.trans hg2).trans hg3).trans hg4).set (by omega) _, p4, s4, es4, ?_, hd4.set_other hC4 _, hs4, hl4, ?_, hab⟩
      · have : decide (a + b < 0) = (na && decide (bval es3 ≠ 0)) := by
          rw [hv3, Bool.eq_iff_iff]
          rcases hsg with ⟨h1, h2, h3, h4⟩ | ⟨h1, h2, h3, h4⟩ <;> rw [h3] <;> simp only [decide_eq_true_eq, ne_eq, Bool.true_and, Bool.false_and, Bool.false_eq_true] <;> constructor <;> intro hh <;> first | exact hh.elim | omega
        rw [this]
      · rw [hv4, hv3]; omega

theorem x_sub (px : PX X) (V V' : Value) (a b : Int) (h : H) (hV : IsBig h V a) (hV' : IsBig h V' b) (hab : (a - b).natAbs < 10000 ^ 10) : ∃ r h', callS (EX X) 110 [V, V'] h = some (r, h') ∧ (Grows h h' ∧ IsBig h' r (a - b)) := by
  have hV0 := hV
  have hV0' := hV'
  obtain ⟨p, s, ds, rfl, hd, hs, hl, hv, hb⟩ := hV
  obtain ⟨p', s', ds', rfl, hd', hs', hl', hv', hb'⟩ := hV'
  refine call_of px.n110 (gf110 X) rfl (rs := [.cell 4 135]) rfl (m := 9) rfl ?_
  generalize decide (a < 0) = na at hV0 ⊢
  generalize decide (b < 0) = nb at hV0' ⊢
  repeat (refine W.seq ?_)
  refine W.reg0 ?_
  simp only [opsA, oneA, wantedA, List.length_cons, List.length_nil, Nat.zero_add, Nat.reduceAdd, Nat.reduceSub, enterT, opnds, evs, ev, Tr.get_set, Nat.reduceEqDiff, Tr.get_nil, reduceIte, opA, cls, newA, cellsL_agg, mk, putT, blt_iff, Nat.reduceLT, decide_true, succ0, H.next_new, btX, beq_iff, decide_false, zero135, plain, List.all_cons, List.all_nil, Bool.and_self, regW_some, thenW_normal]
  obtain ⟨hg1, hA, hB, hC, hn1⟩ := three_new h (.cells [.bool na, .slice p ds.length s] 135) (.cells [.bool nb, .slice p' ds'.length s'] 135) (.cells [.bool false, .slice none 0 0] 135)
  generalize ((h.new (.cells [.bool na, .slice p ds.length s] 135)).new (.cells [.bool nb, .slice p' ds'.length s'] 135)).new (.cells [.bool false, .slice none 0 0] 135) = h1 at hg1 hA hB hC hn1 ⊢
  have hq1 := hd.same na
  have hq2 := hd'.same nb
  have hrB : rd h1 (h.next + 1) 0 2 = some [.bool nb, .slice p' ds'.length s'] := rd_get hB rfl
  have hrA : rd h1 h.next 0 2 = some [.bool na, .slice p ds.length s] := rd_get hA rfl
  obtain ⟨r2, h2, e2, hg2, hb2⟩ := x_neg px _ b h1 (hV0'.grows hg1)
  have hA2 := (hg2.get h.next (by omega)).trans hA
  have hC2 := (hg2.get (h.next + 2) (by omega)).trans hC
  have hrA2 : rd h2 h.next 0 2 = some [.bool na, .slice p ds.length s] := rd_get hA2 rfl
  obtain ⟨r3, h3, e3, hg3, hb3⟩ := x_add px _ _ a (-b) h2 ((hV0.grows hg1).grows hg2) hb2 (by rw [show a + -b = a - b by omega]; exact hab)
  have hC3 := (hg3.get (h.next + 2) (by have := hg2.next; omega)).trans hC2
  rw [show a + -b = a - b by omega] at hb3
  have hb3' := hb3
  obtain ⟨p4, s4, es4, rfl, hd4, hs4⟩ := hb3
  repeat (refine W.seq ?_)
  refine W.plan (st := [(1, 0, false), (2, 2, true), (0, 0, false), (3, 7, true), (4, 15, true)]) (by kernel_rfl) ?_
  simp only [goP, List.getElem?_cons_succ, List.getElem?_cons_zero, stableD, wantedA, ev, Tr.get_set, Nat.reduceEqDiff, succ0, Tr.get_nil, reduceIte, size135, hrB, List.length_cons, List.length_nil, Nat.zero_add, Nat.reduceAdd, stab_cons, hq2, stab_nil, Bool.or_true, oneA, opnds, evs, opA, cls, loadA, agg135, loadC, ofCells, putT, blt_iff, Nat.reduceLT, decide_true, List.nil_append, List.append_nil, e2, hrA2, hq1, hrA, e3, effA, cellsN_agg, List.size_toArray, beq_iff, wr, hC3, cellsL_agg, List.all_cons, cellv, List.all_nil, Bool.and_self, splice, undef, regW_some, thenW_normal]
  repeat (refine W.seq ?_)
  refine W.ret ?_
  simp only [outW, resultA, resA, Tr.get_set, Nat.reduceEqDiff, succ0, Tr.get_nil, reduceIte, loadA, agg135, loadC, size135, rd, H.get_set, seg, ofCells]
  exact ⟨trivial, _, rfl, ((hg1.trans hg2).trans hg3).set (by omega) _, hb3'.set_other hC3 _⟩

theorem x_sign (px : PX X) (V : Value) (z : Int) (h : H) (hV : IsBig h V z) : ∃ r h', callS (EX X) 109 [V] h = some (r, h') ∧ (Grows h h' ∧ r = .int .i64 (if z < 0 then -1 else if z = 0 then Int.ofNat 0 else Int.ofNat 1)) := by
  obtain ⟨p, s, ds, rfl, hd, hs, hl, hv, hb⟩ := hV
  refine call_of px.n109 (gf109 X) rfl (rs := [.tmp 2]) rfl (m := 9) rfl ?_
  generalize hna : decide (z < 0) = na
  repeat (refine W.seq ?_)
  refine W.reg0 ?_
  simp only [opsA, oneA, wantedA, List.length_cons, List.length_nil, Nat.zero_add, Nat.reduceSub, Nat.reduceAdd, enterT, opnds, evs, ev, Tr.get_set, Tr.get_nil, reduceIte, opA, cls, newA, cellsL_agg, mk, putT, blt_iff, Nat.reduceLT, decide_true, litI, plain, pureA, regW_some, thenW_normal]
  have hg1 : Grows h (h.new (.cells [.bool na, .slice p ds.length s] 135)) := (Grows.refl h).new _
  have hA : (h.new (.cells [.bool na, .slice p ds.length s] 135)).get h.next = some (.cells [.bool na, .slice p ds.length s] 135) := H.get_new' _ _
  generalize h.new (.cells [.bool na, .slice p ds.length s] 135) = h1 at hg1 hA ⊢
  repeat (refine W.seq ?_)
  refine W.reg0 ?_
  simp only [opsA, oneA, wantedA, opnds, evs, ev, Tr.get_set, Nat.reduceEqDiff, succ0, Tr.get_nil, reduceIte, opA, cls, pureA, und135, List.getElem?_cons_succ, List.getElem?_cons_zero, size133, Nat.zero_add, putT, blt_iff, Nat.reduceLT, decide_true, loadA, agg133, loadC, rd, hA, seg, ofCells, und133, castI, goInt_nat, plain, abin2, abin, deq, regW_some, thenW_normal]
  repeat (refine W.seq ?_)
  refine W.cond2 ?_
  simp only [ev, Tr.get_set, Nat.reduceEqDiff, succ0, Tr.get_nil, reduceIte, condW_bool, decide_eq_true_eq, decide_eq_false_iff_not]
  refine ⟨fun h0 => ?_, fun h0 => ?_⟩
  · have : bval ds = 0 := by rw [List.eq_nil_of_length_eq_zero h0]; rfl
    rw [if_neg (by omega), if_pos (by omega)]
    repeat (refine W.seq ?_)
    refine W.reg0 ?_
    simp only [opsA, oneA, wantedA, opnds, evs, ev, plain, opA, cls, pureA, putT, blt_iff, Nat.reduceLT, decide_true, regW_some, thenW_normal]
    repeat (refine W.seq ?_)
    refine W.ret ?_
    simp only [thenW_ret, outW, resultA, resA, Tr.get_set, Nat.reduceEqDiff, succ0, Tr.get_nil, reduceIte, ite_self]
    exact ⟨trivial, _, rfl, hg1, rfl⟩
  · have : bval ds ≠ 0 := fun e => by
      rw [bval_zero hl e] at h0; simp at h0
    repeat (refine W.seq ?_)
    refine W.skip ?_
    simp only [thenW_normal]
    repeat (refine W.seq ?_)
    refine W.reg0 ?_
    simp only [opsA, oneA, wantedA, opnds, evs, ev, Tr.get_set, Nat.reduceEqDiff, succ0, Tr.get_nil, reduceIte, opA, cls, pureA, und135, List.getElem?_cons_zero, size4, Nat.add_zero, putT, blt_iff, Nat.reduceLT, decide_true, loadA, agg4, loadC, rd, hA, seg, ofCells, regW_some, thenW_normal]
    repeat (refine W.seq ?_)
    refine W.cond2 ?_
    simp only [ev, Tr.get_set, Nat.reduceEqDiff, succ0, Tr.get_nil, reduceIte, condW_bool]
    refine ⟨fun h1 => ?_, fun h1 => ?_⟩
    · rw [h1] at hna
      rw [if_pos (by simpa using hna)]
      repeat (refine W.seq ?_)
      refine W.reg0 ?_
      simp only [opsA, oneA, wantedA, opnds, evs, ev, plain, opA, cls, pureA, putT, blt_iff, Nat.reduceLT, decide_true, regW_some, thenW_normal]
      repeat (refine W.seq ?_)
      refine W.ret ?_
      simp only [thenW_ret, outW, resultA, resA, Tr.get_set, Nat.reduceEqDiff, succ0, Tr.get_nil, reduceIte]
      exact ⟨trivial, _, rfl, hg1, rfl⟩
    · rw [h1] at hna
      have : ¬ z < 0 := by simpa using hna
      rw [if_neg this, if_neg (by omega)]
      repeat (refine W.seq ?_)
      refine W.skip ?_
      simp only [thenW_normal]
      repeat (refine W.seq ?_)
      refine W.reg0 ?_
      simp only [opsA, oneA, wantedA, opnds, evs, ev, plain, opA, cls, pureA, putT, blt_iff, Nat.reduceLT, decide_true, regW_some, thenW_normal]
      repeat (refine W.seq ?_)
      refine W.ret ?_
      simp only [outW, resultA, resA, Tr.get_set, Nat.reduceEqDiff, succ0, Tr.get_nil, reduceIte]
      exact ⟨trivial, _, rfl, hg1, rfl⟩

theorem x_cmp (px : PX X) (V V' : Value) (a b : Int) (h : H) (hV : IsBig h V a) (hV' : IsBig h V' b) (hab : (a - b).natAbs < 10000 ^ 10) : ∃ r h', callS (EX X) 81 [V, V'] h = some (r, h') ∧ (Grows h h' ∧ r = .int .i64 (if a - b < 0 then -1 else if a - b = 0 then Int.ofNat 0 else Int.ofNat 1)) := by
  have hV0 := hV
  have hV0' := hV'
  obtain ⟨p, s, ds, rfl, hd, hs, hl, hv, hb⟩ := hV
  obtain ⟨p', s', ds', rfl, hd', hs', hl', hv', hb'⟩ := hV'
  refine call_of px.n81 (gf81 X) rfl (rs := [.tmp 4]) rfl (m := 9) rfl ?_
  generalize decide (a < 0) = na at hV0 ⊢
  generalize decide (b < 0) = nb at hV0' ⊢
  repeat (refine W.seq ?_)
  refine W.reg0 ?_
  simp only [opsA, oneA, wantedA, List.length_cons, List.length_nil, Nat.zero_add, Nat.reduceAdd, Nat.reduceSub, enterT, opnds, evs, ev, Tr.get_set, Nat.reduceEqDiff, Tr.get_nil, reduceIte, opA, cls, newA, cellsL_agg, mk, putT, blt_iff, Nat.reduceLT, decide_true, succ0, H.next_new, litI, plain, pureA, regW_some, thenW_normal]
  obtain ⟨hg1, hA, hB, hn1⟩ := two_new h (.cells [.bool na, .slice p ds.length s] 135) (.cells [.bool nb, .slice p' ds'.length s'] 135)
  generalize (h.new (.cells [.bool na, .slice p ds.length s] 135)).new (.cells [.bool nb, .slice p' ds'.length s'] 135) = h1 at hg1 hA hB hn1 ⊢
  obtain ⟨r2, h2, e2, hg2, hb2⟩ := x_sub px _ _ a b h1 (hV0.grows hg1) (hV0'.grows hg1) hab
  obtain ⟨r3, h3, e3, hg3, rfl⟩ := x_sign px _ _ h2 hb2
  repeat (refine W.seq ?_)
  refine W.reg0 ?_
  simp only [opsA, oneA, wantedA, opnds, evs, ev, Tr.get_set, Nat.reduceEqDiff, succ0, Tr.get_nil, reduceIte, opA, cls, loadA, agg135, loadC, size135, rd, hA, seg, ofCells, putT, blt_iff, Nat.reduceLT, decide_true, hB, List.nil_append, List.append_nil, e2, e3, pureA, regW_some, thenW_normal]
  repeat (refine W.seq ?_)
  refine W.ret ?_
  simp only [outW, resultA, resA, Tr.get_set, Nat.reduceEqDiff, succ0, Tr.get_nil, reduceIte]
  exact ⟨trivial, _, rfl, (hg1.trans hg2).trans hg3, rfl⟩
end Go.Proofs.YtkoccbggjfbgaaaGreatDoor
end
