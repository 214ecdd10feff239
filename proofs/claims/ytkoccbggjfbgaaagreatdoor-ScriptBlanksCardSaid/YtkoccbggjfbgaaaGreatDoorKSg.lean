/-
  The script seat: the reference's small functions. The script seat: the reference's parse of a line.
-/
import Derived.Test.YtkoccbggjfbgaaaGreatDoorKSd
import Derived.Test.YtkoccbggjfbgaaaGreatDoorKSf
set_option linter.all false

section
open Go.Eng
set_option maxRecDepth 100000
set_option linter.unusedSimpArgs false
set_option linter.unusedVariables false
namespace Go.Proofs.YtkoccbggjfbgaaaGreatDoor
variable {X : Tr Nat}

theorem x_label (px : PX X) (op : Nat) (h : H) : callS (EX X) 70 [.int .u8 (Int.ofNat op)] h = some (.bool (decide (op = 0)), h) := by
  obtain ⟨r, h', e, rfl, rfl⟩ : ∃ r h', callS (EX X) 70 [.int .u8 (Int.ofNat op)] h = some (r, h') ∧ (r = .bool (decide (op = 0)) ∧ h' = h) := by
    refine call_of px.n70 (gf70 X) rfl (rs := [.tmp 2]) rfl (m := 5) rfl ?_
    repeat (refine W.seq ?_)
    refine W.reg0 ?_
    simp only [opsA, oneA, wantedA, List.length_cons, List.length_nil, Nat.zero_add, Nat.reduceSub, Nat.reduceAdd, enterT, opnds, evs, ev, plain, opA, cls, pureA, putT, blt_iff, Nat.reduceLT, decide_true, litI, regW_some, thenW_normal]
    repeat (refine W.seq ?_)
    refine W.reg0 ?_
    simp only [opsA, oneA, wantedA, opnds, evs, ev, Tr.get_set, Nat.reduceEqDiff, Tr.get_nil, reduceIte, opA, cls, pureA, putT, blt_iff, Nat.reduceLT, decide_true, succ0, plain, abin2, abin, deq, regW_some, thenW_normal]
    repeat (refine W.seq ?_)
    refine W.ret ?_
    simp only [outW, resultA, resA, Tr.get_set, Nat.reduceEqDiff, succ0, Tr.get_nil, reduceIte]
    exact ⟨trivial, _, rfl, rfl, trivial⟩
  exact e

theorem x_named (px : PX X) (op : Nat) (h : H) : callS (EX X) 71 [.int .u8 (Int.ofNat op)] h = some (.bool (decide ((1 ≤ op ∧ op ≤ 6) ∨ op = 8)), h) := by
  obtain ⟨r, h', e, rfl, rfl⟩ : ∃ r h', callS (EX X) 71 [.int .u8 (Int.ofNat op)] h = some (r, h') ∧ (r = .bool (decide ((1 ≤ op ∧ op ≤ 6) ∨ op = 8)) ∧ h' = h) := by
    refine call_of px.n71 (gf71 X) rfl (rs := [.tmp 2]) rfl (m := 13) rfl ?_
    repeat (refine W.seq ?_)
    refine W.reg0 ?_
    simp only [opsA, oneA, wantedA, List.length_cons, List.length_nil, Nat.zero_add, Nat.reduceSub, Nat.reduceAdd, enterT, opnds, evs, ev, plain, opA, cls, pureA, putT, blt_iff, Nat.reduceLT, decide_true, litI, regW_some, thenW_normal]
    by_cases h1 : 1 ≤ op
    · by_cases h2 : op ≤ 6
      · repeat (refine W.seq ?_)
        refine W.reg0 ?_
        simp only [opsA, oneA, wantedA, opnds, evs, ev, Tr.get_set, Nat.reduceEqDiff, Tr.get_nil, reduceIte, opA, cls, pureA, putT, blt_iff, Nat.reduceLT, decide_true, succ0, plain, abin2, abin, dle, h1, List.getElem?_cons_succ, List.getElem?_cons_zero, beqTT, ite_self, h2, beqTF, undef, and_self, regW_some, thenW_normal]
        repeat (refine W.seq ?_)
        refine W.ret ?_
        simp only [outW, resultA, resA, Tr.get_set, Nat.reduceEqDiff, succ0, Tr.get_nil, reduceIte]
        exact ⟨trivial, _, rfl, by simp [h1, h2], trivial⟩
      · repeat (refine W.seq ?_)
        refine W.reg0 ?_
        simp only [opsA, oneA, wantedA, opnds, evs, ev, Tr.get_set, Nat.reduceEqDiff, Tr.get_nil, reduceIte, opA, cls, pureA, putT, blt_iff, Nat.reduceLT, decide_true, succ0, plain, abin2, abin, dle, h1, List.getElem?_cons_succ, List.getElem?_cons_zero, beqTT, ite_self, h2, decide_false, beqFF, deq, regW_some, thenW_normal]
        repeat (refine W.seq ?_)
        refine W.ret ?_
        simp only [outW, resultA, resA, Tr.get_set, Nat.reduceEqDiff, succ0, Tr.get_nil, reduceIte, ite_self]
        exact ⟨trivial, _, rfl, by simp [h1, h2], trivial⟩
    · repeat (refine W.seq ?_)
      refine W.reg0 ?_
      simp only [opsA, oneA, wantedA, opnds, evs, ev, Tr.get_set, Nat.reduceEqDiff, Tr.get_nil, reduceIte, opA, cls, pureA, putT, blt_iff, Nat.reduceLT, decide_true, succ0, plain, abin2, abin, dle, h1, decide_false, List.getElem?_cons_succ, List.getElem?_cons_zero, beqFT, undef, beqFF, ite_self, deq, regW_some, thenW_normal]
      repeat (refine W.seq ?_)
      refine W.ret ?_
      simp only [outW, resultA, resA, Tr.get_set, Nat.reduceEqDiff, succ0, Tr.get_nil, reduceIte, ite_self]
      exact ⟨trivial, _, rfl, by simp [h1], trivial⟩
  exact e

def countL : List Nat := [3, 0, 0, 0, 1, 1, 1, 1, 0, 0, 0, 0]
theorem x_count (px : PX X) (op : Nat) (hop : op < 12) (h : H) : ∃ r h', callS (EX X) 69 [.int .u8 (Int.ofNat op)] h = some (r, h') ∧ (Grows h h' ∧ r = .int .i64 (Int.ofNat (countL.getD op 0))) := by
  refine call_of px.n69 (gf69 X) rfl (rs := [.tmp 2]) rfl (m := 7) rfl ?_
  have hrd : rd (h.new (.cells (intC countL) 3)) h.next op 1 = some [.int .i64 (Int.ofNat (countL.getD op 0))] := rd_get (H.get_new' _ _) (seg_one _ _ _ (intC_at hop))
  have hg : Grows h (h.new (.cells (intC countL) 3)) := (Grows.refl h).new _
  simp only [intC, countL, List.map_cons, List.map_nil] at hrd hg
  repeat (refine W.seq ?_)
  refine W.reg0 ?_
  simp only [opsA, oneA, wantedA, List.length_cons, List.length_nil, Nat.zero_add, Nat.reduceSub, Nat.reduceAdd, enterT, opnds, litI, evs, ev, plain, opA, cls, pureA, putT, blt_iff, Nat.reduceLT, decide_true, regW_some, thenW_normal]
  repeat (refine W.seq ?_)
  refine W.reg0 ?_
  simp only [opsA, oneA, wantedA, opnds, List.map_cons, List.map_nil, evs, ev, plain, opA, cls, newA, und133, size3, zero3, litI, cellsN_int, Nat.zero_add, beq_iff, decide_true, Nat.mul_one, ble_iff, Nat.reduceLeDiff, repl, cellsL_int, List.append_nil, List.cons_append, List.nil_append, List.zip_cons_cons, List.zip_nil_left, fillA, splice, mk, putT, blt_iff, Nat.reduceLT, Tr.get_set, Nat.reduceEqDiff, Tr.get_nil, reduceIte, pureA, succ0, hop, loadA, agg3, loadC, hrd, ofCells, regW_some, thenW_normal]
  repeat (refine W.seq ?_)
  refine W.ret ?_
  simp only [outW, resultA, resA, Tr.get_set, Nat.reduceEqDiff, succ0, Tr.get_nil, reduceIte]
  exact ⟨trivial, _, rfl, hg, rfl⟩

theorem x_wordOf (px : PX X) (op : Nat) (hop : op < 12) (h : H) : ∃ r h', callS (EX X) 52 [.int .u8 (Int.ofNat op)] h = some (r, h') ∧ (Grows h h' ∧ r = .string (bsOf (formW.getD op []))) := by
  refine call_of px.n52 (gf52 X) rfl (rs := [.tmp 2]) rfl (m := 7) rfl ?_
  have hat : formW[op]? = some (formW.getD op []) := by rw [List.getD_eq_getElem?_getD, List.getElem?_eq_getElem (show op < formW.length from hop)]; rfl
  have hrd : rd (h.new (.cells [.string { data := #[115, 112, 97, 119, 110] }, .string { data := #[101, 120, 105, 116] }, .string { data := #[115, 108, 101, 101, 112] }, .string { data := #[119, 97, 107, 101] }, .string { data := #[119, 101, 105, 103, 104, 116] }, .string { data := #[115, 108, 105, 99, 101] }, .string { data := #[109, 105, 103, 114, 97, 116, 101] }, .string { data := #[116, 105, 99, 107] }, .string { data := #[116, 97, 115, 107] }, .string { data := #[116, 97, 115, 107, 115] }, .string { data := #[99, 111, 114, 101, 115] }, .string { data := #[114, 117, 110, 115] }] 9)) h.next op 1 = some [.string (bsOf (formW.getD op []))] := rd_get (H.get_new' _ _) (seg_one _ _ _ (strC_at hat))
  have hg : Grows h (h.new (.cells [.string { data := #[115, 112, 97, 119, 110] }, .string { data := #[101, 120, 105, 116] }, .string { data := #[115, 108, 101, 101, 112] }, .string { data := #[119, 97, 107, 101] }, .string { data := #[119, 101, 105, 103, 104, 116] }, .string { data := #[115, 108, 105, 99, 101] }, .string { data := #[109, 105, 103, 114, 97, 116, 101] }, .string { data := #[116, 105, 99, 107] }, .string { data := #[116, 97, 115, 107] }, .string { data := #[116, 97, 115, 107, 115] }, .string { data := #[99, 111, 114, 101, 115] }, .string { data := #[114, 117, 110, 115] }] 9)) := (Grows.refl h).new _
  repeat (refine W.seq ?_)
  refine W.reg0 ?_
  simp only [opsA, oneA, wantedA, List.length_cons, List.length_nil, Nat.zero_add, Nat.reduceSub, Nat.reduceAdd, enterT, opnds, evs, ev, plain, opA, cls, pureA, putT, blt_iff, Nat.reduceLT, decide_true, regW_some, thenW_normal]
  repeat (refine W.seq ?_)
  refine W.reg0 ?_
  simp only [opsA, oneA, wantedA, opnds, List.map_cons, List.map_nil, evs, ev, plain, opA, cls, newA, und52, size9, zero9, cellsN_str, Nat.zero_add, beq_iff, decide_true, Nat.mul_one, ble_iff, Nat.reduceLeDiff, repl, cellsL_str, List.append_nil, List.cons_append, List.nil_append, List.zip_cons_cons, List.zip_nil_left, fillA, splice, mk, putT, blt_iff, Nat.reduceLT, Tr.get_set, Nat.reduceEqDiff, Tr.get_nil, reduceIte, pureA, succ0, hop, loadA, agg9, loadC, hrd, ofCells, regW_some, thenW_normal]
  repeat (refine W.seq ?_)
  refine W.ret ?_
  simp only [outW, resultA, resA, Tr.get_set, Nat.reduceEqDiff, succ0, Tr.get_nil, reduceIte]
  exact ⟨trivial, _, rfl, hg, rfl⟩

def stS (w : List UInt8) : Nat := match fidx w stateW with
  | some k => k + 1
  | none => 0

theorem x_state (px : PX X) (w : List UInt8) (h : H) : ∃ r h', callS (EX X) 87 [.string (bsOf w)] h = some (r, h') ∧ (Grows h h' ∧ r = .int .u8 (Int.ofNat (stS w))) := by
  refine call_of px.n87 (gf87 X) rfl (rs := [.tmp 2]) rfl (m := 19) rfl ?_
  have hl : stateW.length = 3 := rfl
  have hg : Grows h (h.new (.cells [.string { data := #[114, 117, 110, 110, 97, 98, 108, 101] }, .string { data := #[108, 105, 110, 103, 101, 114, 105, 110, 103] }, .string { data := #[115, 108, 101, 101, 112, 105, 110, 103] }] 9)) := (Grows.refl h).new _
  have hget : (h.new (.cells [.string { data := #[114, 117, 110, 110, 97, 98, 108, 101] }, .string { data := #[108, 105, 110, 103, 101, 114, 105, 110, 103] }, .string { data := #[115, 108, 101, 101, 112, 105, 110, 103] }] 9)).get h.next = some (.cells (strC stateW) 9) := H.get_new' _ _
  repeat (refine W.seq ?_)
  refine W.reg0 ?_
  simp only [opsA, oneA, wantedA, List.length_cons, List.length_nil, Nat.zero_add, Nat.reduceSub, Nat.reduceAdd, enterT, opnds, litI, evs, ev, plain, opA, cls, pureA, putT, blt_iff, Nat.reduceLT, decide_true, regW_some, thenW_normal]
  repeat (refine W.seq ?_)
  refine W.reg0 ?_
  simp only [opsA, oneA, wantedA, opnds, List.map_cons, List.map_nil, evs, ev, plain, opA, cls, newA, und52, size9, zero9, cellsN_str, Nat.zero_add, beq_iff, decide_true, Nat.mul_one, ble_iff, Nat.reduceLeDiff, repl, cellsL_str, List.append_nil, List.cons_append, List.nil_append, List.zip_cons_cons, List.zip_nil_left, fillA, splice, mk, putT, blt_iff, Nat.reduceLT, Tr.get_set, Nat.reduceEqDiff, succ0, Tr.get_nil, reduceIte, pureA, castI, goInt_nat, regW_some, thenW_normal]
  generalize h.new (.cells [.string { data := #[114, 117, 110, 110, 97, 98, 108, 101] }, .string { data := #[108, 105, 110, 103, 101, 114, 105, 110, 103] }, .string { data := #[115, 108, 101, 101, 112, 105, 110, 103] }] 9) = h1 at hg hget ⊢
  repeat (refine W.seq ?_)
  refine W.block ?_
  refine W.loop_inv (fun k a hh => ∃ i, k = 3 - i ∧ i ≤ 3 ∧ a.n = 19 ∧ hh = h1 ∧ a.m.get 0 = some (.string (bsOf w)) ∧ a.m.get 5 = some (.slice (some ⟨h.next, 0, none⟩) 3 1) ∧ a.m.get 6 = some (.int .i64 (.ofNat 3)) ∧ a.m.get 7 = some (.int .i64 (.ofNat i)) ∧
    fidx w stateW = (fidx w (stateW.drop i)).map (· + i)) ?_ 3 _ _ ?_
  · intro k a hh ⟨i, hk, hi, hn, hhh, g0, g5, g6, g7, hs⟩
    subst hhh
    repeat (refine W.seq ?_)
    refine W.reg0 ?_
    simp only [opsA, oneA, wantedA, opnds, evs, ev, g7, g6, opA, cls, pureA, abin2, abin, decide_true, dlt, putT, hn, blt_iff, Nat.reduceLT, regW_some, thenW_normal]
    repeat (refine W.seq ?_)
    refine W.cond2 ?_
    simp only [ev, Tr.get_set, reduceIte, condW_bool, decide_eq_true_eq, decide_eq_false_iff_not]
    refine ⟨fun hlt => ?_, fun hge => ?_⟩
    · have hrd : rd hh h.next i 1 = some [.string (bsOf (stateW[i]'hlt))] := rd_get hget (seg_one _ _ _ (strC_at (List.getElem?_eq_getElem hlt)))
      repeat (refine W.seq ?_)
      refine W.skip ?_
      simp only [thenW_normal]
      repeat (refine W.seq ?_)
      refine W.block ?_
      repeat (refine W.seq ?_)
      refine W.reg0 ?_
      simp only [opsA, oneA, wantedA, hlt, decide_true, opnds, evs, ev, Tr.get_set, Nat.reduceEqDiff, g7, reduceIte, opA, cls, pureA, putT, blt_iff, Nat.reduceLT, g5, ite_self, und52, size9, Nat.mul_one, Nat.zero_add, loadA, agg9, loadC, hrd, ofCells, regW_some, thenW_normal]
      repeat (refine W.seq ?_)
      refine W.reg0 ?_
      simp only [opsA, oneA, wantedA, opnds, evs, ev, Tr.get_set, Nat.reduceEqDiff, reduceIte, opA, cls, pureA, putT, blt_iff, Nat.reduceLT, decide_true, g0, abin2, abin, str_eql, bsOf_list, regW_some, thenW_normal]
      repeat (refine W.seq ?_)
      refine W.cond2 ?_
      simp only [ev, Tr.get_set, Nat.reduceEqDiff, reduceIte, condW_bool]
      refine ⟨fun he => ?_, fun hne => ?_⟩
      · repeat (refine W.seq ?_)
        refine W.reg0 ?_
        simp only [opsA, oneA, wantedA, opnds, evs, ev, Tr.get_set, Nat.reduceEqDiff, reduceIte, opA, cls, pureA, putT, blt_iff, Nat.reduceLT, decide_true, plain, abin2, abin, inc_nat (show i + 1 ≤ 9223372036854775807 by omega), und3, und5, wrap8 (show i + 1 < 256 by omega), regW_some, thenW_normal]
        repeat (refine W.seq ?_)
        refine W.ret ?_
        simp only [outB_ret, thenW_ret, inv_ret, outW, resultA, resA, Tr.get_set, Nat.reduceEqDiff, reduceIte]
        refine ⟨trivial, _, rfl, hg, ?_⟩
        have := fidx_hit (l := stateW) hlt (of_decide_eq_true he).symm hs
        unfold stS
        rw [this]
      · repeat (refine W.seq ?_)
        refine W.skip ?_
        simp only [outB_normal, thenW_normal]
        repeat (refine W.seq ?_)
        refine W.reg0 ?_
        simp only [opsA, oneA, wantedA, opnds, evs, ev, Tr.get_set, Nat.reduceEqDiff, g7, reduceIte, ite_self, plain, opA, cls, pureA, abin2, abin, decide_true, inc_nat (show i + 1 ≤ 9223372036854775807 by omega), putT, blt_iff, Nat.reduceLT, regW_some, inv_normal, g0, g5, g6]
        refine ⟨3 - (i + 1), by omega, i + 1, rfl, by omega, ?_⟩
        simp only []
        exact ⟨trivial, trivial, trivial, trivial, trivial, trivial, fidx_miss (l := stateW) hlt (fun e => of_decide_eq_false hne e.symm) hs⟩
    · repeat (refine W.seq ?_)
      refine W.exit ?_
      simp only [thenW_exit, inv_exit, outB_exit, thenW_normal, reduceIte]
      repeat (refine W.seq ?_)
      refine W.reg0 ?_
      simp only [opsA, oneA, wantedA, opnds, evs, ev, plain, opA, cls, pureA, putT, blt_iff, Nat.reduceLT, decide_true, regW_some, thenW_normal]
      repeat (refine W.seq ?_)
      refine W.ret ?_
      simp only [outW, resultA, resA, Tr.get_set, Nat.reduceEqDiff, reduceIte]
      refine ⟨trivial, _, rfl, hg, ?_⟩
      unfold stS
      rw [fidx_end (l := stateW) (by omega) hs]
  · simp only [Tr.get_set, Nat.reduceEqDiff, Tr.get_nil, reduceIte, succ0]
    exact ⟨0, rfl, Nat.zero_le _, trivial, trivial, (by first | trivial | rfl), (by first | trivial | rfl), (by first | trivial | rfl), (by first | trivial | rfl), fidx_start _ _⟩
end Go.Proofs.YtkoccbggjfbgaaaGreatDoor
end

section
open Go.Eng
set_option maxRecDepth 100000
set_option linter.unusedSimpArgs false
set_option linter.unusedVariables false
namespace Go.Proofs.YtkoccbggjfbgaaaGreatDoor
variable {X : Tr Nat}

def aheadN (op : Nat) : Nat := if op = 0 ∨ ((1 ≤ op ∧ op ≤ 6) ∨ op = 8) then 1 else 0
theorem form9 : ∀ op, op < 12 → (formR.getD op [] = [42] ↔ op = 9) := by decide
theorem formLen : ∀ op, op < 12 → op ≠ 9 → (formR.getD op []).length = aheadN op + countL.getD op 0 := by decide
theorem formWhat : ∀ op, op < 12 → op ≠ 9 → ∀ i, i < (formR.getD op []).length → whatB (formR.getD op []) i = if i < aheadN op ∧ op = 0 then 76 else if i < aheadN op then 104 else 110 := by decide
theorem what9 (i : Nat) : whatB [42] i = 42 := by
  unfold whatB
  rw [show min i (([42] : List UInt8).length - 1) = 0 from by simp]
  rfl

theorem x_rparse (px : PX X) (line op : Nat) (hop : op < 12) (ws : List (List UInt8)) (v : Value) (h : H) (hl : ws.length ≤ 800000) (hw : ∀ x ∈ ws, x.length ≤ 900000) (hv : ViewS 9 h v ws) :
    ∃ r h', callS (EX X) 53 [.int .i64 (Int.ofNat line), .int .u8 (Int.ofNat op), v] h = some (r, h') ∧ (Grows h h' ∧ ∃ cs e, r = .tuple #[.agg cs.toArray, .int .i64 (Int.ofNat e.2)] ∧ CmdAt h.next h' cs e.1 ∧
      e = (if formR.getD op [] = [42] ∨ ws.length = (formR.getD op []).length then foldS (formR.getD op []) 0 ws ⟨line, op, [], [], [], []⟩ else (Cmd.zero, 9))) := by
  refine call_of px.n53 (gf53 X) rfl (rs := [.cell 6 61, .tmp 7]) rfl (m := 90) rfl ?_
  obtain ⟨pv, sv, rfl⟩ := hv.len
  rw [strC_length]
  have hne0 : ¬ h.next = h.next + 1 := by omega
  repeat (refine W.seq ?_)
  refine W.reg0 ?_
  simp only [opsA, oneA, wantedA, List.length_cons, List.length_nil, Nat.zero_add, Nat.reduceAdd, Nat.reduceSub, enterT, opnds, evs, opA, cls, newA, btX, beq_iff, Nat.reduceEqDiff, decide_false, zero61, litI, bs_nil, plain, List.all_cons, List.all_nil, Bool.and_self, cellsL_agg, mk, putT, blt_iff, Nat.reduceLT, decide_true, ev, pureA, regW_some, thenW_normal]
  repeat (refine W.seq ?_)
  refine W.reg0 ?_
  simp only [opsA, oneA, wantedA, opnds, evs, ev, Tr.get_set, Nat.reduceEqDiff, Tr.get_nil, reduceIte, opA, cls, pureA, putT, blt_iff, Nat.reduceLT, decide_true, succ0, List.map_cons, List.map_nil, zero61, litI, bs_nil, und61, plain, List.all_cons, List.all_nil, Bool.and_self, cellsL_agg, List.zip_cons_cons, List.zip_nil_left, fillA, placeS, List.getElem?_cons_zero, size3, cellsN_int, beq_iff, cellsL_int, splice, List.getElem?_cons_succ, size5, newA, btX, decide_false, mk, H.next_new, effA, size61, cellsN_agg, List.size_toArray, List.length_cons, List.length_nil, Nat.zero_add, Nat.reduceAdd, wr, H.get_new, cellv, undef, regW_some, thenW_normal]
  obtain ⟨hg1, hR, hO, hn1⟩ : Grows h (((h.new (.cells [.int .i64 (Int.ofNat 0), .int .u8 (Int.ofNat 0), .string (bsOf []), .string (bsOf []), .slice none 0 0, .slice none 0 0] 61)).new (.cells [.int .i64 (Int.ofNat 0), .int .u8 (Int.ofNat 0), .string (bsOf []), .string (bsOf []), .slice none 0 0, .slice none 0 0] 61)).set (h.next + 1) (.cells [.int .i64 (Int.ofNat line), .int .u8 (Int.ofNat op), .string (bsOf []), .string (bsOf []), .slice none 0 0, .slice none 0 0] 61)) ∧ (((h.new (.cells [.int .i64 (Int.ofNat 0), .int .u8 (Int.ofNat 0), .string (bsOf []), .string (bsOf []), .slice none 0 0, .slice none 0 0] 61)).new (.cells [.int .i64 (Int.ofNat 0), .int .u8 (Int.ofNat 0), .string (bsOf []), .string (bsOf []), .slice none 0 0, .slice none 0 0] 61)).set (h.next + 1) (.cells [.int .i64 (Int.ofNat line), .int .u8 (Int.ofNat op), .string (bsOf []), .string (bsOf []), .slice none 0 0, .slice none 0 0] 61)).get h.next = some (.cells [.int .i64 (Int.ofNat 0), .int .u8 (Int.ofNat 0), .string (bsOf []), .string (bsOf []), .slice none 0 0, .slice none 0 0] 61) ∧ (((h.new (.cells [.int .i64 (Int.ofNat 0), .int .u8 (Int.ofNat 0), .string (bsOf []), .string (bsOf []), .slice none 0 0, .slice none 0 0] 61)).new (.cells [.int .i64 (Int.ofNat 0), .int .u8 (Int.ofNat 0), .string (bsOf []), .string (bsOf []), .slice none 0 0, .slice none 0 0] 61)).set (h.next + 1) (.cells [.int .i64 (Int.ofNat line), .int .u8 (Int.ofNat op), .string (bsOf []), .string (bsOf []), .slice none 0 0, .slice none 0 0] 61)).get (h.next + 1) = some (.cells [.int .i64 (Int.ofNat line), .int .u8 (Int.ofNat op), .string (bsOf []), .string (bsOf []), .slice none 0 0, .slice none 0 0] 61) ∧ (((h.new (.cells [.int .i64 (Int.ofNat 0), .int .u8 (Int.ofNat 0), .string (bsOf []), .string (bsOf []), .slice none 0 0, .slice none 0 0] 61)).new (.cells [.int .i64 (Int.ofNat 0), .int .u8 (Int.ofNat 0), .string (bsOf []), .string (bsOf []), .slice none 0 0, .slice none 0 0] 61)).set (h.next + 1) (.cells [.int .i64 (Int.ofNat line), .int .u8 (Int.ofNat op), .string (bsOf []), .string (bsOf []), .slice none 0 0, .slice none 0 0] 61)).next = h.next + 2 := by
    obtain ⟨e1, e2, e3, e4⟩ := two_new h (.cells [.int .i64 (Int.ofNat 0), .int .u8 (Int.ofNat 0), .string (bsOf []), .string (bsOf []), .slice none 0 0, .slice none 0 0] 61) (.cells [.int .i64 (Int.ofNat 0), .int .u8 (Int.ofNat 0), .string (bsOf []), .string (bsOf []), .slice none 0 0, .slice none 0 0] 61)
    exact ⟨e1.set (by omega) _, by rw [H.get_set, if_neg hne0]; exact e2, by rw [H.get_set, if_pos rfl], e4⟩
  generalize ((h.new (.cells [.int .i64 (Int.ofNat 0), .int .u8 (Int.ofNat 0), .string (bsOf []), .string (bsOf []), .slice none 0 0, .slice none 0 0] 61)).new (.cells [.int .i64 (Int.ofNat 0), .int .u8 (Int.ofNat 0), .string (bsOf []), .string (bsOf []), .slice none 0 0, .slice none 0 0] 61)).set (h.next + 1) (.cells [.int .i64 (Int.ofNat line), .int .u8 (Int.ofNat op), .string (bsOf []), .string (bsOf []), .slice none 0 0, .slice none 0 0] 61) = h1 at hg1 hR hO hn1 ⊢
  repeat (refine W.seq ?_)
  refine W.reg0 ?_
  simp only [opsA, oneA, wantedA, opnds, evs, ev, plain, opA, cls, pureA, putT, blt_iff, Nat.reduceLT, decide_true, regW_some, thenW_normal]
  refine W.cut (fun a h' => h' = h1 ∧ a.n = 90 ∧ a.m.get 0 = some (.int .i64 (Int.ofNat line)) ∧ a.m.get 1 = some (.int .u8 (Int.ofNat op)) ∧ a.m.get 2 = some (.slice pv ws.length sv) ∧ a.m.get 6 = some (.pointer (some ⟨h.next, 0, none⟩)) ∧ a.m.get 8 = some (.pointer (some ⟨h.next + 1, 0, none⟩)) ∧ a.m.get 9 = some (.int .i64 (Int.ofNat (aheadN op)))) ?_ ?_
  · by_cases h0 : op = 0
    · have ha : aheadN op = 1 := by unfold aheadN; rw [if_pos (.inl h0)]
      rw [ha]
      repeat (refine W.seq ?_)
      refine W.reg0 ?_
      simp only [opsA, oneA, wantedA, h0, opnds, evs, ev, Tr.get_set, Nat.reduceEqDiff, succ0, Tr.get_nil, reduceIte, ite_self, opA, cls, pureA, putT, blt_iff, Nat.reduceLT, decide_true, List.nil_append, List.append_nil, x_label px, List.getElem?_cons_succ, List.getElem?_cons_zero, beqTF, undef, plain, regW_some, thenW_normal]
      repeat (refine W.seq ?_)
      refine W.cond2 ?_
      simp only [ev, Tr.get_set, Nat.reduceEqDiff, succ0, Tr.get_nil, reduceIte, condW_bool]
      refine ⟨fun _ => ?_, fun hc => (by simp at hc)⟩
      repeat (refine W.seq ?_)
      refine W.reg0 ?_
      simp only [opsA, oneA, wantedA, opnds, evs, ev, plain, opA, cls, pureA, putT, blt_iff, Nat.reduceLT, decide_true, regW_some, cutQ_normal, Tr.get_set, Nat.reduceEqDiff, Tr.get_nil, reduceIte, ite_self, succ0, and_self]
    · by_cases hnm : (1 ≤ op ∧ op ≤ 6) ∨ op = 8
      · have ha : aheadN op = 1 := by unfold aheadN; rw [if_pos (.inr hnm)]
        rw [ha]
        repeat (refine W.seq ?_)
        refine W.reg0 ?_
        simp only [opsA, oneA, wantedA, opnds, evs, ev, Tr.get_set, Nat.reduceEqDiff, succ0, Tr.get_nil, reduceIte, ite_self, opA, cls, pureA, putT, blt_iff, Nat.reduceLT, decide_true, List.nil_append, List.append_nil, x_label px, h0, decide_false, List.getElem?_cons_succ, List.getElem?_cons_zero, beqFF, x_named px, hnm, plain, regW_some, thenW_normal]
        repeat (refine W.seq ?_)
        refine W.cond2 ?_
        simp only [ev, Tr.get_set, Nat.reduceEqDiff, succ0, Tr.get_nil, reduceIte, condW_bool]
        refine ⟨fun _ => ?_, fun hc => (by simp at hc)⟩
        repeat (refine W.seq ?_)
        refine W.reg0 ?_
        simp only [opsA, oneA, wantedA, opnds, evs, ev, plain, opA, cls, pureA, putT, blt_iff, Nat.reduceLT, decide_true, regW_some, cutQ_normal, Tr.get_set, Nat.reduceEqDiff, Tr.get_nil, reduceIte, ite_self, succ0, and_self]
      · have ha : aheadN op = 0 := by unfold aheadN; rw [if_neg (by intro e; rcases e with e | e; exact h0 e; exact hnm e)]
        rw [ha]
        repeat (refine W.seq ?_)
        refine W.reg0 ?_
        simp only [opsA, oneA, wantedA, opnds, evs, ev, Tr.get_set, Nat.reduceEqDiff, succ0, Tr.get_nil, reduceIte, ite_self, opA, cls, pureA, putT, blt_iff, Nat.reduceLT, decide_true, List.nil_append, List.append_nil, x_label px, h0, decide_false, List.getElem?_cons_succ, List.getElem?_cons_zero, beqFF, x_named px, hnm, plain, regW_some, thenW_normal]
        repeat (refine W.seq ?_)
        refine W.cond2 ?_
        simp only [ev, Tr.get_set, Nat.reduceEqDiff, succ0, Tr.get_nil, reduceIte, condW_bool]
        refine ⟨fun hc => (by simp at hc), fun _ => ?_⟩
        repeat (refine W.seq ?_)
        refine W.skip ?_
        simp only [cutQ_normal, Tr.get_set, Nat.reduceEqDiff, Tr.get_nil, reduceIte, ite_self, succ0, and_self]
  intro a h' ⟨hh', hn, g0, g1, g2, g6, g8, g9⟩
  subst hh'
  obtain ⟨rc, h2, e2, hg2, rfl⟩ := x_count px op hop h'
  have hR2 := (hg2.get h.next (by omega)).trans hR
  have hcb : countL.getD op 0 ≤ 3 := by
    have : ∀ op, op < 12 → countL.getD op 0 ≤ 3 := by decide
    exact this op hop
  have hab : aheadN op ≤ 1 := by unfold aheadN; split <;> omega
  refine W.cut (fun a hh => Grows h' hh ∧ (formR.getD op [] = [42] ∨ ws.length = (formR.getD op []).length) ∧ a.n = 90 ∧ a.m.get 0 = some (.int .i64 (Int.ofNat line)) ∧ a.m.get 1 = some (.int .u8 (Int.ofNat op)) ∧ a.m.get 2 = some (.slice pv ws.length sv) ∧ a.m.get 6 = some (.pointer (some ⟨h.next, 0, none⟩)) ∧ a.m.get 8 = some (.pointer (some ⟨h.next + 1, 0, none⟩)) ∧ a.m.get 9 = some (.int .i64 (Int.ofNat (aheadN op)))) ?_ ?_
  · by_cases h9 : op = 9
    · repeat (refine W.seq ?_)
      refine W.reg0 ?_
      simp only [opsA, oneA, wantedA, opnds, evs, ev, g1, h9, opA, cls, pureA, putT, hn, blt_iff, Nat.reduceLT, decide_true, Tr.get_set, reduceIte, plain, abin2, abin, dne, ne_eq, not_true_eq_false, decide_false, Nat.reduceEqDiff, List.getElem?_cons_succ, List.getElem?_cons_zero, beqFT, undef, regW_some, thenW_normal]
      repeat (refine W.seq ?_)
      refine W.cond2 ?_
      simp only [ev, Tr.get_set, Nat.reduceEqDiff, reduceIte, condW_bool]
      refine ⟨fun hc => (by simp at hc), fun _ => ?_⟩
      repeat (refine W.seq ?_)
      refine W.skip ?_
      simp only [cutQ_normal, Tr.get_set, Nat.reduceEqDiff, g0, reduceIte, g1, g2, g6, g8, g9]
      subst h9
      refine ⟨Grows.refl _, ?_⟩
      and_intros <;> first | trivial | assumption | exact .inl rfl
    · have hfl := formLen op hop h9
      by_cases hlen : ws.length = aheadN op + countL.getD op 0
      · have hdec : decide (¬ ws.length = aheadN op + countL.getD op 0) = false := decide_eq_false (fun e => e hlen)
        repeat (refine W.seq ?_)
        refine W.reg0 ?_
        simp only [opsA, oneA, wantedA, opnds, evs, ev, g1, opA, cls, pureA, putT, hn, blt_iff, Nat.reduceLT, decide_true, Tr.get_set, reduceIte, plain, abin2, abin, dne, ne_eq, h9, not_false_eq_true, Nat.reduceEqDiff, List.getElem?_cons_succ, List.getElem?_cons_zero, beqTT, g2, und52, castI, goInt_nat, g9, ite_self, List.nil_append, List.append_nil, e2, add_nat (show aheadN op + countL.getD op 0 ≤ 9223372036854775807 by omega), hdec, regW_some, thenW_normal]
        repeat (refine W.seq ?_)
        refine W.cond2 ?_
        simp only [ev, Tr.get_set, Nat.reduceEqDiff, reduceIte, condW_bool]
        refine ⟨fun hc => (by simp at hc), fun _ => ?_⟩
        repeat (refine W.seq ?_)
        refine W.skip ?_
        simp only [cutQ_normal, Tr.get_set, Nat.reduceEqDiff, g0, reduceIte, g1, ite_self, g2, g6, g8, g9, and_self]
        refine ⟨hg2, ?_⟩
        and_intros <;> first | trivial | assumption | exact .inr (by rw [hlen, hfl])
      · have hdec : decide (¬ ws.length = aheadN op + countL.getD op 0) = true := decide_eq_true hlen
        repeat (refine W.seq ?_)
        refine W.reg0 ?_
        simp only [opsA, oneA, wantedA, opnds, evs, ev, g1, opA, cls, pureA, putT, hn, blt_iff, Nat.reduceLT, decide_true, Tr.get_set, reduceIte, plain, abin2, abin, dne, ne_eq, h9, not_false_eq_true, Nat.reduceEqDiff, List.getElem?_cons_succ, List.getElem?_cons_zero, beqTT, g2, und52, castI, goInt_nat, g9, ite_self, List.nil_append, List.append_nil, e2, add_nat (show aheadN op + countL.getD op 0 ≤ 9223372036854775807 by omega), hdec, regW_some, thenW_normal]
        repeat (refine W.seq ?_)
        refine W.cond2 ?_
        simp only [ev, Tr.get_set, Nat.reduceEqDiff, reduceIte, condW_bool]
        refine ⟨fun _ => ?_, fun hc => (by simp at hc)⟩
        repeat (refine W.seq ?_)
        refine W.reg0 ?_
        simp only [opsA, oneA, wantedA, opnds, List.map_nil, evs, opA, cls, pureA, zero61, litI, bs_nil, und61, plain, List.all_cons, List.all_nil, Bool.and_self, cellsL_agg, List.zip_nil_left, fillA, putT, blt_iff, Nat.reduceLT, decide_true, ev, Tr.get_set, Nat.reduceEqDiff, g6, reduceIte, effA, size61, cellsN_agg, List.size_toArray, List.length_cons, List.length_nil, Nat.zero_add, Nat.reduceAdd, beq_iff, wr, hR2, cellv, splice, undef, regW_some, thenW_normal]
        repeat (refine W.seq ?_)
        refine W.ret ?_
        simp only [cutQ_ret, outW, resultA, resA, Tr.get_set, Nat.reduceEqDiff, g6, reduceIte, loadA, agg61, loadC, size61, rd, H.get_set, seg, ofCells]
        have hnf : ¬ (formR.getD op [] = [42] ∨ ws.length = (formR.getD op []).length) := by
          intro e
          rcases e with e | e
          · exact h9 ((form9 op hop).1 e)
          · exact hlen (by rw [e, hfl])
        exact ⟨trivial, _, rfl, (hg1.trans hg2).set (Nat.le_refl _) _, cmdZ, (Cmd.zero, 9), rfl, cmdZ_at _ _, by rw [if_neg hnf]⟩
  clear hn g0 g1 g2 g6 g8 g9
  intro a h3 ⟨hg3, hfit, hn, g0, g1, g2, g6, g8, g9⟩
  rw [if_pos hfit]
  clear e2 hg2 hR2 h2
  have hR3 := (hg3.get h.next (by omega)).trans hR
  have hO3 := (hg3.get (h.next + 1) (by omega)).trans hO
  have hg03 := hg1.trans hg3
  have hnx3 : h.next + 2 ≤ h3.next := by have := hg3.next; omega
  repeat (refine W.seq ?_)
  refine W.reg0 ?_
  simp only [opsA, oneA, wantedA, opnds, evs, ev, g2, opA, cls, pureA, putT, hn, blt_iff, Nat.reduceLT, decide_true, Tr.get_set, reduceIte, und52, castI, goInt_nat, plain, regW_some, thenW_normal]
  repeat (refine W.seq ?_)
  refine W.block ?_
  refine W.loop_inv (fun k a hh => ∃ i c cs, k = ws.length - i ∧ i ≤ ws.length ∧ a.n = 90 ∧ a.m.get 0 = some (.int .i64 (Int.ofNat line)) ∧ a.m.get 1 = some (.int .u8 (Int.ofNat op)) ∧ a.m.get 2 = some (.slice pv ws.length sv) ∧ a.m.get 6 = some (.pointer (some ⟨h.next, 0, none⟩)) ∧ a.m.get 8 = some (.pointer (some ⟨h.next + 1, 0, none⟩)) ∧ a.m.get 9 = some (.int .i64 (Int.ofNat (aheadN op))) ∧ a.m.get 35 = some (.slice pv ws.length sv) ∧ a.m.get 36 = some (.int .i64 (Int.ofNat ws.length)) ∧ a.m.get 37 = some (.int .i64 (Int.ofNat i)) ∧
    Turn (h.next + 1) (h.next + 1) h3 hh ∧ hh.get (h.next + 1) = some (.cells cs 61) ∧ CmdAt (h.next + 1) hh cs c ∧ c.n.length ≤ i ∧ c.st.length ≤ i ∧
    foldS (formR.getD op []) 0 ws ⟨line, op, [], [], [], []⟩ = foldS (formR.getD op []) i (ws.drop i) c) ?_ ws.length _ _ ?_
  · clear hn g0 g1 g2 g6 g8 g9
    intro k a hh ⟨i, c, cs, hk, hi, hn, g0, g1, g2, g6, g8, g9, g35, g36, g37, htn, hO, ⟨vN, vS, hcs, hN, hS⟩, hcn, hcst, hfold⟩
    subst hcs
    obtain ⟨pN, sN, rfl⟩ := hN.form
    obtain ⟨pS, sS, rfl⟩ := hS.form
    have hgh : Grows h hh := ⟨Nat.le_trans hg03.next htn.next, fun x hx => (htn.low x (by omega)).trans (hg03.get x hx)⟩
    have hRh := (htn.low h.next (by omega)).trans hR3
    have hnxh : h.next + 2 ≤ hh.next := by have := htn.next; omega
    repeat (refine W.seq ?_)
    refine W.reg0 ?_
    simp only [opsA, oneA, wantedA, opnds, evs, ev, g37, g36, opA, cls, pureA, abin2, abin, decide_true, dlt, putT, hn, blt_iff, Nat.reduceLT, regW_some, thenW_normal]
    repeat (refine W.seq ?_)
    refine W.cond2 ?_
    simp only [ev, Tr.get_set, reduceIte, condW_bool, decide_eq_true_eq, decide_eq_false_iff_not]
    refine ⟨fun hlt => ?_, fun hge => ?_⟩
    · have hat : ws[i]? = some ws[i] := List.getElem?_eq_getElem hlt
      obtain ⟨ov, fv, e1, _, hrd⟩ := (hv.grows hgh).at (strC_at hat)
      rw [strC_length] at e1
      simp only [Value.slice.injEq, true_and] at e1
      obtain ⟨rfl, rfl⟩ := e1
      have hwi := hw ws[i] (by simp)
      have hdrop : ws.drop i = ws[i] :: ws.drop (i + 1) := List.drop_eq_getElem_cons hlt
      rw [hdrop, foldS] at hfold
      generalize ws[i] = w at hat hrd hwi hfold
      have hsz : (bsOf w).size = w.length := bsOf_size w
      have hwhat : op ≠ 9 → whatB (formR.getD op []) i = if i < aheadN op ∧ op = 0 then 76 else if i < aheadN op then 104 else 110 := fun h9 => formWhat op hop h9 i (by
        rcases hfit with e | e
        · exact absurd ((form9 op hop).1 e) h9
        · omega)
      repeat (refine W.seq ?_)
      refine W.skip ?_
      simp only [thenW_normal]
      repeat (refine W.seq ?_)
      refine W.block ?_
      repeat (refine W.seq ?_)
      refine W.reg0 ?_
      simp only [opsA, oneA, wantedA, hlt, decide_true, opnds, evs, ev, Tr.get_set, Nat.reduceEqDiff, g37, reduceIte, opA, cls, pureA, putT, blt_iff, Nat.reduceLT, g35, ite_self, und52, size9, Nat.mul_one, loadA, agg9, loadC, hrd, ofCells, regW_some, thenW_normal]
      by_cases hia : i < aheadN op
      · have h9 : op ≠ 9 := fun e => by
          subst e
          have : aheadN 9 = 0 := rfl
          omega
        by_cases h0 : op = 0
        · have hw1 := hwhat h9
          rw [if_pos ⟨hia, h0⟩] at hw1
          rw [hw1] at hfold
          have hS1 : takeS 76 w c = (if 16 < w.length then (c, 11) else ({ c with label := w }, 0)) := by unfold takeS; rw [if_pos rfl]
          rw [hS1] at hfold
          have hdl : decide (op = 0) = true := decide_eq_true h0
          repeat (refine W.seq ?_)
          refine W.reg0 ?_
          simp only [opsA, oneA, wantedA, opnds, evs, ev, Tr.get_set, Nat.reduceEqDiff, reduceIte, opA, cls, pureA, putT, blt_iff, Nat.reduceLT, decide_true, g9, abin2, abin, dlt, hia, List.getElem?_cons_succ, List.getElem?_cons_zero, beqTT, g1, List.nil_append, List.append_nil, x_label px, hdl, ite_self, plain, regW_some, thenW_normal]
          repeat (refine W.seq ?_)
          refine W.cond2 ?_
          simp only [ev, Tr.get_set, Nat.reduceEqDiff, reduceIte, condW_bool]
          refine ⟨fun _ => ?_, fun hc => (by simp at hc)⟩
          repeat (refine W.seq ?_)
          refine W.reg0 ?_
          simp only [opsA, oneA, wantedA, opnds, evs, ev, Tr.get_set, Nat.reduceEqDiff, reduceIte, opA, cls, pureA, putT, blt_iff, Nat.reduceLT, decide_true, und9, hsz, castI, goInt_nat, plain, abin2, abin, dlt, regW_some, thenW_normal]
          repeat (refine W.seq ?_)
          refine W.cond2 ?_
          simp only [ev, Tr.get_set, Nat.reduceEqDiff, reduceIte, condW_bool, decide_eq_true_eq, decide_eq_false_iff_not]
          refine ⟨fun hlong => ?_, fun hshort => ?_⟩
          · rw [if_pos hlong, if_neg (by simp)] at hfold
            repeat (refine W.seq ?_)
            refine W.reg0 ?_
            simp only [opsA, oneA, wantedA, opnds, List.map_nil, evs, opA, cls, pureA, zero61, litI, bs_nil, und61, plain, List.all_cons, List.all_nil, Bool.and_self, cellsL_agg, List.zip_nil_left, fillA, putT, blt_iff, Nat.reduceLT, decide_true, ev, Tr.get_set, Nat.reduceEqDiff, g6, reduceIte, effA, size61, cellsN_agg, List.size_toArray, List.length_cons, List.length_nil, Nat.zero_add, Nat.reduceAdd, beq_iff, wr, hRh, cellv, splice, undef, regW_some, thenW_normal]
            repeat (refine W.seq ?_)
            refine W.ret ?_
            simp only [thenW_ret, outB_ret, inv_ret, outW, resultA, resA, Tr.get_set, Nat.reduceEqDiff, g6, reduceIte, loadA, agg61, loadC, size61, rd, H.get_set, seg, ofCells]
            refine ⟨trivial, _, rfl, (hgh).set (Nat.le_refl _) _, cmdZ, _, ?_, cmdZ_at _ _, hfold.symm⟩; rfl
          · rw [if_neg hshort, if_pos rfl] at hfold
            repeat (refine W.seq ?_)
            refine W.skip ?_
            simp only [thenW_normal]
            repeat (refine W.seq ?_)
            refine W.reg0 ?_
            simp only [opsA, oneA, wantedA, opnds, evs, ev, Tr.get_set, Nat.reduceEqDiff, reduceIte, ite_self, opA, cls, pureA, putT, blt_iff, Nat.reduceLT, decide_true, g8, und61, List.getElem?_cons_succ, List.getElem?_cons_zero, size9, Nat.zero_add, effA, cellsN_str, beq_iff, wr, hO, cellsL_str, allc_cons, cellv, allc_nil, Bool.and_self, splice, undef, regW_some, thenW_normal]
            repeat (refine W.seq ?_)
            refine W.exit ?_
            simp only [thenW_exit, outB_exit, thenW_normal, inv_exit, succ0, reduceIte]
            repeat (refine W.seq ?_)
            refine W.reg0 ?_
            simp only [opsA, oneA, wantedA, opnds, evs, ev, Tr.get_set, Nat.reduceEqDiff, g37, reduceIte, ite_self, plain, opA, cls, pureA, abin2, abin, decide_true, inc_nat (show i + 1 ≤ 9223372036854775807 by omega), putT, blt_iff, Nat.reduceLT, regW_some, inv_normal, g0, g1, g2, g6, g8, g9, H.get_set]
            refine ⟨ws.length - (i + 1), by omega, i + 1, { c with label := w }, [.int .i64 (Int.ofNat c.line), .int .u8 (Int.ofNat c.op), .string (bsOf w), .string (bsOf c.on), .slice pN (u64C c.n).length sN, .slice pS (u8C c.st).length sS], rfl, by omega, ?_⟩
            simp only [g35, g36]
            exact ⟨trivial, trivial, trivial, trivial, trivial, trivial, trivial, trivial, trivial, trivial, htn.trans (Turn.set _ _ (Nat.le_refl _)), (by first | trivial | rfl), ⟨_, _, rfl, hN.set_other hO (by decide) _, hS.set_other hO (by decide) _⟩, by (try simp only [List.length_append, List.length_cons, List.length_nil]); omega, by (try simp only [List.length_append, List.length_cons, List.length_nil]); omega, hfold⟩

        · have hw1 := hwhat h9
          rw [if_neg (fun e => h0 e.2), if_pos hia] at hw1
          rw [hw1] at hfold
          have hS1 : takeS 104 w c = ({ c with on := w }, 0) := by unfold takeS; rw [if_neg (by decide), if_pos rfl]
          rw [hS1, if_pos rfl] at hfold
          have hdl : decide (op = 0) = false := decide_eq_false h0
          repeat (refine W.seq ?_)
          refine W.reg0 ?_
          simp only [opsA, oneA, wantedA, opnds, evs, ev, Tr.get_set, Nat.reduceEqDiff, reduceIte, opA, cls, pureA, putT, blt_iff, Nat.reduceLT, decide_true, g9, abin2, abin, dlt, hia, List.getElem?_cons_succ, List.getElem?_cons_zero, beqTT, g1, List.nil_append, List.append_nil, x_label px, hdl, plain, regW_some, thenW_normal]
          repeat (refine W.seq ?_)
          refine W.cond2 ?_
          simp only [ev, Tr.get_set, Nat.reduceEqDiff, reduceIte, condW_bool]
          refine ⟨fun hc => (by simp at hc), fun _ => ?_⟩
          repeat (refine W.seq ?_)
          refine W.skip ?_
          simp only [thenW_normal]
          repeat (refine W.seq ?_)
          refine W.reg0 ?_
          simp only [opsA, oneA, wantedA, opnds, evs, ev, Tr.get_set, Nat.reduceEqDiff, reduceIte, ite_self, opA, cls, pureA, putT, blt_iff, Nat.reduceLT, decide_true, g9, abin2, abin, dlt, hia, regW_some, thenW_normal]
          repeat (refine W.seq ?_)
          refine W.cond2 ?_
          simp only [ev, Tr.get_set, Nat.reduceEqDiff, reduceIte, condW_bool]
          refine ⟨fun _ => ?_, fun hc => (by simp at hc)⟩
          repeat (refine W.seq ?_)
          refine W.reg0 ?_
          simp only [opsA, oneA, wantedA, opnds, evs, ev, Tr.get_set, Nat.reduceEqDiff, reduceIte, opA, cls, pureA, putT, blt_iff, Nat.reduceLT, decide_true, g8, und61, List.getElem?_cons_succ, List.getElem?_cons_zero, size9, Nat.zero_add, effA, cellsN_str, beq_iff, wr, hO, cellsL_str, allc_cons, cellv, allc_nil, Bool.and_self, splice, undef, regW_some, thenW_normal]
          repeat (refine W.seq ?_)
          refine W.exit ?_
          simp only [thenW_exit, outB_exit, thenW_normal, inv_exit, succ0, reduceIte]
          repeat (refine W.seq ?_)
          refine W.reg0 ?_
          simp only [opsA, oneA, wantedA, opnds, evs, ev, Tr.get_set, Nat.reduceEqDiff, g37, reduceIte, ite_self, plain, opA, cls, pureA, abin2, abin, decide_true, inc_nat (show i + 1 ≤ 9223372036854775807 by omega), putT, blt_iff, Nat.reduceLT, regW_some, inv_normal, g0, g1, g2, g6, g8, g9, H.get_set]
          refine ⟨ws.length - (i + 1), by omega, i + 1, { c with on := w }, [.int .i64 (Int.ofNat c.line), .int .u8 (Int.ofNat c.op), .string (bsOf c.label), .string (bsOf w), .slice pN (u64C c.n).length sN, .slice pS (u8C c.st).length sS], rfl, by omega, ?_⟩
          simp only [g35, g36]
          exact ⟨trivial, trivial, trivial, trivial, trivial, trivial, trivial, trivial, trivial, trivial, htn.trans (Turn.set _ _ (Nat.le_refl _)), (by first | trivial | rfl), ⟨_, _, rfl, hN.set_other hO (by decide) _, hS.set_other hO (by decide) _⟩, by (try simp only [List.length_append, List.length_cons, List.length_nil]); omega, by (try simp only [List.length_append, List.length_cons, List.length_nil]); omega, hfold⟩

      · repeat (refine W.seq ?_)
        refine W.reg0 ?_
        simp only [opsA, oneA, wantedA, opnds, evs, ev, Tr.get_set, Nat.reduceEqDiff, reduceIte, opA, cls, pureA, putT, blt_iff, Nat.reduceLT, decide_true, g9, abin2, abin, dlt, hia, decide_false, List.getElem?_cons_succ, List.getElem?_cons_zero, beqFT, undef, plain, regW_some, thenW_normal]
        repeat (refine W.seq ?_)
        refine W.cond2 ?_
        simp only [ev, Tr.get_set, Nat.reduceEqDiff, reduceIte, condW_bool]
        refine ⟨fun hc => (by simp at hc), fun _ => ?_⟩
        repeat (refine W.seq ?_)
        refine W.skip ?_
        simp only [thenW_normal]
        repeat (refine W.seq ?_)
        refine W.reg0 ?_
        simp only [opsA, oneA, wantedA, opnds, evs, ev, Tr.get_set, Nat.reduceEqDiff, reduceIte, ite_self, opA, cls, pureA, putT, blt_iff, Nat.reduceLT, decide_true, g9, abin2, abin, dlt, hia, decide_false, regW_some, thenW_normal]
        repeat (refine W.seq ?_)
        refine W.cond2 ?_
        simp only [ev, Tr.get_set, Nat.reduceEqDiff, reduceIte, condW_bool]
        refine ⟨fun hc => (by simp at hc), fun _ => ?_⟩
        repeat (refine W.seq ?_)
        refine W.skip ?_
        simp only [thenW_normal]
        repeat (refine W.seq ?_)
        refine W.reg0 ?_
        simp only [opsA, oneA, wantedA, opnds, evs, ev, Tr.get_set, Nat.reduceEqDiff, g1, reduceIte, opA, cls, pureA, putT, blt_iff, Nat.reduceLT, decide_true, plain, abin2, abin, deq, regW_some, thenW_normal]
        repeat (refine W.seq ?_)
        refine W.cond2 ?_
        simp only [ev, Tr.get_set, Nat.reduceEqDiff, reduceIte, condW_bool, decide_eq_true_eq, decide_eq_false_iff_not]
        refine ⟨fun h9 => ?_, fun h9 => ?_⟩
        · have hw1 : whatB (formR.getD op []) i = 42 := by rw [(form9 op hop).2 h9]; exact what9 i
          rw [hw1] at hfold
          have hS1 : takeS 42 w c = (match fidx w stateW with
            | some k => ({ c with st := c.st ++ [k + 1] }, 0)
            | none => (c, 9)) := by unfold takeS; rw [if_neg (by decide), if_neg (by decide), if_neg (by decide)]; rfl
          rw [hS1] at hfold
          obtain ⟨r4, h4, e4, hg4, rfl⟩ := x_state px w hh
          have hR4 := (hg4.get h.next (by omega)).trans hRh
          have hO4 := (hg4.get (h.next + 1) (by omega)).trans hO
          repeat (refine W.seq ?_)
          refine W.reg0 ?_
          simp only [opsA, oneA, wantedA, opnds, evs, ev, Tr.get_set, Nat.reduceEqDiff, reduceIte, opA, cls, pureA, putT, blt_iff, Nat.reduceLT, decide_true, List.nil_append, List.append_nil, e4, plain, abin2, abin, deq, regW_some, thenW_normal]
          repeat (refine W.seq ?_)
          refine W.cond2 ?_
          simp only [ev, Tr.get_set, Nat.reduceEqDiff, reduceIte, condW_bool, decide_eq_true_eq, decide_eq_false_iff_not]
          cases hf : fidx w stateW with
          | none =>
            have hst : stS w = 0 := by unfold stS; rw [hf]
            rw [hf] at hfold
            dsimp only at hfold
            rw [if_neg (by simp)] at hfold
            refine ⟨fun _ => ?_, fun hc => absurd hst hc⟩
            repeat (refine W.seq ?_)
            refine W.reg0 ?_
            simp only [opsA, oneA, wantedA, opnds, List.map_nil, evs, opA, cls, pureA, zero61, litI, bs_nil, und61, plain, List.all_cons, List.all_nil, Bool.and_self, cellsL_agg, List.zip_nil_left, fillA, putT, blt_iff, Nat.reduceLT, decide_true, ev, Tr.get_set, Nat.reduceEqDiff, g6, reduceIte, effA, size61, cellsN_agg, List.size_toArray, List.length_cons, List.length_nil, Nat.zero_add, Nat.reduceAdd, beq_iff, wr, hR4, cellv, splice, undef, regW_some, thenW_normal]
            repeat (refine W.seq ?_)
            refine W.ret ?_
            simp only [thenW_ret, outB_ret, inv_ret, outW, resultA, resA, Tr.get_set, Nat.reduceEqDiff, g6, reduceIte, loadA, agg61, loadC, size61, rd, H.get_set, seg, ofCells]
            refine ⟨trivial, _, rfl, (hgh.trans hg4).set (Nat.le_refl _) _, cmdZ, _, ?_, cmdZ_at _ _, hfold.symm⟩; rfl
          | some q =>
            have hst : stS w = q + 1 := by unfold stS; rw [hf]
            have hq3 : q < 3 := (List.getElem?_eq_some_iff.1 (fidx_lt hf)).1
            rw [hf] at hfold
            dsimp only at hfold
            rw [if_pos rfl] at hfold
            refine ⟨fun hc => absurd (hst.symm.trans hc) (by omega), fun _ => ?_⟩
            obtain ⟨r5, h5, e5, hg5, rfl⟩ := x_state px w h4
            have hg45 := hg4.trans hg5
            have hO5 := (hg5.get (h.next + 1) (by have := hg4.next; omega)).trans hO4
            have hrS : rd h4 (h.next + 1) 5 1 = some [.slice pS (u8C c.st).length sS] := rd_get hO4 rfl
            have hrS5 : rd h5 (h.next + 1) 5 1 = some [.slice pS (u8C c.st).length sS] := rd_get hO5 rfl
            have hq : sameL [Value.slice pS (u8C c.st).length sS] [.slice pS (u8C c.st).length sS] = true := sameL_refl (by simp only [all1_cons, cell1_row hS, all1_nil]; rfl)
            obtain ⟨v', h6, e6, hS6, hnx6, hlow6, hoth6⟩ := app_row (sl48 X) (hS.grows hg45) (by have := hg45.next; omega) (.int .u8 (Int.ofNat (stS w))) rfl (by rw [u8C_length]; omega)
            obtain ⟨pp, ss, rfl⟩ := hS6.form
            have hO6 := (hoth6 (h.next + 1) (by have := hg45.next; omega) (by rw [hO5]; intro cs hc; simp at hc)).trans hO5
            repeat (refine W.seq ?_)
            refine W.skip ?_
            simp only [thenW_normal]
            repeat (refine W.seq ?_)
            refine W.plan (st := [(2, 0, false), (3, 4, true), (0, 0, false), (1, 1, false), (4, 12, false), (5, 31, true), (6, 63, false), (7, 127, true)]) (by kernel_rfl) ?_
            simp only [goP, List.getElem?_cons_succ, List.getElem?_cons_zero, stableD, oneA, wantedA, opnds, evs, ev, Tr.get_set, Nat.reduceEqDiff, reduceIte, ite_self, opA, cls, pureA, putT, blt_iff, Nat.reduceLT, decide_true, List.nil_append, List.append_nil, e5, g8, und61, size48, Nat.zero_add, hrS5, List.length_cons, List.length_nil, Nat.reduceAdd, stab_cons, hq, hrS, stab_nil, Bool.or_true, loadA, agg48, loadC, ofCells, List.map_cons, List.map_nil, newA, und48, size5, zero5, litI, plain, cellsN_int, beq_iff, Nat.mul_one, ble_iff, Nat.reduceLeDiff, repl, cellsL_int, List.zip_cons_cons, List.zip_nil_left, fillA, splice, mk, effA, e6, cellsN_slice, wr, hO6, cellsL_slice, allc_cons, cellv, allc_nil, Bool.and_self, undef, regW_some, thenW_normal]
            repeat (refine W.seq ?_)
            refine W.exit ?_
            simp only [thenW_exit, outB_exit, thenW_normal, inv_exit, succ0, reduceIte]
            repeat (refine W.seq ?_)
            refine W.reg0 ?_
            simp only [opsA, oneA, wantedA, opnds, evs, ev, Tr.get_set, Nat.reduceEqDiff, g37, reduceIte, ite_self, plain, opA, cls, pureA, abin2, abin, decide_true, inc_nat (show i + 1 ≤ 9223372036854775807 by omega), putT, blt_iff, Nat.reduceLT, regW_some, inv_normal, g0, g1, g2, g6, g8, g9, H.get_set]
            refine ⟨ws.length - (i + 1), by omega, i + 1, { c with st := c.st ++ [q + 1] }, [.int .i64 (Int.ofNat c.line), .int .u8 (Int.ofNat c.op), .string (bsOf c.label), .string (bsOf c.on), .slice pN (u64C c.n).length sN, .slice pp (u8C c.st ++ [Value.int .u8 (Int.ofNat (stS w))]).length ss], rfl, by omega, ?_⟩
            simp only [g35, g36]
            rw [hst] at hS6 ⊢
            refine ⟨trivial, trivial, trivial, trivial, trivial, trivial, trivial, trivial, trivial, trivial, ((htn.trans (Turn.of_grows (by omega) hg45)).trans (Turn.app (.inr rfl) hnx6 hlow6 hoth6)).trans (Turn.set _ _ (Nat.le_refl _)), (by first | trivial | rfl), ⟨_, _, rfl, ?_, ?_⟩, by (try simp only [List.length_append, List.length_cons, List.length_nil]); omega, by (try simp only [List.length_append, List.length_cons, List.length_nil]); omega, hfold⟩
            · refine NewRow.set_other ?_ hO6 (by decide) _
              exact (hN.grows hg45).keep hnx6 fun k cs' hk hrow => hoth6 k hk (by rw [hrow]; intro cs hc; simp at hc)
            · rw [u8C_append]
              exact hS6.set_other hO6 (by decide) _
        · have hw1 := hwhat h9
          rw [if_neg (fun e => hia e.1), if_neg hia] at hw1
          rw [hw1] at hfold
          have hS1 : takeS 110 w c = (if (numS w).2 = 0 then ({ c with n := c.n ++ [(numS w).1] }, 0) else (c, (numS w).2)) := by unfold takeS; rw [if_neg (by decide), if_neg (by decide), if_pos rfl]
          rw [hS1] at hfold
          obtain ⟨r4, h4, e4, hg4, rfl⟩ := x_rnumber px w hwi hh
          have hR4 := (hg4.get h.next (by omega)).trans hRh
          have hO4 := (hg4.get (h.next + 1) (by omega)).trans hO
          repeat (refine W.seq ?_)
          refine W.skip ?_
          simp only [thenW_normal]
          repeat (refine W.seq ?_)
          refine W.reg0 ?_
          simp only [opsA, oneA, wantedA, opnds, evs, ev, Tr.get_set, Nat.reduceEqDiff, reduceIte, opA, cls, pureA, putT, blt_iff, Nat.reduceLT, decide_true, List.nil_append, List.append_nil, e4, List.getElem?_cons_zero, List.getElem?_cons_succ, regW_some, thenW_normal]
          repeat (refine W.seq ?_)
          refine W.reg0 ?_
          simp only [opsA, oneA, wantedA, opnds, evs, ev, Tr.get_set, Nat.reduceEqDiff, reduceIte, opA, cls, pureA, putT, blt_iff, Nat.reduceLT, decide_true, plain, abin2, abin, dne, regW_some, thenW_normal]
          repeat (refine W.seq ?_)
          refine W.cond2 ?_
          simp only [ev, Tr.get_set, Nat.reduceEqDiff, reduceIte, condW_bool, decide_eq_true_eq, decide_eq_false_iff_not]
          refine ⟨fun hne => ?_, fun heq => ?_⟩
          · rw [if_neg hne, if_neg hne] at hfold
            repeat (refine W.seq ?_)
            refine W.reg0 ?_
            simp only [opsA, oneA, wantedA, opnds, List.map_nil, evs, opA, cls, pureA, zero61, litI, bs_nil, und61, plain, List.all_cons, List.all_nil, Bool.and_self, cellsL_agg, List.zip_nil_left, fillA, putT, blt_iff, Nat.reduceLT, decide_true, ev, Tr.get_set, Nat.reduceEqDiff, reduceIte, ite_self, g6, effA, size61, cellsN_agg, List.size_toArray, List.length_cons, List.length_nil, Nat.zero_add, Nat.reduceAdd, beq_iff, wr, hR4, cellv, splice, undef, regW_some, thenW_normal]
            repeat (refine W.seq ?_)
            refine W.ret ?_
            simp only [thenW_ret, outB_ret, inv_ret, outW, resultA, resA, Tr.get_set, Nat.reduceEqDiff, g6, reduceIte, loadA, agg61, loadC, size61, rd, H.get_set, seg, ofCells]
            refine ⟨trivial, _, rfl, (hgh.trans hg4).set (Nat.le_refl _) _, cmdZ, _, ?_, cmdZ_at _ _, hfold.symm⟩; rfl
          · have hz : (numS w).2 = 0 := Classical.not_not.1 heq
            rw [if_pos hz, if_pos rfl] at hfold
            obtain ⟨v', h6, e6, hN6, hnx6, hlow6, hoth6⟩ := app_row (sl47 X) (hN.grows hg4) (by have := hg4.next; omega) (.int .u64 (Int.ofNat (numS w).1)) rfl (by rw [u64C_length]; omega)
            obtain ⟨pp, ss, rfl⟩ := hN6.form
            have hO6 := (hoth6 (h.next + 1) (by have := hg4.next; omega) (by rw [hO4]; intro cs hc; simp at hc)).trans hO4
            repeat (refine W.seq ?_)
            refine W.skip ?_
            simp only [thenW_normal]
            repeat (refine W.seq ?_)
            refine W.reg0 ?_
            simp only [opsA, oneA, wantedA, opnds, evs, ev, Tr.get_set, Nat.reduceEqDiff, g8, reduceIte, opA, cls, pureA, und61, List.getElem?_cons_succ, List.getElem?_cons_zero, size47, Nat.zero_add, putT, blt_iff, Nat.reduceLT, decide_true, loadA, agg47, loadC, rd, hO4, seg, ofCells, List.map_cons, List.map_nil, newA, und47, size23, zero23, litI, plain, cellsN_int, beq_iff, Nat.mul_one, ble_iff, Nat.reduceLeDiff, repl, cellsL_int, List.append_nil, List.zip_cons_cons, List.zip_nil_left, fillA, splice, mk, effA, e6, cellsN_slice, wr, hO6, cellsL_slice, allc_cons, cellv, allc_nil, Bool.and_self, undef, regW_some, outB_normal, thenW_normal]
            repeat (refine W.seq ?_)
            refine W.reg0 ?_
            simp only [opsA, oneA, wantedA, opnds, evs, ev, Tr.get_set, Nat.reduceEqDiff, g37, reduceIte, ite_self, plain, opA, cls, pureA, abin2, abin, decide_true, inc_nat (show i + 1 ≤ 9223372036854775807 by omega), putT, blt_iff, Nat.reduceLT, regW_some, inv_normal, g0, g1, g2, g6, g8, g9, H.get_set]
            refine ⟨ws.length - (i + 1), by omega, i + 1, { c with n := c.n ++ [(numS w).1] }, [.int .i64 (Int.ofNat c.line), .int .u8 (Int.ofNat c.op), .string (bsOf c.label), .string (bsOf c.on), .slice pp (u64C c.n ++ [Value.int .u64 (Int.ofNat (numS w).1)]).length ss, .slice pS (u8C c.st).length sS], rfl, by omega, ?_⟩
            simp only [g35, g36]
            refine ⟨trivial, trivial, trivial, trivial, trivial, trivial, trivial, trivial, trivial, trivial, ((htn.trans (Turn.of_grows (by omega) hg4)).trans (Turn.app (.inl rfl) hnx6 hlow6 hoth6)).trans (Turn.set _ _ (Nat.le_refl _)), (by first | trivial | rfl), ⟨_, _, rfl, ?_, ?_⟩, by (try simp only [List.length_append, List.length_cons, List.length_nil]); omega, by (try simp only [List.length_append, List.length_cons, List.length_nil]); omega, hfold⟩
            · rw [u64C_append]
              exact hN6.set_other hO6 (by decide) _
            · refine NewRow.set_other ?_ hO6 (by decide) _
              exact (hS.grows hg4).keep hnx6 fun k cs' hk hrow => hoth6 k hk (by rw [hrow]; intro cs hc; simp at hc)
    · rw [List.drop_of_length_le (by omega), foldS] at hfold
      repeat (refine W.seq ?_)
      refine W.exit ?_
      simp only [thenW_exit, inv_exit, outB_exit, thenW_normal, reduceIte]
      repeat (refine W.seq ?_)
      refine W.reg0 ?_
      simp only [opsA, oneA, wantedA, opnds, evs, ev, Tr.get_set, Nat.reduceEqDiff, g8, reduceIte, opA, cls, loadA, agg61, loadC, size61, rd, hO, seg, ofCells, putT, blt_iff, Nat.reduceLT, decide_true, g6, effA, cellsN_agg, List.size_toArray, List.length_cons, List.length_nil, Nat.zero_add, Nat.reduceAdd, beq_iff, wr, hRh, cellsL_agg, allc_cons, cellv, allc_nil, Bool.and_self, splice, undef, plain, pureA, regW_some, thenW_normal]
      repeat (refine W.seq ?_)
      refine W.ret ?_
      simp only [outW, resultA, resA, Tr.get_set, Nat.reduceEqDiff, g6, reduceIte, loadA, agg61, loadC, size61, rd, H.get_set, seg, ofCells]
      refine ⟨trivial, _, rfl, hgh.set (Nat.le_refl _) _, _, (c, 0), rfl, ⟨_, _, rfl, (hN.weaken (by omega)).set_other hRh (by decide) _, (hS.weaken (by omega)).set_other hRh (by decide) _⟩, hfold.symm⟩
  · simp only [Tr.get_set, Nat.reduceEqDiff, g0, reduceIte, g1, g2, ite_self, g6, g8, g9]
    exact ⟨0, ⟨line, op, [], [], [], []⟩, _, rfl, Nat.zero_le _, (by first | trivial | rfl), (by first | trivial | rfl), (by first | trivial | rfl), (by first | trivial | rfl), (by first | trivial | rfl), (by first | trivial | rfl), (by first | trivial | rfl), (by first | trivial | rfl), (by first | trivial | rfl), (by first | trivial | rfl), Turn.refl _ _ _, hO3, ⟨_, _, rfl, NewRow.nil _ _ _ _, NewRow.nil _ _ _ _⟩, Nat.le_refl _, Nat.le_refl _, rfl⟩
end Go.Proofs.YtkoccbggjfbgaaaGreatDoor
end
