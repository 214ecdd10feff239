/-
  The script seat: the document's Lines and Words, and the program's words, as plain lists. The script seat: the program's words, number, numbers. The script seat: the program's numbers, forms, fits, states. The script seat: the program's system. The script seat: the program's forms, states, and where a word stands among them.
-/
import Derived.Test.YtkoccbggjfbgaaaGreatDoorKSa
import Derived.Test.YtkoccbggjfbgaaaGreatDoorKEe
set_option linter.all false

section
open Go.Eng
set_option maxRecDepth 100000
set_option linter.unusedSimpArgs false
set_option linter.unusedVariables false
namespace Go.Proofs.YtkoccbggjfbgaaaGreatDoor
variable {X : Tr Nat}

theorem x_lines (px : PX X) (s : ByteArray) (hs : s.size ≤ 900000) (h : H) : ∃ v h', callS (EX X) 23 [.string s] h = some (v, h') ∧ Grows h h' ∧ NewStrs 9 h.next h' v (piecesL 10 s.data.toList) := by
  refine call_of px.n23 (gf23 X) rfl (rs := [.tmp 2]) rfl (m := 31) rfl ?_
  repeat (refine W.seq ?_)
  refine W.reg0 ?_
  simp only [opsA, oneA, wantedA, List.length_cons, List.length_nil, Nat.zero_add, Nat.reduceSub, Nat.reduceAdd, enterT, opnds, evs, ev, plain, opA, cls, pureA, putT, blt_iff, Nat.reduceLT, decide_true, litI, regW_some, thenW_normal]
  repeat (refine W.seq ?_)
  refine W.reg0 ?_
  simp only [opsA, oneA, wantedA, opnds, evs, ev, plain, opA, cls, pureA, putT, blt_iff, Nat.reduceLT, decide_true, regW_some, thenW_normal]
  repeat (refine W.seq ?_)
  refine W.reg0 ?_
  simp only [opsA, oneA, wantedA, opnds, evs, ev, plain, opA, cls, pureA, putT, blt_iff, Nat.reduceLT, decide_true, regW_some, thenW_normal]
  repeat (refine W.seq ?_)
  refine W.reg0 ?_
  simp only [opsA, oneA, wantedA, opnds, evs, ev, plain, opA, cls, pureA, putT, blt_iff, Nat.reduceLT, decide_true, regW_some, thenW_normal]
  repeat (refine W.seq ?_)
  refine W.block ?_
  refine W.loop_inv (fun k a h' => ∃ i done cur v3, k = s.size - i ∧ i ≤ s.size ∧ a.n = 31 ∧ a.m.get 0 = some (.string s) ∧ a.m.get 3 = some v3 ∧ a.m.get 4 = some (.string (bsOf cur)) ∧ a.m.get 5 = some (.int .i64 (.ofNat i)) ∧
    NewStrs 9 h.next h' v3 done ∧ Grows h h' ∧ done.length ≤ i ∧ cur.length ≤ i ∧ piecesL 10 s.data.toList = done ++ joinHd cur (piecesL 10 (s.data.toList.drop i))) ?_ s.size _ _ ?_
  · intro k a h' ⟨i, done, cur, v3, hk, hi, hn, g0, g3, g4, g5, hv, hg, hdn, hcl, hp⟩
    repeat (refine W.seq ?_)
    refine W.reg0 ?_
    simp only [opsA, oneA, wantedA, opnds, evs, ev, g5, opA, cls, pureA, putT, hn, blt_iff, Nat.reduceLT, decide_true, Tr.get_set, Nat.reduceEqDiff, g0, reduceIte, und9, castI, goInt_nat, abin2, abin, dlt, regW_some, thenW_normal]
    repeat (refine W.seq ?_)
    refine W.cond2 ?_
    simp only [ev, Tr.get_set, Nat.reduceEqDiff, reduceIte, condW_bool, decide_eq_true_eq, decide_eq_false_iff_not]
    refine ⟨fun hlt => ?_, fun hge => ?_⟩
    · repeat (refine W.seq ?_)
      refine W.skip ?_
      simp only [thenW_normal]
      repeat (refine W.seq ?_)
      refine W.block ?_
      repeat (refine W.seq ?_)
      refine W.reg0 ?_
      simp only [opsA, oneA, wantedA, opnds, evs, ev, Tr.get_set, Nat.reduceEqDiff, g0, reduceIte, ite_self, opA, cls, pureA, putT, blt_iff, Nat.reduceLT, decide_true, g5, und9, bytes_at s hlt, castI, plain, abin2, abin, deq, regW_some, thenW_normal]
      repeat (refine W.seq ?_)
      refine W.cond2 ?_
      simp only [ev, Tr.get_set, Nat.reduceEqDiff, reduceIte, condW_bool, decide_eq_true_eq, decide_eq_false_iff_not]
      refine ⟨fun h10 => ?_, fun h10 => ?_⟩
      · obtain ⟨v', h2, e, hv', hg'⟩ := app_str (sl52 X) hv hg cur (by omega)
        repeat (refine W.seq ?_)
        refine W.reg0 ?_
        simp only [opsA, oneA, wantedA, opnds, evs, ev, Tr.get_set, Nat.reduceEqDiff, g3, reduceIte, opA, cls, pureA, putT, blt_iff, Nat.reduceLT, decide_true, g4, List.map_cons, List.map_nil, newA, und52, size9, zero9, plain, cellsN_str, Nat.zero_add, beq_iff, Nat.mul_one, ble_iff, Nat.reduceLeDiff, repl, cellsL_str, List.append_nil, List.zip_cons_cons, List.zip_nil_left, fillA, splice, mk, effA, e, regW_some, thenW_normal]
        repeat (refine W.seq ?_)
        refine W.reg0 ?_
        simp only [opsA, oneA, wantedA, opnds, evs, ev, plain, opA, cls, pureA, putT, blt_iff, Nat.reduceLT, decide_true, regW_some, outB_normal, thenW_normal]
        repeat (refine W.seq ?_)
        refine W.reg0 ?_
        simp only [opsA, oneA, wantedA, opnds, evs, ev, Tr.get_set, Nat.reduceEqDiff, g5, ite_self, reduceIte, opA, cls, pureA, putT, blt_iff, Nat.reduceLT, decide_true, plain, abin2, abin, inc_nat (show i + 1 ≤ 9223372036854775807 by omega), regW_some, inv_normal, g0, g3, g4]
        refine ⟨s.size - (i + 1), by omega, i + 1, done ++ [cur], [], v', rfl, by omega, ?_⟩
        simp only [List.length_nil, Nat.reduceLeDiff]
        refine ⟨trivial, trivial, trivial, rfl, trivial, hv', hg', by simp; omega, by simp, ?_⟩
        have hb : s.data.toList[i] = 10 := by
          exact UInt8.toNat_inj.1 h10
        rw [hp, drop_at s hlt, hb, joinHd_hit, joinHd_nil (piecesL_ne_nil _ _)]
        simp
      · repeat (refine W.seq ?_)
        refine W.reg0 ?_
        simp only [opsA, oneA, wantedA, opnds, evs, ev, Tr.get_set, Nat.reduceEqDiff, g4, reduceIte, opA, cls, pureA, putT, blt_iff, Nat.reduceLT, decide_true, g0, ite_self, g5, plain, abin2, abin, inc_nat (show i + 1 ≤ 9223372036854775807 by omega), Option.toList_some, List.cons_append, List.nil_append, Option.toList_none, List.append_nil, bounds2, Option.isSome_some, und9, bound, ble_iff, show i + 1 ≤ s.size from hlt, show i ≤ i + 1 from Nat.le_succ i, one_at s hlt, cat_bs (a := cur) (b := [s.data.toList[i]'(by rw [← Lib.size_eq]; exact hlt)]) (by simp; omega), regW_some, outB_normal, thenW_normal]
        repeat (refine W.seq ?_)
        refine W.reg0 ?_
        simp only [opsA, oneA, wantedA, opnds, evs, ev, Tr.get_set, Nat.reduceEqDiff, g5, ite_self, reduceIte, opA, cls, pureA, putT, blt_iff, Nat.reduceLT, decide_true, plain, abin2, abin, inc_nat (show i + 1 ≤ 9223372036854775807 by omega), regW_some, inv_normal, g0, g3, g4]
        refine ⟨s.size - (i + 1), by omega, i + 1, done, cur ++ [s.data.toList[i]'(by rw [← Lib.size_eq]; exact hlt)], v3, rfl, by omega, ?_⟩
        simp only []
        refine ⟨trivial, trivial, trivial, trivial, trivial, hv, hg, by omega, by simp; omega, ?_⟩
        have hb : s.data.toList[i]'(by rw [← Lib.size_eq]; exact hlt) ≠ 10 := by
          intro e
          exact h10 (by rw [e]; rfl)
        rw [hp, drop_at s hlt, joinHd_miss hb]
    · obtain ⟨v', h2, e, hv', hg'⟩ := app_str (sl52 X) hv hg cur (by omega)
      repeat (refine W.seq ?_)
      refine W.exit ?_
      simp only [thenW_exit, inv_exit, outB_exit, thenW_normal, reduceIte]
      repeat (refine W.seq ?_)
      refine W.reg0 ?_
      simp only [opsA, oneA, wantedA, opnds, evs, ev, Tr.get_set, Nat.reduceEqDiff, g3, reduceIte, opA, cls, pureA, putT, blt_iff, Nat.reduceLT, decide_true, g4, List.map_cons, List.map_nil, newA, und52, size9, zero9, plain, cellsN_str, Nat.zero_add, beq_iff, Nat.mul_one, ble_iff, Nat.reduceLeDiff, repl, cellsL_str, List.append_nil, List.zip_cons_cons, List.zip_nil_left, fillA, splice, mk, effA, e, regW_some, thenW_normal]
      repeat (refine W.seq ?_)
      refine W.ret ?_
      simp only [outW, resultA, resA, Tr.get_set, Nat.reduceEqDiff, reduceIte]
      refine ⟨trivial, v', rfl, hg', ?_⟩
      rw [hp, drop_end s (by omega), joinHd_end]
      exact hv'
  · simp only [Tr.get_set, Nat.reduceEqDiff, Tr.get_nil, reduceIte, succ0]
    refine ⟨0, [], [], _, rfl, Nat.zero_le _, trivial, trivial, rfl, rfl, rfl, NewRow.nil _ _ _ _, Grows.refl _, Nat.le_refl _, Nat.le_refl _, ?_⟩
    rw [joinHd_nil (piecesL_ne_nil _ _)]; rfl

theorem x_rwords (px : PX X) (s : ByteArray) (hs : s.size ≤ 900000) (h : H) : ∃ v h', callS (EX X) 24 [.string s] h = some (v, h') ∧ Grows h h' ∧ NewStrs 9 h.next h' v (wordsL s.data.toList) := by
  refine call_of px.n24 (gf24 X) rfl (rs := [.tmp 2]) rfl (m := 36) rfl ?_
  repeat (refine W.seq ?_)
  refine W.reg0 ?_
  simp only [opsA, oneA, wantedA, List.length_cons, List.length_nil, Nat.zero_add, Nat.reduceSub, Nat.reduceAdd, enterT, opnds, evs, ev, plain, opA, cls, pureA, putT, blt_iff, Nat.reduceLT, decide_true, litI, regW_some, thenW_normal]
  repeat (refine W.seq ?_)
  refine W.reg0 ?_
  simp only [opsA, oneA, wantedA, opnds, evs, ev, plain, opA, cls, pureA, putT, blt_iff, Nat.reduceLT, decide_true, regW_some, thenW_normal]
  repeat (refine W.seq ?_)
  refine W.reg0 ?_
  simp only [opsA, oneA, wantedA, opnds, evs, ev, plain, opA, cls, pureA, putT, blt_iff, Nat.reduceLT, decide_true, regW_some, thenW_normal]
  repeat (refine W.seq ?_)
  refine W.reg0 ?_
  simp only [opsA, oneA, wantedA, opnds, evs, ev, plain, opA, cls, pureA, putT, blt_iff, Nat.reduceLT, decide_true, regW_some, thenW_normal]
  repeat (refine W.seq ?_)
  refine W.block ?_
  refine W.loop_inv (fun k a h' => ∃ i pre cur v3, k = s.size + 1 - i ∧ a.n = 36 ∧ a.m.get 0 = some (.string s) ∧ a.m.get 3 = some v3 ∧ a.m.get 4 = some (.string (bsOf cur)) ∧ a.m.get 5 = some (.int .i64 (.ofNat i)) ∧
    NewStrs 9 h.next h' v3 (pre.filter ne0) ∧ Grows h h' ∧ (pre.filter ne0).length ≤ i ∧ cur.length ≤ i ∧ ((i ≤ s.size ∧ piecesL 32 s.data.toList = pre ++ joinHd cur (piecesL 32 (s.data.toList.drop i))) ∨ (i = s.size + 1 ∧ piecesL 32 s.data.toList = pre))) ?_ (s.size + 1) _ _ ?_
  · intro k a h' ⟨i, pre, cur, v3, hk, hn, g0, g3, g4, g5, hv, hg, hdn, hcl, hp⟩
    repeat (refine W.seq ?_)
    refine W.reg0 ?_
    simp only [opsA, oneA, wantedA, opnds, evs, ev, g5, opA, cls, pureA, putT, hn, blt_iff, Nat.reduceLT, decide_true, Tr.get_set, Nat.reduceEqDiff, g0, reduceIte, und9, castI, goInt_nat, abin2, abin, dle, regW_some, thenW_normal]
    repeat (refine W.seq ?_)
    refine W.cond2 ?_
    simp only [ev, Tr.get_set, Nat.reduceEqDiff, reduceIte, condW_bool, decide_eq_true_eq, decide_eq_false_iff_not]
    refine ⟨fun hle => ?_, fun hgt => ?_⟩
    · repeat (refine W.seq ?_)
      refine W.skip ?_
      simp only [thenW_normal]
      obtain ⟨_, hp⟩ : i ≤ s.size ∧ piecesL 32 s.data.toList = pre ++ joinHd cur (piecesL 32 (s.data.toList.drop i)) := by
        rcases hp with hp | ⟨hp, _⟩
        · exact hp
        · omega
      repeat (refine W.seq ?_)
      refine W.block ?_
      by_cases hlt : i < s.size
      · repeat (refine W.seq ?_)
        refine W.reg0 ?_
        simp only [opsA, oneA, wantedA, opnds, evs, ev, Tr.get_set, Nat.reduceEqDiff, g5, ite_self, reduceIte, opA, cls, pureA, putT, blt_iff, Nat.reduceLT, decide_true, g0, und9, castI, goInt_nat, abin2, abin, dlt, hlt, List.getElem?_cons_succ, List.getElem?_cons_zero, beqTT, bytes_at s hlt, plain, dne, regW_some, thenW_normal]
        repeat (refine W.seq ?_)
        refine W.cond2 ?_
        simp only [ev, Tr.get_set, Nat.reduceEqDiff, reduceIte, condW_bool, decide_eq_true_eq, decide_eq_false_iff_not]
        refine ⟨fun h32 => ?_, fun h32 => ?_⟩
        · refine W.seq ?_
          repeat (refine W.seq ?_)
          refine W.reg0 ?_
          simp only [opsA, oneA, wantedA, opnds, evs, ev, Tr.get_set, Nat.reduceEqDiff, g4, reduceIte, opA, cls, pureA, putT, blt_iff, Nat.reduceLT, decide_true, g0, ite_self, g5, plain, abin2, abin, inc_nat (show i + 1 ≤ 9223372036854775807 by omega), Option.toList_some, List.cons_append, List.nil_append, Option.toList_none, List.append_nil, bounds2, Option.isSome_some, und9, bound, ble_iff, show i + 1 ≤ s.size from hlt, show i ≤ i + 1 from Nat.le_succ i, one_at s hlt, cat_bs (a := cur) (b := [s.data.toList[i]'(by rw [← Lib.size_eq]; exact hlt)]) (by simp; omega), regW_some, thenW_normal]
          repeat (refine W.seq ?_)
          refine W.exit ?_
          simp only [thenW_exit, outB_exit, thenW_normal, inv_exit, succ0, reduceIte]
          repeat (refine W.seq ?_)
          refine W.reg0 ?_
          simp only [opsA, oneA, wantedA, opnds, evs, ev, Tr.get_set, Nat.reduceEqDiff, g5, ite_self, reduceIte, opA, cls, pureA, putT, blt_iff, Nat.reduceLT, decide_true, plain, abin2, abin, inc_nat (show i + 1 ≤ 9223372036854775807 by omega), regW_some, inv_normal, g0, g3, g4]
          refine ⟨s.size + 1 - (i + 1), by omega, i + 1, pre, cur ++ [s.data.toList[i]'(by rw [← Lib.size_eq]; exact hlt)], v3, rfl, ?_⟩
          simp only [Nat.reduceEqDiff]
          refine ⟨trivial, trivial, trivial, trivial, trivial, hv, hg, by omega, by simp; omega, .inl ⟨by omega, ?_⟩⟩
          have hb : s.data.toList[i]'(by rw [← Lib.size_eq]; exact hlt) ≠ 32 := by
            intro e
            exact h32 (by rw [e]; rfl)
          rw [hp, drop_at s hlt, joinHd_miss hb]
        · repeat (refine W.seq ?_)
          refine W.skip ?_
          simp only [thenW_normal]
          have hb : s.data.toList[i]'(by rw [← Lib.size_eq]; exact hlt) = 32 := by
            have := Classical.not_not.1 h32
            exact UInt8.toNat_inj.1 this
          have hp2 : piecesL 32 s.data.toList = (pre ++ [cur]) ++ joinHd [] (piecesL 32 (s.data.toList.drop (i + 1))) := by
            rw [hp, drop_at s hlt, hb, joinHd_hit, joinHd_nil (piecesL_ne_nil _ _)]; simp
          repeat (refine W.seq ?_)
          refine W.reg0 ?_
          simp only [opsA, oneA, wantedA, opnds, evs, ev, Tr.get_set, Nat.reduceEqDiff, g4, reduceIte, opA, cls, pureA, putT, blt_iff, Nat.reduceLT, decide_true, plain, abin2, abin, str_neq, bsOf_list, regW_some, thenW_normal]
          repeat (refine W.seq ?_)
          refine W.cond2 ?_
          simp only [ev, Tr.get_set, Nat.reduceEqDiff, reduceIte, condW_bool]
          refine ⟨fun hne => ?_, fun hne => ?_⟩
          · obtain ⟨v', h2, e, hv', hg'⟩ := app_str (sl52 X) hv hg cur (by omega)
            repeat (refine W.seq ?_)
            refine W.reg0 ?_
            simp only [opsA, oneA, wantedA, opnds, evs, ev, Tr.get_set, Nat.reduceEqDiff, g3, reduceIte, opA, cls, pureA, putT, blt_iff, Nat.reduceLT, decide_true, g4, ite_self, List.map_cons, List.map_nil, newA, und52, size9, zero9, plain, cellsN_str, Nat.zero_add, beq_iff, Nat.mul_one, ble_iff, Nat.reduceLeDiff, repl, cellsL_str, List.append_nil, List.zip_cons_cons, List.zip_nil_left, fillA, splice, mk, effA, e, regW_some, thenW_normal]
            repeat (refine W.seq ?_)
            refine W.reg0 ?_
            simp only [opsA, oneA, wantedA, opnds, evs, ev, plain, opA, cls, pureA, putT, blt_iff, Nat.reduceLT, decide_true, regW_some, outB_normal, thenW_normal]
            repeat (refine W.seq ?_)
            refine W.reg0 ?_
            simp only [opsA, oneA, wantedA, opnds, evs, ev, Tr.get_set, Nat.reduceEqDiff, g5, ite_self, reduceIte, opA, cls, pureA, putT, blt_iff, Nat.reduceLT, decide_true, plain, abin2, abin, inc_nat (show i + 1 ≤ 9223372036854775807 by omega), regW_some, inv_normal, g0, g3, g4]
            refine ⟨s.size + 1 - (i + 1), by omega, i + 1, pre ++ [cur], [], v', rfl, ?_⟩
            simp only [List.length_nil, Nat.reduceLeDiff, Nat.reduceEqDiff]
            have hf : (pre ++ [cur]).filter ne0 = pre.filter ne0 ++ [cur] := by
              cases cur with
              | nil => simp at hne
              | cons x r => simp [ne0]
            rw [hf]
            exact ⟨trivial, trivial, trivial, rfl, trivial, hv', hg', by simp; omega, by simp, .inl ⟨by omega, hp2⟩⟩
          · repeat (refine W.seq ?_)
            refine W.skip ?_
            simp only [thenW_normal]
            repeat (refine W.seq ?_)
            refine W.reg0 ?_
            simp only [opsA, oneA, wantedA, opnds, evs, ev, plain, opA, cls, pureA, putT, blt_iff, Nat.reduceLT, decide_true, regW_some, outB_normal, thenW_normal]
            repeat (refine W.seq ?_)
            refine W.reg0 ?_
            simp only [opsA, oneA, wantedA, opnds, evs, ev, Tr.get_set, Nat.reduceEqDiff, g5, ite_self, reduceIte, opA, cls, pureA, putT, blt_iff, Nat.reduceLT, decide_true, plain, abin2, abin, inc_nat (show i + 1 ≤ 9223372036854775807 by omega), regW_some, inv_normal, g0, g3, g4]
            refine ⟨s.size + 1 - (i + 1), by omega, i + 1, pre ++ [cur], [], v3, rfl, ?_⟩
            simp only [List.length_nil, Nat.reduceLeDiff, Nat.reduceEqDiff]
            have hf : (pre ++ [cur]).filter ne0 = pre.filter ne0 := by
              cases cur with
              | nil => simp [ne0]
              | cons x r => simp at hne
            rw [hf]
            exact ⟨trivial, trivial, trivial, rfl, trivial, hv, hg, by omega, by simp, .inl ⟨by omega, hp2⟩⟩
      · have hi : i = s.size := by omega
        repeat (refine W.seq ?_)
        refine W.reg0 ?_
        simp only [opsA, oneA, wantedA, opnds, evs, ev, Tr.get_set, Nat.reduceEqDiff, g5, ite_self, reduceIte, opA, cls, pureA, putT, blt_iff, Nat.reduceLT, decide_true, g0, und9, castI, goInt_nat, abin2, abin, dlt, hlt, decide_false, List.getElem?_cons_succ, List.getElem?_cons_zero, beqFT, undef, plain, regW_some, thenW_normal]
        repeat (refine W.seq ?_)
        refine W.cond2 ?_
        simp only [ev, Tr.get_set, Nat.reduceEqDiff, reduceIte, condW_bool]
        refine ⟨fun h32 => (by simp at h32), fun _ => ?_⟩
        repeat (refine W.seq ?_)
        refine W.skip ?_
        simp only [thenW_normal]
        have hp2 : piecesL 32 s.data.toList = pre ++ [cur] := by
          rw [hp, drop_end s (by omega), joinHd_end]
        repeat (refine W.seq ?_)
        refine W.reg0 ?_
        simp only [opsA, oneA, wantedA, opnds, evs, ev, Tr.get_set, Nat.reduceEqDiff, g4, reduceIte, opA, cls, pureA, putT, blt_iff, Nat.reduceLT, decide_true, plain, abin2, abin, str_neq, bsOf_list, regW_some, thenW_normal]
        repeat (refine W.seq ?_)
        refine W.cond2 ?_
        simp only [ev, Tr.get_set, Nat.reduceEqDiff, reduceIte, condW_bool]
        refine ⟨fun hne => ?_, fun hne => ?_⟩
        · obtain ⟨v', h2, e, hv', hg'⟩ := app_str (sl52 X) hv hg cur (by omega)
          repeat (refine W.seq ?_)
          refine W.reg0 ?_
          simp only [opsA, oneA, wantedA, opnds, evs, ev, Tr.get_set, Nat.reduceEqDiff, g3, reduceIte, opA, cls, pureA, putT, blt_iff, Nat.reduceLT, decide_true, g4, ite_self, List.map_cons, List.map_nil, newA, und52, size9, zero9, plain, cellsN_str, Nat.zero_add, beq_iff, Nat.mul_one, ble_iff, Nat.reduceLeDiff, repl, cellsL_str, List.append_nil, List.zip_cons_cons, List.zip_nil_left, fillA, splice, mk, effA, e, regW_some, thenW_normal]
          repeat (refine W.seq ?_)
          refine W.reg0 ?_
          simp only [opsA, oneA, wantedA, opnds, evs, ev, plain, opA, cls, pureA, putT, blt_iff, Nat.reduceLT, decide_true, regW_some, outB_normal, thenW_normal]
          repeat (refine W.seq ?_)
          refine W.reg0 ?_
          simp only [opsA, oneA, wantedA, opnds, evs, ev, Tr.get_set, Nat.reduceEqDiff, g5, ite_self, reduceIte, opA, cls, pureA, putT, blt_iff, Nat.reduceLT, decide_true, plain, abin2, abin, inc_nat (show i + 1 ≤ 9223372036854775807 by omega), regW_some, inv_normal, g0, g3, g4]
          refine ⟨s.size + 1 - (i + 1), by omega, i + 1, pre ++ [cur], [], v', rfl, ?_⟩
          simp only [List.length_nil, Nat.reduceLeDiff, Nat.reduceEqDiff]
          have hf : (pre ++ [cur]).filter ne0 = pre.filter ne0 ++ [cur] := by
            cases cur with
            | nil => simp at hne
            | cons x r => simp [ne0]
          rw [hf]
          exact ⟨trivial, trivial, trivial, rfl, trivial, hv', hg', by simp; omega, by simp, .inr ⟨by omega, hp2⟩⟩
        · repeat (refine W.seq ?_)
          refine W.skip ?_
          simp only [thenW_normal]
          repeat (refine W.seq ?_)
          refine W.reg0 ?_
          simp only [opsA, oneA, wantedA, opnds, evs, ev, plain, opA, cls, pureA, putT, blt_iff, Nat.reduceLT, decide_true, regW_some, outB_normal, thenW_normal]
          repeat (refine W.seq ?_)
          refine W.reg0 ?_
          simp only [opsA, oneA, wantedA, opnds, evs, ev, Tr.get_set, Nat.reduceEqDiff, g5, ite_self, reduceIte, opA, cls, pureA, putT, blt_iff, Nat.reduceLT, decide_true, plain, abin2, abin, inc_nat (show i + 1 ≤ 9223372036854775807 by omega), regW_some, inv_normal, g0, g3, g4]
          refine ⟨s.size + 1 - (i + 1), by omega, i + 1, pre ++ [cur], [], v3, rfl, ?_⟩
          simp only [List.length_nil, Nat.reduceLeDiff, Nat.reduceEqDiff]
          have hf : (pre ++ [cur]).filter ne0 = pre.filter ne0 := by
            cases cur with
            | nil => simp [ne0]
            | cons x r => simp at hne
          rw [hf]
          exact ⟨trivial, trivial, trivial, rfl, trivial, hv, hg, by omega, by simp, .inr ⟨by omega, hp2⟩⟩
    · repeat (refine W.seq ?_)
      refine W.exit ?_
      simp only [thenW_exit, inv_exit, outB_exit, thenW_normal, reduceIte]
      repeat (refine W.seq ?_)
      refine W.reg0 ?_
      simp only [opsA, oneA, wantedA, opnds, evs, ev, Tr.get_set, Nat.reduceEqDiff, g3, reduceIte, opA, cls, pureA, putT, blt_iff, Nat.reduceLT, decide_true, regW_some, thenW_normal]
      repeat (refine W.seq ?_)
      refine W.ret ?_
      simp only [outW, resultA, resA, Tr.get_set, Nat.reduceEqDiff, reduceIte]
      refine ⟨trivial, v3, rfl, hg, ?_⟩
      rcases hp with ⟨hp, _⟩ | ⟨_, hp⟩
      · omega
      · show NewRow 9 h.next h' v3 (wordsL s.data.toList).length 1 (strC (wordsL s.data.toList))
        unfold wordsL
        rw [hp]; exact hv
  · simp only [Tr.get_set, Nat.reduceEqDiff, Tr.get_nil, reduceIte, succ0]
    refine ⟨0, [], [], _, rfl, trivial, trivial, rfl, rfl, rfl, NewRow.nil _ _ _ _, Grows.refl _, Nat.le_refl _, Nat.le_refl _, .inl ⟨Nat.zero_le _, ?_⟩⟩
    rw [joinHd_nil (piecesL_ne_nil _ _)]; rfl
end Go.Proofs.YtkoccbggjfbgaaaGreatDoor
end

section
open Go.Eng
set_option maxRecDepth 100000
set_option linter.unusedSimpArgs false
set_option linter.unusedVariables false
namespace Go.Proofs.YtkoccbggjfbgaaaGreatDoor
variable {X : Tr Nat}

/-- the words of a line that counts -/
def lineW : List (List UInt8) → List (List UInt8)
  | (35 :: r) :: ws => []
  | ws => ws

theorem wordsL_ne (l w : List UInt8) (h : w ∈ wordsL l) : w ≠ [] := by
  unfold wordsL at h
  rw [List.mem_filter] at h
  intro e
  subst e
  simp [ne0] at h

theorem strsA_grows (t : Nat) (l : List (List UInt8)) (h : H) : ∃ v h', strsA t l h = some (v, h') ∧ Grows h h' ∧ NewStrs t h.next h' v l ∧ v = .slice (some ⟨h.next, 0, none⟩) l.length 1 := by
  refine ⟨_, _, rfl, (Grows.refl h).new _, .inr ⟨h.next, Nat.le_refl _, Nat.lt_succ_self _, rfl, ?_, by rw [strC_length]; simp⟩, rfl⟩
  rw [H.get_new, if_pos rfl]; rfl

theorem x_fields (px : PX X) (w : List UInt8) (hw : w.length ≤ 4294967296) (h : H) : callS (EX X) 43 [.string (bsOf w), .func (.func 44) #[] #[]] h = strsA 9 (wordsL w) h := by
  rw [call_hook (show (EX X).X.get 43 = some 46137501 from px.fields)]
  rw [hook_fields_eq (g := 44) (t := 9) (by decide) (by decide) (by decide)]
  unfold hFields
  have : Nat.ble (bsOf w).data.toList.length 4294967296 = true := Nat.ble_eq_true_of_le hw
  simp only [this]
  rfl

theorem x_words (px : PX X) (w : List UInt8) (hw : w.length ≤ 900000) (h : H) : ∃ v h', callS (EX X) 20 [.string (bsOf w)] h = some (v, h') ∧ Grows h h' ∧ NewStrs 9 h.next h' v (lineW (wordsL w)) := by
  refine call_of px.n20 (gf20 X) rfl (rs := [.tmp 2]) rfl (m := 17) rfl ?_
  obtain ⟨v, h', e, hg, hv, rfl⟩ := strsA_grows 9 (wordsL w) h
  repeat (refine W.seq ?_)
  refine W.reg0 ?_
  simp only [opsA, oneA, wantedA, List.length_cons, List.length_nil, Nat.zero_add, Nat.reduceSub, Nat.reduceAdd, enterT, opnds, evs, ev, plain, opA, cls, pureA, putT, blt_iff, Nat.reduceLT, decide_true, litI, regW_some, thenW_normal]
  repeat (refine W.seq ?_)
  refine W.reg0 ?_
  simp only [opsA, oneA, wantedA, opnds, evs, ev, Tr.get_set, Nat.reduceEqDiff, Tr.get_nil, reduceIte, opA, cls, pureA, putT, blt_iff, Nat.reduceLT, decide_true, succ0, List.nil_append, List.append_nil, x_fields px w (by omega) h, e, regW_some, thenW_normal]
  cases hws : wordsL w with
  | nil =>
    repeat (refine W.seq ?_)
    refine W.reg0 ?_
    simp only [opsA, oneA, wantedA, List.length_nil, opnds, evs, ev, Tr.get_set, Nat.reduceEqDiff, succ0, Tr.get_nil, reduceIte, opA, cls, pureA, putT, blt_iff, Nat.reduceLT, decide_true, und52, castI, goInt_nat, plain, abin2, abin, dlt, not0, decide_false, List.getElem?_cons_succ, List.getElem?_cons_zero, beqFT, undef, regW_some, thenW_normal]
    repeat (refine W.seq ?_)
    refine W.cond2 ?_
    simp only [ev, Tr.get_set, Nat.reduceEqDiff, succ0, Tr.get_nil, reduceIte, condW_bool]
    refine ⟨fun hc => (by simp at hc), fun _ => ?_⟩
    repeat (refine W.seq ?_)
    refine W.skip ?_
    simp only [thenW_normal]
    repeat (refine W.seq ?_)
    refine W.reg0 ?_
    simp only [opsA, oneA, wantedA, opnds, evs, ev, Tr.get_set, Nat.reduceEqDiff, succ0, Tr.get_nil, reduceIte, ite_self, opA, cls, pureA, putT, blt_iff, Nat.reduceLT, decide_true, regW_some, thenW_normal]
    repeat (refine W.seq ?_)
    refine W.ret ?_
    simp only [outW, resultA, resA, Tr.get_set, Nat.reduceEqDiff, succ0, Tr.get_nil, reduceIte]
    refine ⟨trivial, _, rfl, hg, ?_⟩
    rw [hws] at hv
    exact hv
  | cons y ys =>
    have hy : y ≠ [] := wordsL_ne w y (by rw [hws]; simp)
    obtain ⟨c, r, rfl⟩ : ∃ c r, y = c :: r := by
      cases y with
      | nil => exact absurd rfl hy
      | cons c r => exact ⟨c, r, rfl⟩
    have hget : h'.get h.next = some (.cells (strC ((c :: r) :: ys)) 9) := by
      rcases hv with ⟨e1, _⟩ | ⟨o, _, _, e1, e2, _⟩
      · simp at e1
      · simp only [Value.slice.injEq, Option.some.injEq, Addr.mk.injEq, and_true] at e1
        rw [← e1, hws] at e2; exact e2
    repeat (refine W.seq ?_)
    refine W.reg0 ?_
    simp only [opsA, oneA, wantedA, List.length_cons, opnds, evs, ev, Tr.get_set, Nat.reduceEqDiff, succ0, Tr.get_nil, reduceIte, opA, cls, pureA, putT, blt_iff, Nat.reduceLT, decide_true, und52, castI, goInt_nat, plain, abin2, abin, dlt, pos1, List.getElem?_cons_succ, List.getElem?_cons_zero, beqTT, ite_self, size9, Nat.mul_one, Nat.add_zero, loadA, agg9, loadC, rd, hget, strC, List.map_cons, seg, ofCells, und9, bsOf_list, deq, regW_some, thenW_normal]
    repeat (refine W.seq ?_)
    refine W.cond2 ?_
    simp only [ev, Tr.get_set, Nat.reduceEqDiff, succ0, Tr.get_nil, reduceIte, condW_bool, decide_eq_true_eq, decide_eq_false_iff_not]
    refine ⟨fun hc => ?_, fun hc => ?_⟩
    · have hb : c = 35 := UInt8.toNat_inj.1 hc
      subst hb
      repeat (refine W.seq ?_)
      refine W.reg0 ?_
      simp only [opsA, oneA, wantedA, opnds, evs, ev, plain, opA, cls, pureA, putT, blt_iff, Nat.reduceLT, decide_true, regW_some, thenW_normal]
      repeat (refine W.seq ?_)
      refine W.ret ?_
      simp only [thenW_ret, outW, resultA, resA, Tr.get_set, Nat.reduceEqDiff, succ0, Tr.get_nil, reduceIte, ite_self]
      refine ⟨trivial, _, rfl, hg, ?_⟩
      exact NewRow.nil _ _ _ _
    · have hb : c ≠ 35 := fun e2 => hc (by rw [e2]; rfl)
      repeat (refine W.seq ?_)
      refine W.skip ?_
      simp only [thenW_normal]
      repeat (refine W.seq ?_)
      refine W.reg0 ?_
      simp only [opsA, oneA, wantedA, opnds, evs, ev, Tr.get_set, Nat.reduceEqDiff, succ0, Tr.get_nil, reduceIte, ite_self, opA, cls, pureA, putT, blt_iff, Nat.reduceLT, decide_true, regW_some, thenW_normal]
      repeat (refine W.seq ?_)
      refine W.ret ?_
      simp only [outW, resultA, resA, Tr.get_set, Nat.reduceEqDiff, succ0, Tr.get_nil, reduceIte]
      refine ⟨trivial, _, rfl, hg, ?_⟩
      rw [hws] at hv
      have : lineW ((c :: r) :: ys) = (c :: r) :: ys := by
        unfold lineW
        split
        · rename_i h1; simp only [List.cons.injEq] at h1; exact absurd h1.1.1 hb
        · rfl
      rw [this]
      exact hv

/-! ### Numbers -/
def isDig (b : UInt8) : Bool := decide (48 ≤ b.toNat) && decide (b.toNat ≤ 57)

/-- a word's number, and what is wrong with it -/
def numS (w : List UInt8) : Nat × Nat :=
  match w with
  | [] => (0, 9)
  | 48 :: _ :: _ => (0, 9)
  | w => match w.all isDig with
    | true => match Lib.parseUint10 0 w with
      | .ok n => (n, 0)
      | _ => (0, 3)
    | false => (0, 9)

theorem parse_digs : ∀ (l : List UInt8) (acc : Nat), l.all isDig = true → Lib.parseUint10 acc l ≠ Lib.NumEnd.syntax
  | [], acc, _ => by simp [Lib.parseUint10]
  | c :: r, acc, h => by
    simp only [List.all_cons, isDig, Bool.and_eq_true, decide_eq_true_eq] at h
    unfold Lib.parseUint10
    rw [if_pos h.1]
    split
    · simp
    · split
      · simp
      · exact parse_digs r _ (by simpa [isDig] using h.2)

/-- the object 0 is the variable strconv.ErrRange -/
def HOk (h : H) : Prop := 0 < h.next ∧ ∃ t fz te pe r, h.get 0 = some (.fixed 9 t fz (.iface te pe :: r))
theorem HOk.g {h h' : H} (a : HOk h) (g : Grows h h') : HOk h' := by
  obtain ⟨h0, t, fz, te, pe, r, e⟩ := a
  exact ⟨Nat.lt_of_lt_of_le h0 g.next, t, fz, te, pe, r, (g.get 0 h0).trans e⟩

theorem x_parse (px : PX X) (w : List UInt8) (hne : w ≠ []) (hd : w.all isDig = true) (hw : w.length ≤ 4294967296) (h : H) (ho : HOk h) :
    ∃ h', Grows h h' ∧ ((∃ n, Lib.parseUint10 0 w = .ok n ∧ callS (EX X) 108 [.string (bsOf w), .int .i64 (Int.ofNat 10), .int .i64 (Int.ofNat 64)] h = some (.tuple #[.int .u64 (.ofNat n), .nilIface], h')) ∨
      (Lib.parseUint10 0 w = .range ∧ ∃ p, callS (EX X) 108 [.string (bsOf w), .int .i64 (Int.ofNat 10), .int .i64 (Int.ofNat 64)] h = some (.tuple #[.int .u64 (Int.ofNat 18446744073709551615), .iface 266 (.pointer p)], h'))) := by
  have hk : callS (EX X) 108 [.string (bsOf w), .int .i64 (Int.ofNat 10), .int .i64 (Int.ofNat 64)] h = hParseU 266 9 [.string (bsOf w), .int .i64 (Int.ofNat 10), .int .i64 (Int.ofNat 64)] h := by
    rw [call_hook (show (EX X).X.get 108 = some 151063056 from px.parse), hook_parseU_eq (t := 266) (b := 9) (by decide) (by decide) (by decide) (by decide) (by decide)]
  rw [hk]
  have hb : Nat.ble (bsOf w).data.toList.length 4294967296 = true := Nat.ble_eq_true_of_le hw
  have h1 : decide ((Int.ofNat 10 : Int) = 10) = true := rfl
  have h2 : decide ((Int.ofNat 64 : Int) = 64) = true := rfl
  rw [bsOf_list] at hb
  cases w with
  | nil => exact absurd rfl hne
  | cons x l =>
    unfold hParseU
    simp only [bsOf_list, h1, h2, hb]
    cases hp : Lib.parseUint10 0 (x :: l) with
    | ok n => exact ⟨h, Grows.refl _, .inl ⟨n, rfl, rfl⟩⟩
    | range =>
      obtain ⟨h0, t, fz, te, pe, r, e⟩ := ho
      have h9 : Nat.beq 9 9 = true := rfl
      simp only [e]
      exact ⟨_, (Grows.refl h).new _, .inr ⟨trivial, _, rfl⟩⟩
    | _ => exact absurd hp (parse_digs _ _ hd)

theorem numS_zero (y : UInt8) (r : List UInt8) : numS (48 :: y :: r) = (0, 9) := rfl
theorem numS_else {x : UInt8} {r : List UInt8} (h : ¬ (x = 48 ∧ r ≠ [])) : numS (x :: r) = (match (x :: r).all isDig with
    | true => match Lib.parseUint10 0 (x :: r) with
      | .ok n => (n, 0)
      | _ => (0, 3)
    | false => (0, 9)) := by
  conv => lhs; unfold numS
  split
  · rename_i h1; simp at h1
  · rename_i h1
    simp only [List.cons.injEq] at h1
    exact absurd ⟨h1.1, by rw [h1.2]; simp⟩ h
  · rfl

theorem isDig_lo {b : UInt8} (h : b.toNat < 48) : isDig b = false := by simp [isDig]; omega
theorem isDig_hi {b : UInt8} (h : 57 < b.toNat) : isDig b = false := by simp [isDig]; omega
theorem isDig_in {b : UInt8} (h1 : ¬ b.toNat < 48) (h2 : ¬ 57 < b.toNat) : isDig b = true := by simp [isDig]; omega

theorem x_number (px : PX X) (w : List UInt8) (hw : w.length ≤ 900000) (h : H) (ho : HOk h) : ∃ v h', callS (EX X) 79 [.string (bsOf w)] h = some (v, h') ∧ Grows h h' ∧ v = .tuple #[.int .u64 (Int.ofNat (numS w).1), .int .i64 (Int.ofNat (numS w).2)] := by
  refine call_of px.n79 (gf79 X) rfl (rs := [.tmp 2, .tmp 3]) rfl (m := 43) rfl ?_
  match w, hw with
  | [], hw =>
    repeat (refine W.seq ?_)
    refine W.reg0 ?_
    simp only [opsA, oneA, wantedA, List.length_cons, List.length_nil, Nat.zero_add, Nat.reduceSub, Nat.reduceAdd, enterT, opnds, litI, evs, ev, plain, opA, cls, pureA, putT, blt_iff, Nat.reduceLT, decide_true, regW_some, thenW_normal]
    repeat (refine W.seq ?_)
    refine W.reg0 ?_
    simp only [opsA, oneA, wantedA, opnds, evs, ev, Tr.get_set, Nat.reduceEqDiff, Tr.get_nil, reduceIte, opA, cls, pureA, putT, blt_iff, Nat.reduceLT, decide_true, succ0, plain, abin2, abin, str_eql, bsOf_list, List.getElem?_cons_succ, List.getElem?_cons_zero, beqTF, undef, ite_self, regW_some, thenW_normal]
    repeat (refine W.seq ?_)
    refine W.cond2 ?_
    simp only [ev, Tr.get_set, Nat.reduceEqDiff, succ0, Tr.get_nil, reduceIte, condW_bool]
    refine ⟨fun _ => ?_, fun hc => (by simp at hc)⟩
    repeat (refine W.seq ?_)
    refine W.reg0 ?_
    simp only [opsA, oneA, wantedA, opnds, evs, ev, plain, opA, cls, pureA, putT, blt_iff, Nat.reduceLT, decide_true, regW_some, thenW_normal]
    repeat (refine W.seq ?_)
    refine W.ret ?_
    simp only [thenW_ret, outW, resultA, resA, Tr.get_set, Nat.reduceEqDiff, succ0, Tr.get_nil, reduceIte, ite_self]
    exact ⟨trivial, _, rfl, Grows.refl _, rfl⟩
  | x :: r, hw =>
    have hsz : (bsOf (x :: r)).size = r.length + 1 := by rw [bsOf_size]; rfl
    repeat (refine W.seq ?_)
    refine W.reg0 ?_
    simp only [opsA, oneA, wantedA, List.length_cons, List.length_nil, Nat.zero_add, Nat.reduceSub, Nat.reduceAdd, enterT, opnds, litI, evs, ev, plain, opA, cls, pureA, putT, blt_iff, Nat.reduceLT, decide_true, regW_some, thenW_normal]
    refine W.cut (fun a h' => a.n = 43 ∧ h' = h ∧ a.m.get 0 = some (.string (bsOf (x :: r))) ∧ ¬ (x = 48 ∧ r ≠ [])) ?_ ?_
    · cases r with
      | nil =>
        repeat (refine W.seq ?_)
        refine W.reg0 ?_
        simp only [opsA, oneA, wantedA, opnds, evs, ev, Tr.get_set, Nat.reduceEqDiff, Tr.get_nil, reduceIte, opA, cls, pureA, putT, blt_iff, Nat.reduceLT, decide_true, succ0, plain, abin2, abin, str_eql, bsOf_list, List.getElem?_cons_succ, List.getElem?_cons_zero, ite_self, undef, und9, isEq, litO, bounds2, bound, ble_iff, beq_iff, castI, goInt_nat]
        repeat (refine W.seq ?_)
        refine W.cond2 ?_
        simp only [ev, dlt, Tr.get_set, Nat.reduceEqDiff, succ0, Tr.get_nil, reduceIte, condW_bool]
        refine ⟨fun hc => (by simp at hc), fun _ => ?_⟩
        repeat (refine W.seq ?_)
        refine W.skip ?_
        simp only [cutQ_normal, Tr.get_set, Nat.reduceEqDiff, Tr.get_nil, reduceIte, ite_self]
        exact ⟨trivial, trivial, trivial, fun hc => hc.2 rfl⟩
      | cons y r =>
        have hlt : 1 < r.length + 1 + 1 := by omega
        repeat (refine W.seq ?_)
        refine W.reg0 ?_
        simp only [opsA, oneA, wantedA, opnds, evs, ev, Tr.get_set, reduceCtorEq, Tr.get_nil, reduceIte, opA, cls, pureA, putT, blt_iff, Nat.reduceLT, decide_true, Nat.reduceEqDiff, succ0, plain, abin2, abin, str_eql, bsOf_list, decide_false, List.getElem?_cons_succ, List.getElem?_cons_zero, beqFF, ite_self, und9, hsz, List.length_cons, castI, goInt_nat, dlt, hlt, beqTT, deq, regW_some, thenW_normal]
        repeat (refine W.seq ?_)
        refine W.cond2 ?_
        simp only [ev, Tr.get_set, Nat.reduceEqDiff, succ0, Tr.get_nil, reduceIte, condW_bool, decide_eq_true_eq, decide_eq_false_iff_not]
        refine ⟨fun hc => ?_, fun hc => ?_⟩
        · have hx : x = 48 := UInt8.toNat_inj.1 hc
          subst hx
          repeat (refine W.seq ?_)
          refine W.reg0 ?_
          simp only [opsA, oneA, wantedA, opnds, evs, ev, plain, opA, cls, pureA, putT, blt_iff, Nat.reduceLT, decide_true, regW_some, thenW_normal]
          repeat (refine W.seq ?_)
          refine W.ret ?_
          simp only [cutQ_ret, outW, resultA, resA, Tr.get_set, Nat.reduceEqDiff, succ0, Tr.get_nil, reduceIte, ite_self]
          exact ⟨trivial, _, rfl, Grows.refl _, rfl⟩
        · repeat (refine W.seq ?_)
          refine W.skip ?_
          simp only [cutQ_normal, Tr.get_set, Nat.reduceEqDiff, Tr.get_nil, reduceIte, ite_self]
          exact ⟨trivial, trivial, trivial, fun hc2 => hc (by rw [hc2.1]; rfl)⟩
    · intro a h' ⟨hn, hh, g0, hz⟩
      subst hh
      rw [numS_else hz]
      repeat (refine W.seq ?_)
      refine W.reg0 ?_
      simp only [opsA, oneA, wantedA, opnds, evs, ev, g0, opA, cls, pureA, putT, hn, blt_iff, Nat.reduceLT, decide_true, Tr.get_set, reduceIte, und9, hsz, castI, goInt_nat, plain, regW_some, thenW_normal]
      repeat (refine W.seq ?_)
      refine W.block ?_
      refine W.loop_inv (fun k a h'' => ∃ i, k = (x :: r).length - i ∧ i ≤ (x :: r).length ∧ a.n = 43 ∧ h'' = h' ∧ a.m.get 0 = some (.string (bsOf (x :: r))) ∧ a.m.get 20 = some (.int .i64 (.ofNat (r.length + 1))) ∧ a.m.get 21 = some (.int .i64 (.ofNat i)) ∧ ((x :: r).take i).all isDig = true) ?_ (x :: r).length _ _ ?_
      · intro k a h'' ⟨i, hk, hi, hn, hh, g0, g20, g21, hd⟩
        subst hh
        repeat (refine W.seq ?_)
        refine W.reg0 ?_
        simp only [opsA, oneA, wantedA, opnds, evs, ev, g21, g20, opA, cls, pureA, abin2, abin, decide_true, dlt, putT, hn, blt_iff, Nat.reduceLT, List.length_cons, regW_some, thenW_normal]
        repeat (refine W.seq ?_)
        refine W.cond2 ?_
        simp only [ev, Tr.get_set, reduceIte, condW_bool, decide_eq_true_eq, decide_eq_false_iff_not]
        refine ⟨fun hlt => ?_, fun hge => ?_⟩
        · have hlt' : i < (x :: r).length := hlt
          have hat : (x :: r)[i]? = some ((x :: r)[i]'hlt') := List.getElem?_eq_getElem _
          repeat (refine W.seq ?_)
          refine W.skip ?_
          simp only [thenW_normal]
          repeat (refine W.seq ?_)
          refine W.block ?_
          repeat (refine W.seq ?_)
          refine W.reg0 ?_
          simp only [opsA, oneA, wantedA, opnds, evs, ev, Tr.get_set, Nat.reduceEqDiff, g21, reduceIte, opA, cls, pureA, putT, blt_iff, Nat.reduceLT, decide_true, regW_some, thenW_normal]
          by_cases hlo : ((x :: r)[i]'hlt').toNat < 48
          · repeat (refine W.seq ?_)
            refine W.reg0 ?_
            simp only [opsA, oneA, wantedA, opnds, evs, ev, Tr.get_set, Nat.reduceEqDiff, g0, reduceIte, opA, cls, pureA, putT, blt_iff, Nat.reduceLT, decide_true, und9, bsOf_list, hat, castI, plain, abin2, abin, dlt, hlo, List.getElem?_cons_succ, List.getElem?_cons_zero, beqTF, undef, regW_some, thenW_normal]
            repeat (refine W.seq ?_)
            refine W.cond2 ?_
            simp only [ev, Tr.get_set, Nat.reduceEqDiff, reduceIte, condW_bool]
            refine ⟨fun _ => ?_, fun hc => (by simp at hc)⟩
            repeat (refine W.seq ?_)
            refine W.reg0 ?_
            simp only [opsA, oneA, wantedA, opnds, evs, ev, plain, opA, cls, pureA, putT, blt_iff, Nat.reduceLT, decide_true, regW_some, thenW_normal]
            repeat (refine W.seq ?_)
            refine W.ret ?_
            simp only [outB_ret, thenW_ret, inv_ret, outW, resultA, resA, Tr.get_set, Nat.reduceEqDiff, reduceIte]
            have : (x :: r).all isDig = false := by
              rw [Bool.eq_false_iff]
              intro hc
              rw [List.all_eq_true] at hc
              have := hc _ (List.getElem_mem hlt')
              rw [isDig_lo hlo] at this; simp at this
            rw [this]
            exact ⟨trivial, _, rfl, Grows.refl _, rfl⟩
          · repeat (refine W.seq ?_)
            refine W.reg0 ?_
            simp only [opsA, oneA, wantedA, opnds, evs, ev, Tr.get_set, Nat.reduceEqDiff, g0, reduceIte, opA, cls, pureA, putT, blt_iff, Nat.reduceLT, decide_true, und9, bsOf_list, hat, castI, plain, abin2, abin, dlt, hlo, decide_false, List.getElem?_cons_succ, List.getElem?_cons_zero, beqFF, ite_self, regW_some, thenW_normal]
            repeat (refine W.seq ?_)
            refine W.cond2 ?_
            simp only [ev, Tr.get_set, Nat.reduceEqDiff, reduceIte, condW_bool, decide_eq_true_eq, decide_eq_false_iff_not]
            refine ⟨fun hhi => ?_, fun hhi => ?_⟩
            · repeat (refine W.seq ?_)
              refine W.reg0 ?_
              simp only [opsA, oneA, wantedA, opnds, evs, ev, plain, opA, cls, pureA, putT, blt_iff, Nat.reduceLT, decide_true, regW_some, thenW_normal]
              repeat (refine W.seq ?_)
              refine W.ret ?_
              simp only [outB_ret, thenW_ret, inv_ret, outW, resultA, resA, Tr.get_set, Nat.reduceEqDiff, reduceIte]
              have : (x :: r).all isDig = false := by
                rw [Bool.eq_false_iff]
                intro hc
                rw [List.all_eq_true] at hc
                have := hc _ (List.getElem_mem hlt')
                rw [isDig_hi hhi] at this; simp at this
              rw [this]
              exact ⟨trivial, _, rfl, Grows.refl _, rfl⟩
            · repeat (refine W.seq ?_)
              refine W.skip ?_
              simp only [outB_normal, thenW_normal]
              repeat (refine W.seq ?_)
              refine W.reg0 ?_
              simp only [opsA, oneA, wantedA, opnds, evs, ev, Tr.get_set, Nat.reduceEqDiff, g21, reduceIte, ite_self, plain, opA, cls, pureA, abin2, abin, decide_true, inc_nat (show i + 1 ≤ 9223372036854775807 by omega), putT, blt_iff, Nat.reduceLT, regW_some, inv_normal, g0, g20]
              refine ⟨(x :: r).length - (i + 1), by omega, i + 1, rfl, by omega, ?_⟩
              simp only []
              refine ⟨trivial, trivial, trivial, trivial, trivial, ?_⟩
              rw [List.take_add_one, hat]
              simp only [Option.toList_some, List.all_append, List.all_cons, List.all_nil, Bool.and_true, Bool.and_eq_true]
              exact ⟨hd, isDig_in hlo hhi⟩
        · repeat (refine W.seq ?_)
          refine W.exit ?_
          simp only [thenW_exit, inv_exit, outB_exit, thenW_normal, reduceIte]
          rw [List.take_of_length_le (by simp only [List.length_cons]; omega)] at hd
          obtain ⟨h2, hg2, hp⟩ := x_parse px (x :: r) (by simp) hd (by omega) h'' ho
          rw [hd]
          rcases hp with ⟨n, hp, e⟩ | ⟨hp, p, e⟩
          · rw [hp]
            repeat (refine W.seq ?_)
            refine W.reg0 ?_
            simp only [opsA, oneA, wantedA, opnds, evs, ev, Tr.get_set, Nat.reduceEqDiff, g0, reduceIte, opA, cls, pureA, putT, blt_iff, Nat.reduceLT, decide_true, plain, List.nil_append, List.append_nil, e, List.getElem?_cons_zero, List.getElem?_cons_succ, regW_some, thenW_normal]
            repeat (refine W.seq ?_)
            refine W.reg0 ?_
            simp only [opsA, oneA, wantedA, opnds, evs, ev, Tr.get_set, Nat.reduceEqDiff, reduceIte, opA, cls, pureA, putT, blt_iff, Nat.reduceLT, decide_true, plain, abin2, und75, isEq, litO, Bool.false_or, regW_some, thenW_normal]
            repeat (refine W.seq ?_)
            refine W.cond2 ?_
            simp only [ev, Tr.get_set, Nat.reduceEqDiff, reduceIte, condW_bool]
            refine ⟨fun hc => (by simp at hc), fun _ => ?_⟩
            repeat (refine W.seq ?_)
            refine W.skip ?_
            simp only [thenW_normal]
            repeat (refine W.seq ?_)
            refine W.reg0 ?_
            simp only [opsA, oneA, wantedA, opnds, evs, ev, Tr.get_set, Nat.reduceEqDiff, reduceIte, opA, cls, pureA, putT, blt_iff, Nat.reduceLT, decide_true, plain, regW_some, thenW_normal]
            repeat (refine W.seq ?_)
            refine W.ret ?_
            simp only [outW, resultA, resA, Tr.get_set, Nat.reduceEqDiff, reduceIte]
            exact ⟨trivial, _, rfl, hg2, rfl⟩
          · rw [hp]
            repeat (refine W.seq ?_)
            refine W.reg0 ?_
            simp only [opsA, oneA, wantedA, opnds, evs, ev, Tr.get_set, Nat.reduceEqDiff, g0, reduceIte, opA, cls, pureA, putT, blt_iff, Nat.reduceLT, decide_true, plain, List.nil_append, List.append_nil, e, List.getElem?_cons_zero, List.getElem?_cons_succ, regW_some, thenW_normal]
            repeat (refine W.seq ?_)
            refine W.reg0 ?_
            simp only [opsA, oneA, wantedA, opnds, evs, ev, Tr.get_set, Nat.reduceEqDiff, reduceIte, opA, cls, pureA, putT, blt_iff, Nat.reduceLT, decide_true, plain, abin2, abin, isEq, aeq, und75, beqFF, regW_some, thenW_normal]
            repeat (refine W.seq ?_)
            refine W.cond2 ?_
            simp only [ev, Tr.get_set, Nat.reduceEqDiff, reduceIte, condW_bool]
            refine ⟨fun _ => ?_, fun hc => (by simp at hc)⟩
            repeat (refine W.seq ?_)
            refine W.reg0 ?_
            simp only [opsA, oneA, wantedA, opnds, evs, ev, plain, opA, cls, pureA, putT, blt_iff, Nat.reduceLT, decide_true, regW_some, thenW_normal]
            repeat (refine W.seq ?_)
            refine W.ret ?_
            simp only [thenW_ret, outW, resultA, resA, Tr.get_set, Nat.reduceEqDiff, reduceIte]
            exact ⟨trivial, _, rfl, hg2, rfl⟩
      · simp only [List.length_cons, Tr.get_set, Nat.reduceEqDiff, g0, ite_self, reduceIte]
        exact ⟨0, rfl, Nat.zero_le _, by simp⟩
end Go.Proofs.YtkoccbggjfbgaaaGreatDoor
end

section
open Go.Eng
set_option maxRecDepth 100000
set_option linter.unusedSimpArgs false
set_option linter.unusedVariables false
namespace Go.Proofs.YtkoccbggjfbgaaaGreatDoor
variable {X : Tr Nat}

/-- words as numbers: the numbers ahead of the first that is none; what is wrong with that -/
def numsS : List (List UInt8) → List Nat × Nat
  | [] => ([], 0)
  | w :: ws => match (numS w).2 with
    | 0 => ((numS w).1 :: (numsS ws).1, (numsS ws).2)
    | e => ([], e)

theorem numsS_ok {w : List UInt8} (ws : List (List UInt8)) (h : (numS w).2 = 0) : numsS (w :: ws) = ((numS w).1 :: (numsS ws).1, (numsS ws).2) := by
  show (match (numS w).2 with | 0 => ((numS w).1 :: (numsS ws).1, (numsS ws).2) | e => ([], e)) = _
  rw [h]; rfl
theorem numsS_bad {w : List UInt8} (ws : List (List UInt8)) (h : (numS w).2 ≠ 0) : numsS (w :: ws) = ([], (numS w).2) := by
  show (match (numS w).2 with | 0 => ((numS w).1 :: (numsS ws).1, (numsS ws).2) | e => ([], e)) = _
  cases he : (numS w).2 with
  | zero => exact absurd he h
  | succ n => rfl

theorem x_numbers (px : PX X) (l : List (List UInt8)) (v : Value) (h : H) (hl : l.length ≤ 900000) (hw : ∀ w ∈ l, w.length ≤ 900000) (hv : ViewS 9 h v l) (ho : HOk h) :
    ∃ r h', callS (EX X) 45 [v] h = some (r, h') ∧ Grows h h' ∧ ∃ u, r = .tuple #[u, .int .i64 (Int.ofNat (numsS l).2)] ∧
      (((numsS l).2 = 0 ∧ NewRow 23 h.next h' u (u64C (numsS l).1).length 1 (u64C (numsS l).1)) ∨ ((numsS l).2 ≠ 0 ∧ u = .slice none 0 0)) := by
  refine call_of px.n45 (gf45 X) rfl (rs := [.tmp 2, .tmp 3]) rfl (m := 29) rfl ?_
  obtain ⟨p, s, hvs⟩ := hv.len
  rw [strC_length] at hvs
  repeat (refine W.seq ?_)
  refine W.reg0 ?_
  simp only [opsA, oneA, wantedA, List.length_cons, List.length_nil, Nat.zero_add, Nat.reduceSub, Nat.reduceAdd, enterT, opnds, evs, ev, plain, opA, cls, pureA, putT, blt_iff, Nat.reduceLT, decide_true, litI, regW_some, thenW_normal]
  repeat (refine W.seq ?_)
  refine W.reg0 ?_
  simp only [opsA, oneA, wantedA, opnds, evs, ev, plain, opA, cls, pureA, putT, blt_iff, Nat.reduceLT, decide_true, regW_some, thenW_normal]
  repeat (refine W.seq ?_)
  refine W.reg0 ?_
  simp only [opsA, oneA, wantedA, hvs, opnds, evs, ev, Tr.get_set, Nat.reduceEqDiff, Tr.get_nil, reduceIte, opA, cls, pureA, putT, blt_iff, Nat.reduceLT, decide_true, succ0, und52, castI, goInt_nat, plain, regW_some, thenW_normal]
  repeat (refine W.seq ?_)
  refine W.block ?_
  refine W.loop_inv (fun k a h' => ∃ i done u, k = l.length - i ∧ i ≤ l.length ∧ a.n = 29 ∧ Grows h h' ∧ a.m.get 9 = some v ∧ a.m.get 10 = some (.int .i64 (.ofNat l.length)) ∧ a.m.get 11 = some (.int .i64 (.ofNat i)) ∧ a.m.get 4 = some u ∧
    NewRow 23 h.next h' u (u64C done).length 1 (u64C done) ∧ done.length = i ∧ numsS l = (done ++ (numsS (l.drop i)).1, (numsS (l.drop i)).2)) ?_ l.length _ _ ?_
  · intro k a h' ⟨i, done, u, hk, hi, hn, hg, g9, g10, g11, g4, hu, hdl, hs⟩
    repeat (refine W.seq ?_)
    refine W.reg0 ?_
    simp only [opsA, oneA, wantedA, opnds, evs, ev, g11, g10, opA, cls, pureA, abin2, abin, decide_true, dlt, putT, hn, blt_iff, Nat.reduceLT, regW_some, thenW_normal]
    repeat (refine W.seq ?_)
    refine W.cond2 ?_
    simp only [ev, Tr.get_set, reduceIte, condW_bool, decide_eq_true_eq, decide_eq_false_iff_not]
    refine ⟨fun hlt => ?_, fun hge => ?_⟩
    · have hat : l[i]? = some l[i] := List.getElem?_eq_getElem hlt
      obtain ⟨o, off, hvo, _, hrd⟩ := (hv.grows hg).at (strC_at hat)
      rw [strC_length] at hvo
      have hdrop : l.drop i = l[i] :: l.drop (i + 1) := List.drop_eq_getElem_cons hlt
      obtain ⟨rv, h2, e, hg2, hrv⟩ := x_number px l[i] (hw _ (List.getElem_mem hlt)) h' (ho.g hg)
      subst hrv
      repeat (refine W.seq ?_)
      refine W.skip ?_
      simp only [thenW_normal]
      repeat (refine W.seq ?_)
      refine W.block ?_
      repeat (refine W.seq ?_)
      refine W.reg0 ?_
      simp only [opsA, oneA, wantedA, hlt, decide_true, opnds, evs, ev, Tr.get_set, Nat.reduceEqDiff, g9, hvo, reduceIte, g11, opA, cls, pureA, und52, size9, blt_iff, Nat.mul_one, putT, Nat.reduceLT, loadA, agg9, loadC, hrd, ofCells, regW_some, thenW_normal]
      repeat (refine W.seq ?_)
      refine W.reg0 ?_
      simp only [opsA, oneA, wantedA, opnds, evs, ev, Tr.get_set, Nat.reduceEqDiff, reduceIte, opA, cls, pureA, putT, blt_iff, Nat.reduceLT, decide_true, List.nil_append, List.append_nil, e, List.getElem?_cons_zero, List.getElem?_cons_succ, regW_some, thenW_normal]
      repeat (refine W.seq ?_)
      refine W.reg0 ?_
      simp only [opsA, oneA, wantedA, opnds, evs, ev, Tr.get_set, Nat.reduceEqDiff, reduceIte, opA, cls, pureA, putT, blt_iff, Nat.reduceLT, decide_true, plain, abin2, abin, dne, regW_some, thenW_normal]
      repeat (refine W.seq ?_)
      refine W.cond2 ?_
      simp only [ev, Tr.get_set, Nat.reduceEqDiff, reduceIte, condW_bool, decide_eq_true_eq, decide_eq_false_iff_not]
      refine ⟨fun hne => ?_, fun heq => ?_⟩
      · repeat (refine W.seq ?_)
        refine W.reg0 ?_
        simp only [opsA, oneA, wantedA, opnds, evs, ev, Tr.get_set, Nat.reduceEqDiff, reduceIte, ite_self, opA, cls, pureA, putT, blt_iff, Nat.reduceLT, decide_true, plain, regW_some, thenW_normal]
        repeat (refine W.seq ?_)
        refine W.ret ?_
        simp only [thenW_ret, outB_ret, inv_ret, outW, resultA, resA, Tr.get_set, Nat.reduceEqDiff, reduceIte]
        have := numsS_bad (l.drop (i + 1)) hne
        rw [← hdrop] at this
        rw [this] at hs
        rw [hs]
        exact ⟨trivial, _, rfl, hg.trans hg2, _, rfl, .inr ⟨hne, rfl⟩⟩
      · have h0 : (numS l[i]).2 = 0 := Classical.not_not.1 heq
        obtain ⟨u', h3, e3, hu', hg3, _, _⟩ := app_one (sl47 X) (hu.grows hg2) (hg.trans hg2) (.int .u64 (Int.ofNat (numS l[i]).1)) rfl (by rw [u64C_length]; omega)
        repeat (refine W.seq ?_)
        refine W.skip ?_
        simp only [thenW_normal]
        repeat (refine W.seq ?_)
        refine W.reg0 ?_
        simp only [opsA, oneA, wantedA, opnds, evs, ev, Tr.get_set, Nat.reduceEqDiff, g4, reduceIte, opA, cls, pureA, putT, blt_iff, Nat.reduceLT, decide_true, List.map_cons, List.map_nil, newA, und47, size23, zero23, litI, plain, cellsN_int, Nat.zero_add, beq_iff, Nat.mul_one, ble_iff, Nat.reduceLeDiff, repl, cellsL_int, List.append_nil, List.zip_cons_cons, List.zip_nil_left, fillA, splice, mk, effA, e3, regW_some, outB_normal, thenW_normal]
        repeat (refine W.seq ?_)
        refine W.reg0 ?_
        simp only [opsA, oneA, wantedA, opnds, evs, ev, Tr.get_set, Nat.reduceEqDiff, g11, reduceIte, plain, opA, cls, pureA, abin2, abin, decide_true, inc_nat (show i + 1 ≤ 9223372036854775807 by omega), putT, blt_iff, Nat.reduceLT, regW_some, inv_normal, g9, g10, g4, ite_self]
        refine ⟨l.length - (i + 1), by omega, i + 1, done ++ [(numS l[i]).1], u', rfl, by omega, ?_⟩
        simp only []
        refine ⟨trivial, hg3, (by first | trivial | rw [hvo]), trivial, trivial, trivial, ?_, by simp; omega, ?_⟩
        · rw [u64C_append]; exact hu'
        · have := numsS_ok (l.drop (i + 1)) h0
          rw [← hdrop] at this
          rw [this] at hs
          rw [hs]; simp
    · have hi' : i = l.length := by omega
      repeat (refine W.seq ?_)
      refine W.exit ?_
      simp only [thenW_exit, inv_exit, outB_exit, thenW_normal, reduceIte]
      repeat (refine W.seq ?_)
      refine W.reg0 ?_
      simp only [opsA, oneA, wantedA, opnds, evs, ev, Tr.get_set, Nat.reduceEqDiff, g4, reduceIte, opA, cls, pureA, putT, blt_iff, Nat.reduceLT, decide_true, plain, regW_some, thenW_normal]
      repeat (refine W.seq ?_)
      refine W.ret ?_
      simp only [outW, resultA, resA, Tr.get_set, Nat.reduceEqDiff, reduceIte]
      rw [hi', List.drop_length] at hs
      have h1 : numsS l = (done, 0) := by rw [hs]; simp [numsS]
      rw [h1]
      exact ⟨trivial, _, rfl, hg, _, rfl, .inl ⟨rfl, hu⟩⟩
  · simp only [Tr.get_set, Nat.reduceEqDiff, succ0, Tr.get_nil, reduceIte]
    exact ⟨0, [], .slice none 0 0, rfl, Nat.zero_le _, trivial, Grows.refl _, (by rw [hvs]), (by first | trivial | rfl), (by first | trivial | rfl), (by first | trivial | rfl), NewRow.nil _ _ _ _, rfl, by simp⟩
end Go.Proofs.YtkoccbggjfbgaaaGreatDoor
end

section
open Go.Eng
set_option maxRecDepth 100000
set_option linter.unusedSimpArgs false
set_option linter.unusedVariables false
namespace Go.Proofs.YtkoccbggjfbgaaaGreatDoor
variable {X : Tr Nat}

structure Cfg where
  cores : Nat
  tasks : Nat
  tick : Nat
  slice : Nat
  origin : Nat
def Cfg.zero : Cfg := ⟨0, 0, 0, 0, 0⟩
def Cfg.cells (c : Cfg) : List Value := [.int .i64 (Int.ofNat c.cores), .int .i64 (Int.ofNat c.tasks), .int .u64 (Int.ofNat c.tick), .int .u64 (Int.ofNat c.slice), .int .u64 (Int.ofNat c.origin)]
def Cfg.val (c : Cfg) : Value := .agg c.cells.toArray

def sysWord : List UInt8 := [115, 121, 115, 116, 101, 109]

def cfgOf : List Nat → Cfg
  | [a, b, c, d, e] => ⟨min a 1073741824, min b 1073741824, c, d, e⟩
  | _ => Cfg.zero

/-- what the first line tells, what is wrong with it -/
def sysS (l : List (List UInt8)) : Cfg × Nat :=
  match l with
  | [] => (Cfg.zero, 9)
  | w :: ws => if w = sysWord ∧ ws.length = 5 then (match (numsS ws).2 with | 0 => (cfgOf (numsS ws).1, 0) | e => (Cfg.zero, e)) else (Cfg.zero, 9)

theorem numsS_length : ∀ (l : List (List UInt8)), (numsS l).2 = 0 → (numsS l).1.length = l.length
  | [], _ => rfl
  | w :: ws, h => by
    by_cases h0 : (numS w).2 = 0
    · rw [numsS_ok ws h0] at h ⊢
      simp [numsS_length ws h]
    · rw [numsS_bad ws h0] at h
      exact absurd h h0

theorem x_system (px : PX X) (w : List UInt8) (ws : List (List UInt8)) (v : Value) (h : H) (hl : ws.length ≤ 800000) (hw : ∀ x ∈ w :: ws, x.length ≤ 900000) (hv : ViewS 9 h v (w :: ws)) (hok : HOk h) :
    ∃ r h', callS (EX X) 21 [v] h = some (r, h') ∧ Grows h h' ∧ r = .tuple #[(sysS (w :: ws)).1.val, .int .i64 (Int.ofNat (sysS (w :: ws)).2)] := by
  refine call_of px.n21 (gf21 X) rfl (rs := [.cell 2 25, .tmp 3]) rfl (m := 46) rfl ?_
  obtain ⟨o, off, rfl, hvt, hrd⟩ := ViewS.uncons hv
  repeat (refine W.seq ?_)
  refine W.reg0 ?_
  simp only [opsA, oneA, wantedA, List.length_cons, List.length_nil, Nat.zero_add, Nat.reduceSub, Nat.reduceAdd, enterT, opnds, evs, opA, cls, newA, btX, beq_iff, Nat.reduceEqDiff, decide_false, zero25, litI, plain, List.all_cons, List.all_nil, Bool.and_self, cellsL_agg, mk, putT, blt_iff, Nat.reduceLT, decide_true, ev, pureA, regW_some, thenW_normal]
  have hg0 : Grows h (h.new (.cells [Value.int .i64 (Int.ofNat 0), .int .i64 (Int.ofNat 0), .int .u64 (Int.ofNat 0), .int .u64 (Int.ofNat 0), .int .u64 (Int.ofNat 0)] 25)) := (Grows.refl h).new _
  have hget0 : (h.new (.cells [Value.int .i64 (Int.ofNat 0), .int .i64 (Int.ofNat 0), .int .u64 (Int.ofNat 0), .int .u64 (Int.ofNat 0), .int .u64 (Int.ofNat 0)] 25)).get h.next = some (.cells [Value.int .i64 (Int.ofNat 0), .int .i64 (Int.ofNat 0), .int .u64 (Int.ofNat 0), .int .u64 (Int.ofNat 0), .int .u64 (Int.ofNat 0)] 25) := by
    rw [H.get_new]; simp
  have hnx0 : (h.new (.cells [Value.int .i64 (Int.ofNat 0), .int .i64 (Int.ofNat 0), .int .u64 (Int.ofNat 0), .int .u64 (Int.ofNat 0), .int .u64 (Int.ofNat 0)] 25)).next = h.next + 1 := rfl
  generalize h.new (.cells [Value.int .i64 (Int.ofNat 0), .int .i64 (Int.ofNat 0), .int .u64 (Int.ofNat 0), .int .u64 (Int.ofNat 0), .int .u64 (Int.ofNat 0)] 25) = h1 at hg0 hget0 hnx0 ⊢
  obtain ⟨o', off', e1, hvt1, hrd1⟩ := ViewS.uncons (hv.grows hg0)
  simp only [Value.slice.injEq, Option.some.injEq, Addr.mk.injEq, and_true] at e1
  obtain ⟨rfl, rfl⟩ := e1
  by_cases hsys : w = sysWord ∧ ws.length = 5
  · obtain ⟨rfl, h5⟩ := hsys
    have hspec : sysS (sysWord :: ws) = (match (numsS ws).2 with | 0 => (cfgOf (numsS ws).1, 0) | e => (Cfg.zero, e)) := by
      show (if sysWord = sysWord ∧ ws.length = 5 then _ else _) = _
      rw [if_pos ⟨rfl, h5⟩]
    rw [hspec]
    repeat (refine W.seq ?_)
    refine W.reg0 ?_
    simp only [opsA, oneA, wantedA, h5, Nat.reduceAdd, opnds, evs, ev, Tr.get_set, Nat.reduceEqDiff, Tr.get_nil, reduceIte, opA, cls, pureA, putT, blt_iff, Nat.reduceLT, decide_true, succ0, plain, und52, size9, pos1, Nat.mul_one, Nat.add_zero, loadA, agg9, loadC, hrd1, sysWord, ofCells, abin2, abin, str_neq, bsOf_list, ne_eq, not_true_eq_false, decide_false, List.getElem?_cons_succ, List.getElem?_cons_zero, beqFF, ite_self, castI, goInt_nat, dne, regW_some, thenW_normal]
    repeat (refine W.seq ?_)
    refine W.cond2 ?_
    simp only [ev, Tr.get_set, Nat.reduceEqDiff, succ0, Tr.get_nil, reduceIte, condW_bool]
    refine ⟨fun hc => (by simp at hc), fun _ => ?_⟩
    repeat (refine W.seq ?_)
    refine W.skip ?_
    simp only [thenW_normal]
    obtain ⟨rv, h2, e2, hg2, u, rfl, hu⟩ := x_numbers px ws _ h1 (by omega) (fun x hx => hw x (by simp [hx])) hvt1 (hok.g hg0)
    rw [h5] at e2
    repeat (refine W.seq ?_)
    refine W.reg0 ?_
    simp only [opsA, oneA, wantedA, opnds, evs, ev, Tr.get_set, Nat.reduceEqDiff, Tr.get_nil, reduceIte, ite_self, opA, cls, pureA, putT, blt_iff, Nat.reduceLT, decide_true, Option.toList_some, Option.toList_none, List.append_nil, succ0, plain, bounds2, Option.isSome_some, Option.isSome_none, und52, size9, bound, Nat.mul_one, Nat.reduceSub, List.nil_append, e2, List.getElem?_cons_zero, List.getElem?_cons_succ, regW_some, thenW_normal]
    have hget2 : h2.get h.next = some (.cells [Value.int .i64 (Int.ofNat 0), .int .i64 (Int.ofNat 0), .int .u64 (Int.ofNat 0), .int .u64 (Int.ofNat 0), .int .u64 (Int.ofNat 0)] 25) := (hg2.get _ (by omega)).trans hget0
    repeat (refine W.seq ?_)
    refine W.reg0 ?_
    simp only [opsA, oneA, wantedA, opnds, evs, ev, Tr.get_set, Nat.reduceEqDiff, succ0, Tr.get_nil, reduceIte, opA, cls, pureA, putT, blt_iff, Nat.reduceLT, decide_true, plain, abin2, abin, dne, regW_some, thenW_normal]
    repeat (refine W.seq ?_)
    refine W.cond2 ?_
    simp only [ev, Tr.get_set, Nat.reduceEqDiff, succ0, Tr.get_nil, reduceIte, condW_bool, decide_eq_true_eq, decide_eq_false_iff_not]
    rcases hu with ⟨hz, hrow⟩ | ⟨hz, rfl⟩
    · refine ⟨fun hc => absurd hz hc, fun _ => ?_⟩
      repeat (refine W.seq ?_)
      refine W.skip ?_
      simp only [thenW_normal]
      have hlen := numsS_length ws hz
      rw [h5] at hlen
      rw [hz]
      obtain ⟨n0, n1, n2, n3, n4, hns⟩ : ∃ a b c d e, (numsS ws).1 = [a, b, c, d, e] := by
        revert hlen
        generalize (numsS ws).1 = l
        intro hlen
        match l, hlen with
        | [a, b, c, d, e], _ => exact ⟨a, b, c, d, e, rfl⟩
      rw [hns] at hrow ⊢
      have hview := hrow.is.view
      obtain ⟨q, qo, rfl, _, r0⟩ := hview.at (i := 0) (x := .int .u64 (Int.ofNat n0)) rfl
      have hq : ∀ (i : Nat) (x : Value), (u64C [n0, n1, n2, n3, n4])[i]? = some x → rd h2 q (qo + i) 1 = some [x] := by
        intro i x hx
        obtain ⟨q', qo', e1, _, r⟩ := hview.at hx
        simp only [Value.slice.injEq, Option.some.injEq, Addr.mk.injEq, and_true] at e1
        obtain ⟨rfl, rfl⟩ := e1
        exact r
      have r0 : rd h2 q qo 1 = some [.int .u64 (Int.ofNat n0)] := hq 0 _ rfl
      have r1 := hq 1 (.int .u64 (Int.ofNat n1)) rfl
      have r2 := hq 2 (.int .u64 (Int.ofNat n2)) rfl
      have r3 := hq 3 (.int .u64 (Int.ofNat n3)) rfl
      have r4 := hq 4 (.int .u64 (Int.ofNat n4)) rfl
      repeat (refine W.seq ?_)
      refine W.plan (st := [(0, 0, false), (1, 1, false), (2, 3, false), (3, 7, false), (4, 15, false), (5, 0, false), (6, 32, false), (7, 96, false), (8, 224, false), (9, 480, false), (10, 0, false), (11, 1024, false), (12, 3072, false), (13, 0, false), (14, 8192, false), (15, 24576, false), (16, 0, false), (17, 65536, false), (18, 196608, false), (19, 524287, false), (20, 1048575, true), (21, 2097151, true)]) (by kernel_rfl) ?_
      simp only [goP, List.getElem?_cons_zero, stableD, oneA, wantedA, u64C, List.map_cons, List.map_nil, List.length_cons, List.length_nil, Nat.zero_add, Nat.reduceAdd, opnds, evs, ev, Tr.get_set, Nat.reduceEqDiff, succ0, Tr.get_nil, reduceIte, opA, cls, pureA, putT, blt_iff, Nat.reduceLT, decide_true, List.getElem?_cons_succ, plain, und47, size23, pos1, Nat.mul_one, Nat.add_zero, r0, stab_cons, List.all_cons, cell1, List.all_nil, Bool.and_self, sameL_refl, stab_nil, Bool.or_true, loadA, agg23, loadC, ofCells, min_nat, und23, und3, wrapN (show min n0 1073741824 ≤ 9223372036854775807 by omega), ite_self, r1, wrapN (show min n1 1073741824 ≤ 9223372036854775807 by omega), r2, r3, r4, zero25, litI, und25, cellsL_agg, List.zip_cons_cons, List.zip_nil_left, fillA, placeS, size3, cellsN_int, beq_iff, cellsL_int, splice, effA, size25, cellsN_agg, List.size_toArray, wr, hget2, cellv, undef, regW_some, thenW_normal]
      repeat (refine W.seq ?_)
      refine W.ret ?_
      simp only [outW, resultA, resA, Tr.get_set, Nat.reduceEqDiff, succ0, Tr.get_nil, reduceIte, loadA, agg25, loadC, size25, rd, H.get_set, seg, ofCells, ite_self]
      exact ⟨trivial, _, rfl, (hg0.trans hg2).set (Nat.le_refl _) _, rfl⟩
    · refine ⟨fun _ => ?_, fun hc => absurd (Classical.not_not.1 hc) hz⟩
      repeat (refine W.seq ?_)
      refine W.reg0 ?_
      simp only [opsA, oneA, wantedA, opnds, List.map_nil, evs, opA, cls, pureA, zero25, litI, und25, plain, List.all_cons, List.all_nil, Bool.and_self, cellsL_agg, List.zip_nil_left, fillA, putT, blt_iff, Nat.reduceLT, decide_true, ev, Tr.get_set, Nat.reduceEqDiff, succ0, Tr.get_nil, reduceIte, ite_self, effA, size25, cellsN_agg, List.size_toArray, List.length_cons, List.length_nil, Nat.zero_add, Nat.reduceAdd, beq_iff, wr, hget2, cellv, splice, undef, regW_some, thenW_normal]
      repeat (refine W.seq ?_)
      refine W.ret ?_
      simp only [thenW_ret, outW, resultA, resA, Tr.get_set, Nat.reduceEqDiff, succ0, Tr.get_nil, reduceIte, loadA, agg25, loadC, size25, rd, H.get_set, seg, ofCells]
      exact ⟨trivial, _, rfl, (hg0.trans hg2).set (Nat.le_refl _) _, rfl⟩
  · have hspec : sysS (w :: ws) = (Cfg.zero, 9) := by
      show (if w = sysWord ∧ ws.length = 5 then _ else _) = _
      rw [if_neg hsys]
    rw [hspec]
    by_cases hw0 : w = sysWord
    · subst hw0
      have h5 : ¬ ws.length = 5 := fun e => hsys ⟨rfl, e⟩
      have h6 : ¬ ws.length + 1 = 6 := by omega
      repeat (refine W.seq ?_)
      refine W.reg0 ?_
      simp only [opsA, oneA, wantedA, opnds, evs, ev, Tr.get_set, Nat.reduceEqDiff, Tr.get_nil, reduceIte, opA, cls, pureA, putT, blt_iff, Nat.reduceLT, decide_true, succ0, plain, und52, size9, pos1, Nat.mul_one, Nat.add_zero, loadA, agg9, loadC, hrd1, sysWord, ofCells, abin2, abin, str_neq, bsOf_list, ne_eq, not_true_eq_false, decide_false, List.getElem?_cons_succ, List.getElem?_cons_zero, beqFF, ite_self, castI, goInt_nat, dne, h6, not_false_eq_true, regW_some, thenW_normal]
      repeat (refine W.seq ?_)
      refine W.cond2 ?_
      simp only [ev, Tr.get_set, Nat.reduceEqDiff, succ0, Tr.get_nil, reduceIte, condW_bool]
      refine ⟨fun _ => ?_, fun hc => (by simp at hc)⟩
      repeat (refine W.seq ?_)
      refine W.reg0 ?_
      simp only [opsA, oneA, wantedA, opnds, List.map_nil, evs, opA, cls, pureA, zero25, litI, und25, plain, List.all_cons, List.all_nil, Bool.and_self, cellsL_agg, List.zip_nil_left, fillA, putT, blt_iff, Nat.reduceLT, decide_true, ev, Tr.get_set, Nat.reduceEqDiff, succ0, Tr.get_nil, reduceIte, effA, size25, cellsN_agg, List.size_toArray, List.length_cons, List.length_nil, Nat.zero_add, Nat.reduceAdd, beq_iff, wr, hget0, cellv, splice, undef, regW_some, thenW_normal]
      repeat (refine W.seq ?_)
      refine W.ret ?_
      simp only [thenW_ret, outW, resultA, resA, Tr.get_set, Nat.reduceEqDiff, succ0, Tr.get_nil, reduceIte, loadA, agg25, loadC, size25, rd, H.get_set, seg, ofCells]
      exact ⟨trivial, _, rfl, hg0.set (Nat.le_refl _) _, rfl⟩
    · have hw0' : ¬ w = [115, 121, 115, 116, 101, 109] := hw0
      repeat (refine W.seq ?_)
      refine W.reg0 ?_
      simp only [opsA, oneA, wantedA, opnds, evs, ev, Tr.get_set, Nat.reduceEqDiff, Tr.get_nil, reduceIte, opA, cls, pureA, putT, blt_iff, Nat.reduceLT, decide_true, succ0, plain, und52, size9, pos1, Nat.mul_one, Nat.add_zero, loadA, agg9, loadC, hrd1, ofCells, abin2, abin, str_neq, bsOf_list, ne_eq, hw0', not_false_eq_true, List.getElem?_cons_succ, List.getElem?_cons_zero, beqTF, undef, regW_some, thenW_normal]
      repeat (refine W.seq ?_)
      refine W.cond2 ?_
      simp only [ev, Tr.get_set, Nat.reduceEqDiff, succ0, Tr.get_nil, reduceIte, condW_bool]
      refine ⟨fun _ => ?_, fun hc => (by simp at hc)⟩
      repeat (refine W.seq ?_)
      refine W.reg0 ?_
      simp only [opsA, oneA, wantedA, opnds, List.map_nil, evs, opA, cls, pureA, zero25, litI, und25, plain, List.all_cons, List.all_nil, Bool.and_self, cellsL_agg, List.zip_nil_left, fillA, putT, blt_iff, Nat.reduceLT, decide_true, ev, Tr.get_set, Nat.reduceEqDiff, succ0, Tr.get_nil, reduceIte, effA, size25, cellsN_agg, List.size_toArray, List.length_cons, List.length_nil, Nat.zero_add, Nat.reduceAdd, beq_iff, wr, hget0, cellv, splice, undef, regW_some, thenW_normal]
      repeat (refine W.seq ?_)
      refine W.ret ?_
      simp only [thenW_ret, outW, resultA, resA, Tr.get_set, Nat.reduceEqDiff, succ0, Tr.get_nil, reduceIte, loadA, agg25, loadC, size25, rd, H.get_set, seg, ofCells]
      exact ⟨trivial, _, rfl, hg0.set (Nat.le_refl _) _, rfl⟩
end Go.Proofs.YtkoccbggjfbgaaaGreatDoor
end

section
open Go.Eng
set_option maxRecDepth 100000
set_option linter.unusedSimpArgs false
set_option linter.unusedVariables false
namespace Go.Proofs.YtkoccbggjfbgaaaGreatDoor
variable {X : Tr Nat}

def formW : List (List UInt8) := [[115, 112, 97, 119, 110], [101, 120, 105, 116], [115, 108, 101, 101, 112], [119, 97, 107, 101], [119, 101, 105, 103, 104, 116], [115, 108, 105, 99, 101], [109, 105, 103, 114, 97, 116, 101], [116, 105, 99, 107], [116, 97, 115, 107], [116, 97, 115, 107, 115], [99, 111, 114, 101, 115], [114, 117, 110, 115]]
def formR : List (List UInt8) := [[76, 110, 110, 110], [104], [104], [104], [104, 110], [104, 110], [104, 110], [110], [104], [42], [], []]
def formC : List Value := (formW.zip formR).flatMap fun p => [.string (bsOf p.1), .string (bsOf p.2)]
def stateW : List (List UInt8) := [[114, 117, 110, 110, 97, 98, 108, 101], [108, 105, 110, 103, 101, 114, 105, 110, 103], [115, 108, 101, 101, 112, 105, 110, 103]]

theorem form_seg : ∀ (i : Nat) (hi : i < 12), seg formC (i * 2) 2 = some [.string (bsOf (formW[i]'hi)), .string (bsOf (formR[i]'hi))]
  | 0, _ => rfl
  | 1, _ => rfl
  | 2, _ => rfl
  | 3, _ => rfl
  | 4, _ => rfl
  | 5, _ => rfl
  | 6, _ => rfl
  | 7, _ => rfl
  | 8, _ => rfl
  | 9, _ => rfl
  | 10, _ => rfl
  | 11, _ => rfl
  | i + 12, h => by omega

theorem x_forms (px : PX X) (h : H) : callS (EX X) 47 [] h = some (.slice (some ⟨h.next, 0, none⟩) 12 2, h.new (.cells formC 96)) := by
  have : ∃ v h', callS (EX X) 47 [] h = some (v, h') ∧ (v = .slice (some ⟨h.next, 0, none⟩) 12 2 ∧ h' = h.new (.cells formC 96)) := by
    refine call_of px.n47 (gf47 X) rfl (rs := [.tmp 0]) rfl (m := 14) rfl ?_
    repeat (refine W.seq ?_)
    refine W.reg0 ?_
    simp only [opsA, oneA, wantedA, List.length_nil, Nat.reduceSub, Nat.zero_add, enterT, opnds, evs, ev, plain, opA, cls, pureA, putT, blt_iff, pos1, decide_true, regW_some, thenW_normal]
    repeat (refine W.seq ?_)
    refine W.reg0 ?_
    simp only [opsA, oneA, wantedA, opnds, List.map_cons, List.map_nil, evs, ev, plain, opA, cls, pureA, zero96, und96, List.all_cons, List.all_nil, Bool.and_self, cellsL_agg, List.zip_cons_cons, List.zip_nil_left, fillA, placeS, List.getElem?_cons_zero, size9, cellsN_str, beq_iff, decide_true, cellsL_str, splice, List.getElem?_cons_succ, putT, blt_iff, Nat.reduceLT, Tr.get_set, Nat.reduceEqDiff, succ0, Tr.get_nil, reduceIte, newA, und94, size96, cellsN_agg, List.size_toArray, List.length_cons, List.length_nil, Nat.zero_add, Nat.reduceAdd, Nat.reduceMul, ble_iff, Nat.reduceLeDiff, repl, List.append_nil, List.cons_append, List.nil_append, Nat.zero_mul, mk, pos1, regW_some, thenW_normal]
    repeat (refine W.seq ?_)
    refine W.ret ?_
    simp only [outW, resultA, resA, Tr.get_set, Nat.reduceEqDiff, Tr.get_nil, reduceIte]
    exact ⟨trivial, _, rfl, rfl, rfl⟩
  obtain ⟨v, h', e, rfl, rfl⟩ := this
  exact e

theorem x_states (px : PX X) (h : H) : callS (EX X) 63 [] h = some (.slice (some ⟨h.next, 0, none⟩) 3 1, h.new (.cells (strC stateW) 9)) := by
  have : ∃ v h', callS (EX X) 63 [] h = some (v, h') ∧ (v = .slice (some ⟨h.next, 0, none⟩) 3 1 ∧ h' = h.new (.cells (strC stateW) 9)) := by
    refine call_of px.n63 (gf63 X) rfl (rs := [.tmp 0]) rfl (m := 2) rfl ?_
    repeat (refine W.seq ?_)
    refine W.reg0 ?_
    simp only [opsA, oneA, wantedA, List.length_nil, Nat.reduceSub, Nat.zero_add, enterT, opnds, evs, ev, plain, opA, cls, pureA, putT, blt_iff, pos1, decide_true, regW_some, thenW_normal]
    repeat (refine W.seq ?_)
    refine W.reg0 ?_
    simp only [opsA, oneA, wantedA, opnds, List.map_cons, List.map_nil, evs, ev, plain, opA, cls, newA, und52, size9, zero9, cellsN_str, Nat.zero_add, beq_iff, decide_true, Nat.mul_one, ble_iff, Nat.reduceLeDiff, repl, cellsL_str, List.append_nil, List.cons_append, List.nil_append, List.zip_cons_cons, List.zip_nil_left, fillA, splice, mk, putT, blt_iff, Nat.reduceLT, Tr.get_set, succ0, Tr.get_nil, reduceIte, pureA, pos1, regW_some, thenW_normal]
    repeat (refine W.seq ?_)
    refine W.ret ?_
    simp only [outW, resultA, resA, Tr.get_set, Nat.reduceEqDiff, Tr.get_nil, reduceIte]
    exact ⟨trivial, _, rfl, rfl, rfl⟩
  obtain ⟨v, h', e, rfl, rfl⟩ := this
  exact e

theorem x_index (px : PX X) (w : List UInt8) (l : List (List UInt8)) (hl : l.length ≤ 900000) (v : Value) (h : H) (hv : ViewS 9 h v l) :
    ∃ r h', callS (EX X) 80 [v, .string (bsOf w)] h = some (r, h') ∧ (Grows h h' ∧ r = idxV (fidx w l)) := by
  refine call_of px.n80 (gf80 X) rfl (rs := [.tmp 4]) rfl (m := 19) rfl ?_
  obtain ⟨p, s, hvs⟩ := hv.len
  rw [strC_length] at hvs
  repeat (refine W.seq ?_)
  refine W.reg0 ?_
  simp only [opsA, oneA, wantedA, List.length_cons, List.length_nil, Nat.zero_add, Nat.reduceAdd, Nat.reduceSub, enterT, opnds, litI, evs, ev, plain, opA, cls, pureA, putT, blt_iff, Nat.reduceLT, decide_true, regW_some, thenW_normal]
  repeat (refine W.seq ?_)
  refine W.reg0 ?_
  simp only [opsA, oneA, wantedA, hvs, opnds, evs, ev, Tr.get_set, Nat.reduceEqDiff, Tr.get_nil, reduceIte, opA, cls, pureA, putT, blt_iff, Nat.reduceLT, decide_true, succ0, und52, castI, goInt_nat, plain, regW_some, thenW_normal]
  repeat (refine W.seq ?_)
  refine W.block ?_
  refine W.loop_inv (fun k a h' => ∃ i, k = l.length - i ∧ i ≤ l.length ∧ a.n = 19 ∧ h' = h ∧ a.m.get 0 = some v ∧ a.m.get 1 = some (.string (bsOf w)) ∧ a.m.get 7 = some (.int .i64 (.ofNat l.length)) ∧ a.m.get 8 = some (.int .i64 (.ofNat i)) ∧
    fidx w l = (fidx w (l.drop i)).map (· + i)) ?_ l.length _ _ ?_
  · intro k a h' ⟨i, hk, hi, hn, hh, g0, g1, g7, g8, hs⟩
    subst hh
    repeat (refine W.seq ?_)
    refine W.reg0 ?_
    simp only [opsA, oneA, wantedA, opnds, evs, ev, g8, g7, opA, cls, pureA, abin2, abin, decide_true, dlt, putT, hn, blt_iff, Nat.reduceLT, regW_some, thenW_normal]
    repeat (refine W.seq ?_)
    refine W.cond2 ?_
    simp only [ev, Tr.get_set, reduceIte, condW_bool, decide_eq_true_eq, decide_eq_false_iff_not]
    refine ⟨fun hlt => ?_, fun hge => ?_⟩
    · have hat : l[i]? = some l[i] := List.getElem?_eq_getElem hlt
      obtain ⟨o, off, hvo, _, hrd⟩ := hv.at (strC_at hat)
      rw [strC_length] at hvo
      repeat (refine W.seq ?_)
      refine W.skip ?_
      simp only [thenW_normal]
      repeat (refine W.seq ?_)
      refine W.block ?_
      repeat (refine W.seq ?_)
      refine W.reg0 ?_
      simp only [opsA, oneA, wantedA, opnds, evs, ev, Tr.get_set, Nat.reduceEqDiff, g8, reduceIte, opA, cls, pureA, putT, blt_iff, Nat.reduceLT, decide_true, regW_some, thenW_normal]
      repeat (refine W.seq ?_)
      refine W.reg0 ?_
      simp only [opsA, oneA, wantedA, hlt, decide_true, opnds, evs, ev, Tr.get_set, Nat.reduceEqDiff, g1, reduceIte, opA, cls, pureA, putT, blt_iff, Nat.reduceLT, g0, hvo, und52, size9, Nat.mul_one, loadA, agg9, loadC, hrd, ofCells, abin2, abin, str_eql, bsOf_list, regW_some, thenW_normal]
      repeat (refine W.seq ?_)
      refine W.cond2 ?_
      simp only [ev, Tr.get_set, Nat.reduceEqDiff, reduceIte, condW_bool]
      refine ⟨fun he => ?_, fun hne => ?_⟩
      · repeat (refine W.seq ?_)
        refine W.reg0 ?_
        simp only [opsA, oneA, wantedA, opnds, evs, ev, Tr.get_set, Nat.reduceEqDiff, reduceIte, ite_self, opA, cls, pureA, putT, blt_iff, Nat.reduceLT, decide_true, regW_some, thenW_normal]
        repeat (refine W.seq ?_)
        refine W.ret ?_
        simp only [outB_ret, thenW_ret, inv_ret, outW, resultA, resA, Tr.get_set, Nat.reduceEqDiff, reduceIte]
        rw [fidx_hit hlt (of_decide_eq_true he) hs]
        exact ⟨trivial, _, rfl, Grows.refl _, rfl⟩
      · repeat (refine W.seq ?_)
        refine W.skip ?_
        simp only [outB_normal, thenW_normal]
        repeat (refine W.seq ?_)
        refine W.reg0 ?_
        simp only [opsA, oneA, wantedA, opnds, evs, ev, Tr.get_set, Nat.reduceEqDiff, g8, reduceIte, ite_self, plain, opA, cls, pureA, abin2, abin, decide_true, inc_nat (show i + 1 ≤ 9223372036854775807 by omega), putT, blt_iff, Nat.reduceLT, regW_some, inv_normal, g0, g1, g7]
        refine ⟨l.length - (i + 1), by omega, i + 1, rfl, by omega, ?_⟩
        simp only []
        exact ⟨trivial, trivial, (by first | trivial | rw [hvo]), trivial, trivial, trivial, fidx_miss hlt (of_decide_eq_false hne) hs⟩
    · repeat (refine W.seq ?_)
      refine W.exit ?_
      simp only [thenW_exit, inv_exit, outB_exit, thenW_normal, reduceIte]
      repeat (refine W.seq ?_)
      refine W.reg0 ?_
      simp only [opsA, oneA, wantedA, opnds, evs, ev, plain, opA, cls, pureA, putT, blt_iff, Nat.reduceLT, decide_true, regW_some, thenW_normal]
      repeat (refine W.seq ?_)
      refine W.ret ?_
      simp only [outW, resultA, resA, Tr.get_set, Nat.reduceEqDiff, reduceIte]
      rw [fidx_end (by omega) hs]
      exact ⟨trivial, _, rfl, Grows.refl _, rfl⟩
  · simp only [Tr.get_set, Nat.reduceEqDiff, Tr.get_nil, reduceIte, ite_self, succ0]
    exact ⟨0, rfl, Nat.zero_le _, trivial, trivial, (by rw [hvs]), (by first | trivial | rfl), (by first | trivial | rfl), (by first | trivial | rfl), fidx_start _ _⟩

theorem x_clo (px : PX X) (a r w : List UInt8) (ws : List (List UInt8)) (b : Nat) (lv : Value) (h : H) (hb : b < h.next) (hget : h.get b = some (.cells [lv] 52)) (hv : ViewS 9 h lv (w :: ws)) :
    ∃ v h', callS (EX X) 48 [.agg #[.string (bsOf a), .string (bsOf r)], .pointer (some ⟨b, 0, none⟩)] h = some (v, h') ∧ (Grows h h' ∧ v = .bool (decide (a = w))) := by
  refine call_of px.n48 (gf48 X) rfl (rs := [.tmp 3]) rfl (m := 10) rfl ?_
  repeat (refine W.seq ?_)
  refine W.reg0 ?_
  simp only [opsA, oneA, wantedA, List.length_cons, List.length_nil, Nat.zero_add, Nat.reduceAdd, Nat.reduceSub, enterT, opnds, evs, ev, Tr.get_set, Nat.reduceEqDiff, Tr.get_nil, reduceIte, opA, cls, newA, cellsL_agg, mk, putT, blt_iff, Nat.reduceLT, decide_true, plain, pureA, litI, regW_some, thenW_normal]
  have hg : Grows h (h.new (.cells [Value.string (bsOf a), .string (bsOf r)] 96)) := (Grows.refl h).new _
  have hself : rd (h.new (.cells [Value.string (bsOf a), .string (bsOf r)] 96)) h.next 0 1 = some [.string (bsOf a)] := rd_get (H.get_new' _ _) rfl
  generalize h.new (.cells [Value.string (bsOf a), .string (bsOf r)] 96) = h1 at hg hself ⊢
  have hbox : rd h1 b 0 1 = some [lv] := rd_grows hg hb (rd_get hget rfl)
  obtain ⟨o, off, rfl, _, hrd⟩ := ViewS.uncons (hv.grows hg)
  repeat (refine W.seq ?_)
  refine W.plan (st := [(0, 0, false), (1, 1, false), (2, 0, false), (3, 4, false), (4, 12, false), (5, 31, false), (6, 63, true)]) (by kernel_rfl) ?_
  simp only [goP, List.getElem?_cons_zero, stableD, oneA, wantedA, opnds, evs, ev, Tr.get_set, Nat.reduceEqDiff, succ0, Tr.get_nil, reduceIte, opA, cls, pureA, und96, size9, Nat.add_zero, putT, blt_iff, Nat.reduceLT, decide_true, List.getElem?_cons_succ, hself, List.length_cons, List.length_nil, Nat.zero_add, Nat.reduceAdd, stab_cons, all1_cons, cell1, all1_nil, Bool.and_self, sameL_refl, stab_nil, Bool.or_true, loadA, agg9, loadC, ofCells, size52, hbox, agg52, plain, und52, pos1, Nat.mul_one, hrd, abin2, abin, str_eql, bsOf_list, regW_some, thenW_normal]
  repeat (refine W.seq ?_)
  refine W.ret ?_
  simp only [outW, resultA, resA, Tr.get_set, Nat.reduceEqDiff, succ0, Tr.get_nil, reduceIte]
  exact ⟨trivial, _, rfl, hg, rfl⟩
end Go.Proofs.YtkoccbggjfbgaaaGreatDoor
end
