/-
  The script seat: the reference's command. The script seat: the reference's system. The script seat: the reference's Parse.
-/
import Derived.Test.YtkoccbggjfbgaaaGreatDoorKSg
set_option linter.all false

section
open Go.Eng
set_option maxRecDepth 100000
set_option linter.unusedSimpArgs false
set_option linter.unusedVariables false
namespace Go.Proofs.YtkoccbggjfbgaaaGreatDoor
variable {X : Tr Nat}

theorem x_rcommand (px : PX X) (line : Nat) (w : List UInt8) (ws : List (List UInt8)) (v : Value) (h : H) (hl : ws.length ≤ 800000) (hw : ∀ x ∈ w :: ws, x.length ≤ 900000) (hv : ViewS 9 h v (w :: ws)) :
    ∃ r h', callS (EX X) 26 [.int .i64 (Int.ofNat line), v] h = some (r, h') ∧ (Grows h h' ∧ ∃ cs, r = .tuple #[.agg cs.toArray, .int .i64 (Int.ofNat (cmdS line (w :: ws)).2)] ∧ CmdAt h.next h' cs (cmdS line (w :: ws)).1) := by
  refine call_of px.n26 (gf26 X) rfl (rs := [.cell 4 61, .tmp 5]) rfl (m := 25) rfl ?_
  obtain ⟨vo, voff, rfl, hvt, hvrd⟩ := ViewS.uncons hv
  have hl12 : formW.length = 12 := rfl
  repeat (refine W.seq ?_)
  refine W.reg0 ?_
  simp only [opsA, oneA, wantedA, List.length_cons, List.length_nil, Nat.zero_add, Nat.reduceAdd, Nat.reduceSub, enterT, opnds, evs, opA, cls, newA, btX, beq_iff, Nat.reduceEqDiff, decide_false, zero61, litI, bs_nil, plain, List.all_cons, List.all_nil, Bool.and_self, cellsL_agg, mk, putT, blt_iff, Nat.reduceLT, decide_true, ev, pureA, regW_some, thenW_normal]
  have hg1 : Grows h (h.new (.cells [.int .i64 (Int.ofNat 0), .int .u8 (Int.ofNat 0), .string (bsOf []), .string (bsOf []), .slice none 0 0, .slice none 0 0] 61)) := (Grows.refl h).new _
  have hR : (h.new (.cells [.int .i64 (Int.ofNat 0), .int .u8 (Int.ofNat 0), .string (bsOf []), .string (bsOf []), .slice none 0 0, .slice none 0 0] 61)).get h.next = some (.cells [.int .i64 (Int.ofNat 0), .int .u8 (Int.ofNat 0), .string (bsOf []), .string (bsOf []), .slice none 0 0, .slice none 0 0] 61) := H.get_new' _ _
  have hn1 : (h.new (.cells [.int .i64 (Int.ofNat 0), .int .u8 (Int.ofNat 0), .string (bsOf []), .string (bsOf []), .slice none 0 0, .slice none 0 0] 61)).next = h.next + 1 := rfl
  generalize h.new (.cells [.int .i64 (Int.ofNat 0), .int .u8 (Int.ofNat 0), .string (bsOf []), .string (bsOf []), .slice none 0 0, .slice none 0 0] 61) = h1 at hg1 hR hn1 ⊢
  repeat (refine W.seq ?_)
  refine W.reg0 ?_
  simp only [opsA, oneA, wantedA, opnds, evs, ev, plain, opA, cls, pureA, putT, blt_iff, Nat.reduceLT, decide_true, regW_some, thenW_normal]
  repeat (refine W.seq ?_)
  refine W.block ?_
  refine W.loop_inv (fun k a hh => ∃ op, k = 12 - op ∧ op ≤ 12 ∧ a.n = 25 ∧ Grows h hh ∧ h.next < hh.next ∧ hh.get h.next = some (.cells [.int .i64 (Int.ofNat 0), .int .u8 (Int.ofNat 0), .string (bsOf []), .string (bsOf []), .slice none 0 0, .slice none 0 0] 61) ∧ a.m.get 0 = some (.int .i64 (Int.ofNat line)) ∧ a.m.get 1 = some (.slice (some ⟨vo, voff, none⟩) (ws.length + 1) 1) ∧ a.m.get 4 = some (.pointer (some ⟨h.next, 0, none⟩)) ∧ a.m.get 6 = some (.int .u8 (Int.ofNat op)) ∧
    fidx w formW = (fidx w (formW.drop op)).map (· + op)) ?_ 12 _ _ ?_
  · intro k a hh ⟨op, hk, hi, hn, hg, hnx, hR, g0, g1, g4, g6, hs⟩
    repeat (refine W.seq ?_)
    refine W.reg0 ?_
    simp only [opsA, oneA, wantedA, opnds, evs, ev, g6, opA, cls, pureA, putT, hn, blt_iff, Nat.reduceLT, decide_true, Tr.get_set, reduceIte, plain, abin2, abin, dlt, regW_some, thenW_normal]
    repeat (refine W.seq ?_)
    refine W.cond2 ?_
    simp only [ev, Tr.get_set, Nat.reduceEqDiff, reduceIte, condW_bool, decide_eq_true_eq, decide_eq_false_iff_not]
    refine ⟨fun hlt => ?_, fun hge => ?_⟩
    · obtain ⟨rw2, h2, e2, hg2, rfl⟩ := x_wordOf px op hlt hh
      have hgd : formW.getD op [] = formW[op]'hlt := by rw [List.getD_eq_getElem?_getD, List.getElem?_eq_getElem (show op < formW.length from hlt)]; rfl
      obtain ⟨vo1, voff1, e1, hvt1, hvrd1⟩ := ViewS.uncons (hv.grows hg)
      simp only [Value.slice.injEq, Option.some.injEq, Addr.mk.injEq, and_true] at e1
      obtain ⟨rfl, rfl⟩ := e1
      obtain ⟨vo1, voff1, e1, hvt2, hvrd2⟩ := ViewS.uncons ((hv.grows hg).grows hg2)
      simp only [Value.slice.injEq, Option.some.injEq, Addr.mk.injEq, and_true] at e1
      obtain ⟨rfl, rfl⟩ := e1
      have hR2 := (hg2.get h.next hnx).trans hR
      have h1le : (1 : Nat) ≤ ws.length + 1 := by omega
      have hnx2 : h.next < h2.next := Nat.lt_of_lt_of_le hnx hg2.next
      repeat (refine W.seq ?_)
      refine W.skip ?_
      simp only [thenW_normal]
      repeat (refine W.seq ?_)
      refine W.block ?_
      repeat (refine W.seq ?_)
      refine W.plan (st := [(0, 0, false), (1, 1, true), (2, 0, false), (3, 4, false), (4, 12, false), (5, 31, false)]) (by kernel_rfl) ?_
      simp only [goP, List.getElem?_cons_zero, stableD, oneA, wantedA, opnds, evs, ev, Tr.get_set, Nat.reduceEqDiff, g6, ite_self, reduceIte, opA, cls, pureA, putT, blt_iff, Nat.reduceLT, decide_true, List.getElem?_cons_succ, List.nil_append, List.append_nil, e2, g1, plain, und52, size9, pos1, Nat.mul_one, Nat.add_zero, hvrd2, List.length_cons, List.length_nil, Nat.zero_add, Nat.reduceAdd, stab_cons, all1_cons, cell1, all1_nil, Bool.and_self, sameL_refl, hvrd1, stab_nil, Bool.or_true, loadA, agg9, loadC, ofCells, abin2, abin, str_eql, bsOf_list, regW_some, thenW_normal]
      repeat (refine W.seq ?_)
      refine W.cond2 ?_
      simp only [ev, Tr.get_set, Nat.reduceEqDiff, reduceIte, condW_bool]
      refine ⟨fun he => ?_, fun hne => ?_⟩
      · have hew : w = formW[op]'hlt := by rw [← hgd]; first | exact he.symm | exact (of_decide_eq_true he).symm
        have hf := fidx_hit (l := formW) hlt hew hs
        have hS : cmdS line (w :: ws) = (if formR.getD op [] = [42] ∨ ws.length = (formR.getD op []).length then foldS (formR.getD op []) 0 ws ⟨line, op, [], [], [], []⟩ else (Cmd.zero, 9)) := by
          show (match fidx w formW with | none => _ | some op => _) = _; rw [hf]
        obtain ⟨r3, h3, e3, hg3, cs, ee, rfl, hcm, hee⟩ := x_rparse px line op hlt ws _ h2 hl (fun x hx => hw x (by simp [hx])) hvt2
        rw [← hS] at hee
        subst hee
        have hR3 := (hg3.get h.next hnx2).trans hR2
        obtain ⟨vN, vS, rfl, hN, hS2⟩ := hcm
        obtain ⟨pN, sN, rfl⟩ := hN.form
        obtain ⟨pS, sS, rfl⟩ := hS2.form
        repeat (refine W.seq ?_)
        refine W.reg0 ?_
        simp only [opsA, oneA, wantedA, opnds, evs, ev, Tr.get_set, Nat.reduceEqDiff, g0, reduceIte, opA, cls, pureA, putT, blt_iff, Nat.reduceLT, decide_true, g6, ite_self, g1, Option.toList_some, Option.toList_none, List.append_nil, plain, bounds2, Option.isSome_some, Option.isSome_none, und52, size9, bound, ble_iff, h1le, Nat.mul_one, Nat.add_sub_cancel, List.nil_append, e3, List.getElem?_cons_zero, List.getElem?_cons_succ, g4, effA, size61, cellsN_agg, List.size_toArray, List.length_cons, List.length_nil, Nat.zero_add, Nat.reduceAdd, beq_iff, wr, hR3, cellsL_agg, allc_cons, cellv, allc_nil, Bool.and_self, splice, undef, regW_some, thenW_normal]
        repeat (refine W.seq ?_)
        refine W.ret ?_
        simp only [outB_ret, thenW_ret, inv_ret, outW, resultA, resA, Tr.get_set, Nat.reduceEqDiff, g4, reduceIte, loadA, agg61, loadC, size61, rd, H.get_set, seg, ofCells]
        exact ⟨trivial, _, rfl, ((hg.trans hg2).trans hg3).set (Nat.le_refl _) _, _, rfl, _, _, rfl, (hN.weaken (by omega)).set_other hR3 (by decide) _, (hS2.weaken (by omega)).set_other hR3 (by decide) _⟩
      · have hnew : ¬ w = formW[op]'hlt := by
          rw [← hgd]
          first | exact fun e => hne e.symm | exact fun e => of_decide_eq_false hne e.symm
        repeat (refine W.seq ?_)
        refine W.skip ?_
        simp only [outB_normal, thenW_normal]
        repeat (refine W.seq ?_)
        refine W.reg0 ?_
        simp only [opsA, oneA, wantedA, opnds, evs, ev, Tr.get_set, Nat.reduceEqDiff, g6, ite_self, reduceIte, opA, cls, pureA, putT, blt_iff, Nat.reduceLT, decide_true, plain, abin2, abin, add8 (show op + 1 < 256 by omega), regW_some, inv_normal]
        refine ⟨12 - (op + 1), by omega, op + 1, rfl, by omega, ?_⟩
        simp only [g0, g1, g4]
        exact ⟨trivial, hg.trans hg2, hnx2, hR2, trivial, trivial, trivial, trivial, fidx_miss (l := formW) hlt hnew hs⟩
    · have hf := fidx_end (l := formW) (by omega) hs
      have hS : cmdS line (w :: ws) = (Cmd.zero, 9) := by show (match fidx w formW with | none => _ | some op => _) = _; rw [hf]
      rw [hS]
      repeat (refine W.seq ?_)
      refine W.exit ?_
      simp only [thenW_exit, inv_exit, outB_exit, thenW_normal, reduceIte]
      repeat (refine W.seq ?_)
      refine W.reg0 ?_
      simp only [opsA, oneA, wantedA, opnds, List.map_nil, evs, opA, cls, pureA, zero61, litI, bs_nil, und61, plain, List.all_cons, List.all_nil, Bool.and_self, cellsL_agg, List.zip_nil_left, fillA, putT, blt_iff, Nat.reduceLT, decide_true, ev, Tr.get_set, Nat.reduceEqDiff, g4, reduceIte, effA, size61, cellsN_agg, List.size_toArray, List.length_cons, List.length_nil, Nat.zero_add, Nat.reduceAdd, beq_iff, wr, hR, cellv, splice, undef, regW_some, thenW_normal]
      repeat (refine W.seq ?_)
      refine W.ret ?_
      simp only [outW, resultA, resA, Tr.get_set, Nat.reduceEqDiff, g4, reduceIte, loadA, agg61, loadC, size61, rd, H.get_set, seg, ofCells]
      exact ⟨trivial, _, rfl, hg.set (Nat.le_refl _) _, cmdZ, rfl, cmdZ_at _ _⟩
  · simp only [Tr.get_set, Nat.reduceEqDiff, Tr.get_nil, reduceIte, succ0]
    exact ⟨0, rfl, Nat.zero_le _, trivial, hg1, by omega, hR, (by first | trivial | rfl), (by first | trivial | rfl), (by first | trivial | rfl), (by first | trivial | rfl), fidx_start _ _⟩
end Go.Proofs.YtkoccbggjfbgaaaGreatDoor
end

section
open Go.Eng
set_option maxRecDepth 100000
set_option linter.unusedSimpArgs false
set_option linter.unusedVariables false
namespace Go.Proofs.YtkoccbggjfbgaaaGreatDoor
variable {X : Tr Nat}

theorem x_rsystem (px : PX X) (w : List UInt8) (ws : List (List UInt8)) (v : Value) (h : H) (hl : ws.length ≤ 800000) (hw : ∀ x ∈ w :: ws, x.length ≤ 900000) (hv : ViewS 9 h v (w :: ws)) :
    ∃ r h', callS (EX X) 25 [v] h = some (r, h') ∧ Grows h h' ∧ r = .tuple #[(sysS (w :: ws)).1.val, .int .i64 (Int.ofNat (sysS (w :: ws)).2)] := by
  refine call_of px.n25 (gf25 X) rfl (rs := [.cell 2 30, .tmp 3]) rfl (m := 60) rfl ?_
  obtain ⟨o, off, rfl, hvt, hrd⟩ := ViewS.uncons hv
  repeat (refine W.seq ?_)
  refine W.reg0 ?_
  simp only [opsA, oneA, wantedA, List.length_cons, List.length_nil, Nat.zero_add, Nat.reduceSub, Nat.reduceAdd, enterT, opnds, evs, opA, cls, newA, btX, beq_iff, Nat.reduceEqDiff, decide_false, zero30, litI, plain, List.all_cons, List.all_nil, Bool.and_self, cellsL_agg, mk, putT, blt_iff, Nat.reduceLT, decide_true, ev, pureA, regW_some, thenW_normal]
  have hg1 : Grows h (h.new (.cells [Value.int .i64 (Int.ofNat 0), .int .i64 (Int.ofNat 0), .int .u64 (Int.ofNat 0), .int .u64 (Int.ofNat 0), .int .u64 (Int.ofNat 0)] 30)) := (Grows.refl h).new _
  have hR : (h.new (.cells [Value.int .i64 (Int.ofNat 0), .int .i64 (Int.ofNat 0), .int .u64 (Int.ofNat 0), .int .u64 (Int.ofNat 0), .int .u64 (Int.ofNat 0)] 30)).get h.next = some (.cells [Value.int .i64 (Int.ofNat 0), .int .i64 (Int.ofNat 0), .int .u64 (Int.ofNat 0), .int .u64 (Int.ofNat 0), .int .u64 (Int.ofNat 0)] 30) := H.get_new' _ _
  have hn1 : (h.new (.cells [Value.int .i64 (Int.ofNat 0), .int .i64 (Int.ofNat 0), .int .u64 (Int.ofNat 0), .int .u64 (Int.ofNat 0), .int .u64 (Int.ofNat 0)] 30)).next = h.next + 1 := rfl
  generalize h.new (.cells [Value.int .i64 (Int.ofNat 0), .int .i64 (Int.ofNat 0), .int .u64 (Int.ofNat 0), .int .u64 (Int.ofNat 0), .int .u64 (Int.ofNat 0)] 30) = h1 at hg1 hR hn1 ⊢
  obtain ⟨o', off', e1, hvt1, hrd1⟩ := ViewS.uncons (hv.grows hg1)
  simp only [Value.slice.injEq, Option.some.injEq, Addr.mk.injEq, and_true] at e1
  obtain ⟨rfl, rfl⟩ := e1
  by_cases hsys : w = sysWord ∧ ws.length = 5
  · obtain ⟨rfl, h5⟩ := hsys
    have hspec : sysS (sysWord :: ws) = (match (numsS ws).2 with | 0 => (cfgOf (numsS ws).1, 0) | e => (Cfg.zero, e)) := by
      show (if sysWord = sysWord ∧ ws.length = 5 then _ else _) = _
      rw [if_pos ⟨rfl, h5⟩]; rfl
    rw [hspec]
    repeat (refine W.seq ?_)
    refine W.reg0 ?_
    simp only [opsA, oneA, wantedA, h5, Nat.reduceAdd, opnds, evs, ev, Tr.get_set, Nat.reduceEqDiff, Tr.get_nil, reduceIte, opA, cls, pureA, putT, blt_iff, Nat.reduceLT, decide_true, succ0, und52, castI, goInt_nat, plain, abin2, abin, dne, ne_eq, not_true_eq_false, decide_false, List.getElem?_cons_succ, List.getElem?_cons_zero, beqFF, ite_self, size9, pos1, Nat.mul_one, Nat.add_zero, loadA, agg9, loadC, hrd1, sysWord, ofCells, str_neq, bsOf_list, regW_some, thenW_normal]
    repeat (refine W.seq ?_)
    refine W.cond2 ?_
    simp only [ev, Tr.get_set, Nat.reduceEqDiff, succ0, Tr.get_nil, reduceIte, condW_bool]
    refine ⟨fun hc => (by simp at hc), fun _ => ?_⟩
    repeat (refine W.seq ?_)
    refine W.skip ?_
    simp only [thenW_normal]
    repeat (refine W.seq ?_)
    refine W.reg0 ?_
    simp only [opsA, oneA, wantedA, opnds, evs, ev, plain, opA, cls, pureA, putT, blt_iff, Nat.reduceLT, decide_true, regW_some, thenW_normal]
    repeat (refine W.seq ?_)
    refine W.reg0 ?_
    simp only [opsA, oneA, wantedA, opnds, evs, ev, Tr.get_set, Nat.reduceEqDiff, Tr.get_nil, reduceIte, ite_self, opA, cls, pureA, putT, blt_iff, Nat.reduceLT, decide_true, Option.toList_some, Option.toList_none, List.append_nil, succ0, plain, bounds2, Option.isSome_some, Option.isSome_none, und52, size9, bound, Nat.mul_one, Nat.reduceSub, castI, goInt_nat, regW_some, thenW_normal]
    repeat (refine W.seq ?_)
    refine W.block ?_
    refine W.loop_inv (fun k a hh => ∃ i done u, k = 5 - i ∧ i ≤ 5 ∧ a.n = 60 ∧ Grows h hh ∧ h.next < hh.next ∧ hh.get h.next = some (.cells [Value.int .i64 (Int.ofNat 0), .int .i64 (Int.ofNat 0), .int .u64 (Int.ofNat 0), .int .u64 (Int.ofNat 0), .int .u64 (Int.ofNat 0)] 30) ∧ a.m.get 2 = some (.pointer (some ⟨h.next, 0, none⟩)) ∧ a.m.get 20 = some (.slice (some ⟨o, off + 1, none⟩) 5 1) ∧ a.m.get 21 = some (.int .i64 (.ofNat 5)) ∧ a.m.get 22 = some (.int .i64 (.ofNat i)) ∧ a.m.get 4 = some u ∧
      NewRow 23 h.next hh u (u64C done).length 1 (u64C done) ∧ done.length = i ∧ numsS ws = (done ++ (numsS (ws.drop i)).1, (numsS (ws.drop i)).2)) ?_ 5 _ _ ?_
    · intro k a hh ⟨i, done, u, hk, hi, hn, hg, hnx, hR, g2, g20, g21, g22, g4, hu, hdl, hs⟩
      repeat (refine W.seq ?_)
      refine W.reg0 ?_
      simp only [opsA, oneA, wantedA, opnds, evs, ev, g22, g21, opA, cls, pureA, abin2, abin, decide_true, dlt, putT, hn, blt_iff, Nat.reduceLT, regW_some, thenW_normal]
      repeat (refine W.seq ?_)
      refine W.cond2 ?_
      simp only [ev, Tr.get_set, reduceIte, condW_bool, decide_eq_true_eq, decide_eq_false_iff_not]
      refine ⟨fun hlt => ?_, fun hge => ?_⟩
      · have hlt' : i < ws.length := by omega
        have hat : ws[i]? = some ws[i] := List.getElem?_eq_getElem hlt'
        obtain ⟨o2, off2, hvo, _, hrd⟩ := (hvt.grows hg).at (strC_at hat)
        simp only [Value.slice.injEq, Option.some.injEq, Addr.mk.injEq, and_true] at hvo
        obtain ⟨⟨rfl, rfl⟩, _⟩ := hvo
        have hdrop : ws.drop i = ws[i] :: ws.drop (i + 1) := List.drop_eq_getElem_cons hlt'
        obtain ⟨rv, h2, e, hg2, rfl⟩ := x_rnumber px ws[i] (hw _ (by simp)) hh
        have hR2 := (hg2.get h.next hnx).trans hR
        have hnx2 : h.next < h2.next := Nat.lt_of_lt_of_le hnx hg2.next
        repeat (refine W.seq ?_)
        refine W.skip ?_
        simp only [thenW_normal]
        repeat (refine W.seq ?_)
        refine W.block ?_
        repeat (refine W.seq ?_)
        refine W.reg0 ?_
        simp only [opsA, oneA, wantedA, hlt, decide_true, opnds, evs, ev, Tr.get_set, Nat.reduceEqDiff, g20, reduceIte, g22, opA, cls, pureA, und52, size9, blt_iff, Nat.mul_one, putT, Nat.reduceLT, loadA, agg9, loadC, hrd, ofCells, regW_some, thenW_normal]
        repeat (refine W.seq ?_)
        refine W.reg0 ?_
        simp only [opsA, oneA, wantedA, opnds, evs, ev, Tr.get_set, Nat.reduceEqDiff, reduceIte, opA, cls, pureA, putT, blt_iff, Nat.reduceLT, decide_true, List.nil_append, List.append_nil, e, List.getElem?_cons_zero, List.getElem?_cons_succ, regW_some, thenW_normal]
        repeat (refine W.seq ?_)
        refine W.reg0 ?_
        simp only [opsA, oneA, wantedA, opnds, evs, ev, Tr.get_set, Nat.reduceEqDiff, reduceIte, opA, cls, pureA, putT, blt_iff, Nat.reduceLT, decide_true, plain, abin2, abin, dne, regW_some, thenW_normal]
        repeat (refine W.seq ?_)
        refine W.cond2 ?_
        simp only [ev, Tr.get_set, Nat.reduceEqDiff, reduceIte, condW_bool, decide_eq_true_eq, decide_eq_false_iff_not]
        refine ⟨fun hne => ?_, fun heq => ?_⟩
        · have := numsS_bad (ws.drop (i + 1)) hne
          rw [← hdrop] at this
          rw [this] at hs
          rw [hs]
          repeat (refine W.seq ?_)
          refine W.reg0 ?_
          simp only [opsA, oneA, wantedA, opnds, List.map_nil, evs, opA, cls, pureA, zero30, litI, und30, plain, List.all_cons, List.all_nil, Bool.and_self, cellsL_agg, List.zip_nil_left, fillA, putT, blt_iff, Nat.reduceLT, decide_true, ev, Tr.get_set, Nat.reduceEqDiff, reduceIte, ite_self, g2, effA, size30, cellsN_agg, List.size_toArray, List.length_cons, List.length_nil, Nat.zero_add, Nat.reduceAdd, beq_iff, wr, hR2, cellv, splice, undef, List.append_nil, regW_some, thenW_normal]
          repeat (refine W.seq ?_)
          refine W.ret ?_
          simp only [thenW_ret, outB_ret, inv_ret, outW, resultA, resA, Tr.get_set, Nat.reduceEqDiff, g2, reduceIte, loadA, agg30, loadC, size30, rd, H.get_set, seg, ofCells]
          refine ⟨trivial, _, rfl, (hg.trans hg2).set (Nat.le_refl _) _, ?_⟩
          cases hz : (numS ws[i]).2 with
          | zero => exact absurd hz hne
          | succ m => rfl
        · have h0 : (numS ws[i]).2 = 0 := Classical.not_not.1 heq
          obtain ⟨u', h3, e3, hu', hle3, hlow3, hoth3⟩ := app_row (sl47 X) (hu.grows hg2) (Nat.le_trans hg.next hg2.next) (.int .u64 (Int.ofNat (numS ws[i]).1)) rfl (by rw [u64C_length]; omega)
          have hR3 := (hoth3 h.next hnx2 (by rw [hR2]; intro cs hc; simp at hc)).trans hR2
          have hg3 : Grows h h3 := ⟨Nat.le_trans (hg.trans hg2).next hle3, fun x hx => (hlow3 x hx).trans ((hg.trans hg2).get x hx)⟩
          repeat (refine W.seq ?_)
          refine W.skip ?_
          simp only [thenW_normal]
          repeat (refine W.seq ?_)
          refine W.reg0 ?_
          simp only [opsA, oneA, wantedA, opnds, evs, ev, Tr.get_set, Nat.reduceEqDiff, g4, reduceIte, opA, cls, pureA, putT, blt_iff, Nat.reduceLT, decide_true, List.map_cons, List.map_nil, newA, und47, size23, zero23, litI, plain, cellsN_int, Nat.zero_add, beq_iff, Nat.mul_one, ble_iff, Nat.reduceLeDiff, repl, cellsL_int, List.append_nil, List.zip_cons_cons, List.zip_nil_left, fillA, splice, mk, effA, e3, regW_some, outB_normal, thenW_normal]
          repeat (refine W.seq ?_)
          refine W.reg0 ?_
          simp only [opsA, oneA, wantedA, opnds, evs, ev, Tr.get_set, Nat.reduceEqDiff, g22, reduceIte, plain, opA, cls, pureA, abin2, abin, decide_true, inc_nat (show i + 1 ≤ 9223372036854775807 by omega), putT, blt_iff, Nat.reduceLT, regW_some, inv_normal]
          refine ⟨5 - (i + 1), by omega, i + 1, done ++ [(numS ws[i]).1], u', rfl, by omega, ?_⟩
          simp only [g2, g20, g21]
          refine ⟨trivial, hg3, by omega, hR3, trivial, trivial, trivial, trivial, trivial, ?_, by simp; omega, ?_⟩
          · rw [u64C_append]; exact hu'
          · have := numsS_ok (ws.drop (i + 1)) h0
            rw [← hdrop] at this
            rw [this] at hs
            rw [hs]; simp
      · have hi' : i = ws.length := by omega
        rw [hi', List.drop_length] at hs
        have h1 : numsS ws = (done, 0) := by rw [hs]; simp [numsS]
        rw [h1]
        have hd5 : done.length = 5 := by omega
        obtain ⟨n0, n1, n2, n3, n4, rfl⟩ : ∃ a b c d e, done = [a, b, c, d, e] := by
          revert hd5
          generalize done = l
          intro hd5
          match l, hd5 with
          | [a, b, c, d, e], _ => exact ⟨a, b, c, d, e, rfl⟩
        have hview := hu.is.view
        obtain ⟨q, qo, rfl, _, r0⟩ := hview.at (i := 0) (x := .int .u64 (Int.ofNat n0)) rfl
        have hq : ∀ (i : Nat) (x : Value), (u64C [n0, n1, n2, n3, n4])[i]? = some x → rd hh q (qo + i) 1 = some [x] := by
          intro i x hx
          obtain ⟨q', qo', e1, _, r⟩ := hview.at hx
          simp only [Value.slice.injEq, Option.some.injEq, Addr.mk.injEq, and_true] at e1
          obtain ⟨rfl, rfl⟩ := e1
          exact r
        have r0 : rd hh q qo 1 = some [.int .u64 (Int.ofNat n0)] := hq 0 _ rfl
        have r1 := hq 1 (.int .u64 (Int.ofNat n1)) rfl
        have r2 := hq 2 (.int .u64 (Int.ofNat n2)) rfl
        have r3 := hq 3 (.int .u64 (Int.ofNat n3)) rfl
        have r4 := hq 4 (.int .u64 (Int.ofNat n4)) rfl
        repeat (refine W.seq ?_)
        refine W.exit ?_
        simp only [thenW_exit, inv_exit, outB_exit, thenW_normal, reduceIte]
        repeat (refine W.seq ?_)
        refine W.plan (st := [(0, 0, false), (1, 1, false), (2, 3, false), (3, 7, false), (4, 15, false), (5, 0, false), (6, 32, false), (7, 96, false), (8, 224, false), (9, 480, false), (10, 0, false), (11, 1024, false), (12, 3072, false), (13, 0, false), (14, 8192, false), (15, 24576, false), (16, 0, false), (17, 65536, false), (18, 196608, false), (19, 524287, false), (20, 1048575, true), (21, 2097151, true)]) (by kernel_rfl) ?_
        simp only [goP, List.getElem?_cons_zero, stableD, oneA, wantedA, opnds, evs, ev, Tr.get_set, Nat.reduceEqDiff, g4, u64C, List.map_cons, List.map_nil, List.length_cons, List.length_nil, Nat.zero_add, Nat.reduceAdd, reduceIte, opA, cls, pureA, putT, blt_iff, Nat.reduceLT, decide_true, List.getElem?_cons_succ, plain, und47, size23, pos1, Nat.mul_one, Nat.add_zero, r0, stab_cons, List.all_cons, cell1, List.all_nil, Bool.and_self, sameL_refl, stab_nil, Bool.or_true, loadA, agg23, loadC, ofCells, min_nat, und23, und3, wrapN (show min n0 1073741824 ≤ 9223372036854775807 by omega), ite_self, r1, wrapN (show min n1 1073741824 ≤ 9223372036854775807 by omega), r2, r3, r4, zero30, litI, und30, cellsL_agg, List.zip_cons_cons, List.zip_nil_left, fillA, placeS, size3, cellsN_int, beq_iff, cellsL_int, splice, g2, effA, size30, cellsN_agg, List.size_toArray, wr, hR, cellv, undef, regW_some, thenW_normal]
        repeat (refine W.seq ?_)
        refine W.ret ?_
        simp only [outW, resultA, resA, Tr.get_set, Nat.reduceEqDiff, g2, reduceIte, loadA, agg30, loadC, size30, rd, H.get_set, seg, ofCells]
        exact ⟨trivial, _, rfl, hg.set (Nat.le_refl _) _, rfl⟩
    · simp only [Tr.get_set, Nat.reduceEqDiff, succ0, Tr.get_nil, reduceIte]
      exact ⟨0, [], .slice none 0 0, rfl, Nat.zero_le _, trivial, hg1, by omega, hR, (by first | trivial | rfl), (by first | trivial | rfl), (by first | trivial | rfl), (by first | trivial | rfl), (by first | trivial | rfl), NewRow.nil _ _ _ _, rfl, by simp⟩
  · have hspec : sysS (w :: ws) = (Cfg.zero, 9) := by
      show (if w = sysWord ∧ ws.length = 5 then _ else _) = _
      rw [if_neg hsys]
    rw [hspec]
    by_cases h5 : ws.length = 5
    · have hw0 : ¬ w = sysWord := fun e => hsys ⟨e, h5⟩
      have hw0' : ¬ w = [115, 121, 115, 116, 101, 109] := hw0
      repeat (refine W.seq ?_)
      refine W.reg0 ?_
      simp only [opsA, oneA, wantedA, h5, Nat.reduceAdd, opnds, evs, ev, Tr.get_set, Nat.reduceEqDiff, Tr.get_nil, reduceIte, opA, cls, pureA, putT, blt_iff, Nat.reduceLT, decide_true, succ0, und52, castI, goInt_nat, plain, abin2, abin, dne, ne_eq, not_true_eq_false, decide_false, List.getElem?_cons_succ, List.getElem?_cons_zero, beqFF, ite_self, size9, pos1, Nat.mul_one, Nat.add_zero, loadA, agg9, loadC, hrd1, ofCells, str_neq, bsOf_list, hw0', not_false_eq_true, regW_some, thenW_normal]
      repeat (refine W.seq ?_)
      refine W.cond2 ?_
      simp only [ev, Tr.get_set, Nat.reduceEqDiff, succ0, Tr.get_nil, reduceIte, condW_bool]
      refine ⟨fun _ => ?_, fun hc => (by simp at hc)⟩
      repeat (refine W.seq ?_)
      refine W.reg0 ?_
      simp only [opsA, oneA, wantedA, opnds, List.map_nil, evs, opA, cls, pureA, zero30, litI, und30, plain, List.all_cons, List.all_nil, Bool.and_self, cellsL_agg, List.zip_nil_left, fillA, putT, blt_iff, Nat.reduceLT, decide_true, ev, Tr.get_set, Nat.reduceEqDiff, succ0, Tr.get_nil, reduceIte, effA, size30, cellsN_agg, List.size_toArray, List.length_cons, List.length_nil, Nat.zero_add, Nat.reduceAdd, beq_iff, wr, hR, cellv, splice, undef, regW_some, thenW_normal]
      repeat (refine W.seq ?_)
      refine W.ret ?_
      simp only [thenW_ret, outW, resultA, resA, Tr.get_set, Nat.reduceEqDiff, succ0, Tr.get_nil, reduceIte, loadA, agg30, loadC, size30, rd, H.get_set, seg, ofCells]
      exact ⟨trivial, _, rfl, hg1.set (Nat.le_refl _) _, rfl⟩
    · have h6 : ¬ ws.length + 1 = 6 := by omega
      repeat (refine W.seq ?_)
      refine W.reg0 ?_
      simp only [opsA, oneA, wantedA, opnds, evs, ev, Tr.get_set, Nat.reduceEqDiff, Tr.get_nil, reduceIte, opA, cls, pureA, putT, blt_iff, Nat.reduceLT, decide_true, succ0, und52, castI, goInt_nat, plain, abin2, abin, dne, ne_eq, h6, not_false_eq_true, List.getElem?_cons_succ, List.getElem?_cons_zero, beqTF, undef, regW_some, thenW_normal]
      repeat (refine W.seq ?_)
      refine W.cond2 ?_
      simp only [ev, Tr.get_set, Nat.reduceEqDiff, succ0, Tr.get_nil, reduceIte, condW_bool]
      refine ⟨fun _ => ?_, fun hc => (by simp at hc)⟩
      repeat (refine W.seq ?_)
      refine W.reg0 ?_
      simp only [opsA, oneA, wantedA, opnds, List.map_nil, evs, opA, cls, pureA, zero30, litI, und30, plain, List.all_cons, List.all_nil, Bool.and_self, cellsL_agg, List.zip_nil_left, fillA, putT, blt_iff, Nat.reduceLT, decide_true, ev, Tr.get_set, Nat.reduceEqDiff, succ0, Tr.get_nil, reduceIte, effA, size30, cellsN_agg, List.size_toArray, List.length_cons, List.length_nil, Nat.zero_add, Nat.reduceAdd, beq_iff, wr, hR, cellv, splice, undef, regW_some, thenW_normal]
      repeat (refine W.seq ?_)
      refine W.ret ?_
      simp only [thenW_ret, outW, resultA, resA, Tr.get_set, Nat.reduceEqDiff, succ0, Tr.get_nil, reduceIte, loadA, agg30, loadC, size30, rd, H.get_set, seg, ofCells]
      exact ⟨trivial, _, rfl, hg1.set (Nat.le_refl _) _, rfl⟩
end Go.Proofs.YtkoccbggjfbgaaaGreatDoor
end

section
open Go.Eng
set_option maxRecDepth 100000
set_option linter.unusedSimpArgs false
set_option linter.unusedVariables false
namespace Go.Proofs.YtkoccbggjfbgaaaGreatDoor
variable {X : Tr Nat}

theorem KeepN.set_other {h : H} {o : Nat} {cs' : List Value} {t' : Nat} (ho : h.get o = some (.cells cs' t')) (h1 : t' ≠ 23) (h2 : t' ≠ 5) (x : AObj) : KeepN h (h.set o x) :=
  ⟨Nat.le_refl _, fun k cs t _ ht hk => by
    rw [H.get_set, if_neg]
    intro e
    subst e
    rw [ho] at hk
    simp only [Option.some.injEq, AObj.cells.injEq] at hk
    rcases ht with rfl | rfl
    · exact h1 hk.2
    · exact h2 hk.2⟩
theorem KeepN.app {h h' : H} {t' : Nat} (hn : h.next ≤ h'.next) (hk : ∀ o, o < h.next → notRow t' (h.get o) → h'.get o = h.get o) (h1 : t' ≠ 23) (h2 : t' ≠ 5) : KeepN h h' :=
  ⟨hn, fun o cs t ho ht e => hk o ho (by
    rw [e]
    intro cs' hc
    simp only [Option.some.injEq, AObj.cells.injEq] at hc
    rcases ht with rfl | rfl
    · exact h1 hc.2.symm
    · exact h2 hc.2.symm)⟩

theorem x_refParse (px : PX X) (t : List UInt8) (ht : t.length ≤ 800000) (h : H) :
    ∃ r h', callS (EX X) 9 [.string (bsOf t)] h = some (r, h') ∧ (Grows h h' ∧ ∃ v, r = .tuple #[(parseS t).cfg.val, v, .int .i64 (Int.ofNat (parseS t).line), .int .i64 (Int.ofNat (parseS t).err)] ∧ CmdsIn 61 h.next h' v (parseS t).cmds) := by
  refine call_of px.n9 (gf9 X) rfl (rs := [.cell 2 30, .tmp 3, .tmp 4, .tmp 5]) rfl (m := 73) rfl ?_
  have hsz : (bsOf t).size = t.length := bsOf_size t
  have hne0 : ¬ h.next = h.next + 1 := by omega
  have hg0 : Grows h (h.new (.cells [Value.int .i64 (Int.ofNat 0), .int .i64 (Int.ofNat 0), .int .u64 (Int.ofNat 0), .int .u64 (Int.ofNat 0), .int .u64 (Int.ofNat 0)] 30)) := (Grows.refl h).new _
  have ha0 : (h.new (.cells [Value.int .i64 (Int.ofNat 0), .int .i64 (Int.ofNat 0), .int .u64 (Int.ofNat 0), .int .u64 (Int.ofNat 0), .int .u64 (Int.ofNat 0)] 30)).get h.next = some (.cells [Value.int .i64 (Int.ofNat 0), .int .i64 (Int.ofNat 0), .int .u64 (Int.ofNat 0), .int .u64 (Int.ofNat 0), .int .u64 (Int.ofNat 0)] 30) := H.get_new' _ _
  repeat (refine W.seq ?_)
  refine W.reg0 ?_
  simp only [opsA, oneA, wantedA, List.length_cons, List.length_nil, Nat.zero_add, Nat.reduceSub, Nat.reduceAdd, enterT, opnds, evs, opA, cls, newA, btX, beq_iff, Nat.reduceEqDiff, decide_false, zero30, litI, plain, List.all_cons, List.all_nil, Bool.and_self, cellsL_agg, mk, putT, blt_iff, Nat.reduceLT, decide_true, ev, pureA, regW_some, thenW_normal]
  repeat (refine W.seq ?_)
  refine W.reg0 ?_
  simp only [opsA, oneA, wantedA, opnds, evs, ev, Tr.get_set, Nat.reduceEqDiff, Tr.get_nil, reduceIte, opA, cls, pureA, putT, blt_iff, Nat.reduceLT, decide_true, succ0, und9, hsz, castI, goInt_nat, plain, abin2, abin, dlt, regW_some, thenW_normal]
  repeat (refine W.seq ?_)
  refine W.cond2 ?_
  simp only [ev, Tr.get_set, Nat.reduceEqDiff, succ0, Tr.get_nil, reduceIte, condW_bool, decide_eq_true_eq, decide_eq_false_iff_not]
  refine ⟨fun hlong => ?_, fun hshort => ?_⟩
  · have hS : parseS t = ⟨Cfg.zero, [], 0, 11⟩ := by unfold parseS; rw [if_pos hlong]
    rw [hS]
    generalize h.new (.cells [Value.int .i64 (Int.ofNat 0), .int .i64 (Int.ofNat 0), .int .u64 (Int.ofNat 0), .int .u64 (Int.ofNat 0), .int .u64 (Int.ofNat 0)] 30) = h1 at hg0 ha0 ⊢
    repeat (refine W.seq ?_)
    refine W.reg0 ?_
    simp only [opsA, oneA, wantedA, opnds, List.map_nil, evs, opA, cls, pureA, zero30, litI, und30, plain, List.all_cons, List.all_nil, Bool.and_self, cellsL_agg, List.zip_nil_left, fillA, putT, blt_iff, Nat.reduceLT, decide_true, ev, Tr.get_set, Nat.reduceEqDiff, succ0, Tr.get_nil, reduceIte, effA, size30, cellsN_agg, List.size_toArray, List.length_cons, List.length_nil, Nat.zero_add, Nat.reduceAdd, beq_iff, wr, ha0, cellv, splice, undef, regW_some, thenW_normal]
    repeat (refine W.seq ?_)
    refine W.ret ?_
    simp only [thenW_ret, outW, resultA, resA, Tr.get_set, Nat.reduceEqDiff, succ0, Tr.get_nil, reduceIte, loadA, agg30, loadC, size30, rd, H.get_set, seg, ofCells, ite_self]
    exact ⟨trivial, _, rfl, hg0.set (Nat.le_refl _) _, _, rfl, [], NewRow.nil _ _ _ _, .nil⟩
  · have hS : parseS t = loopS 0 (piecesL 10 t) false Cfg.zero [] := by unfold parseS; rw [if_neg hshort]
    rw [hS]
    repeat (refine W.seq ?_)
    refine W.skip ?_
    simp only [thenW_normal]
    repeat (refine W.seq ?_)
    refine W.reg0 ?_
    simp only [opsA, oneA, wantedA, opnds, evs, opA, cls, newA, btX, beq_iff, Nat.reduceEqDiff, decide_false, zero30, litI, plain, List.all_cons, List.all_nil, Bool.and_self, cellsL_agg, mk, H.next_new, putT, blt_iff, Nat.reduceLT, decide_true, regW_some, thenW_normal]
    obtain ⟨hg1, ha1, hb1, hn1⟩ := two_new h (.cells [Value.int .i64 (Int.ofNat 0), .int .i64 (Int.ofNat 0), .int .u64 (Int.ofNat 0), .int .u64 (Int.ofNat 0), .int .u64 (Int.ofNat 0)] 30) (.cells [Value.int .i64 (Int.ofNat 0), .int .i64 (Int.ofNat 0), .int .u64 (Int.ofNat 0), .int .u64 (Int.ofNat 0), .int .u64 (Int.ofNat 0)] 30)
    generalize (h.new (.cells [Value.int .i64 (Int.ofNat 0), .int .i64 (Int.ofNat 0), .int .u64 (Int.ofNat 0), .int .u64 (Int.ofNat 0), .int .u64 (Int.ofNat 0)] 30)).new (.cells [Value.int .i64 (Int.ofNat 0), .int .i64 (Int.ofNat 0), .int .u64 (Int.ofNat 0), .int .u64 (Int.ofNat 0), .int .u64 (Int.ofNat 0)] 30) = h1 at hg1 ha1 hb1 hn1 ⊢
    repeat (refine W.seq ?_)
    refine W.reg0 ?_
    simp only [opsA, oneA, wantedA, opnds, evs, ev, plain, opA, cls, pureA, putT, blt_iff, Nat.reduceLT, decide_true, regW_some, thenW_normal]
    repeat (refine W.seq ?_)
    refine W.reg0 ?_
    simp only [opsA, oneA, wantedA, opnds, evs, ev, plain, opA, cls, pureA, putT, blt_iff, Nat.reduceLT, decide_true, regW_some, thenW_normal]
    obtain ⟨vl, h2, e2, hg2, hvl⟩ := x_lines px (bsOf t) (by rw [hsz]; omega) h1
    have hbt : (bsOf t).data.toList = t := rfl
    rw [hbt] at hvl
    have hL := pieces_le 10 t
    have hLne := piecesL_ne_nil 10 t
    generalize piecesL 10 t = L at hL hLne hvl ⊢
    obtain ⟨ol, rfl⟩ : ∃ ol, vl = .slice (some ⟨ol, 0, none⟩) L.length 1 := by
      rcases hvl with ⟨_, h0, _⟩ | ⟨o, _, _, e, _⟩
      · exact absurd (List.eq_nil_of_length_eq_zero h0) hLne
      · exact ⟨o, e⟩
    repeat (refine W.seq ?_)
    refine W.reg0 ?_
    simp only [opsA, oneA, wantedA, opnds, evs, ev, Tr.get_set, Nat.reduceEqDiff, Tr.get_nil, reduceIte, ite_self, opA, cls, pureA, putT, blt_iff, Nat.reduceLT, decide_true, succ0, List.nil_append, List.append_nil, e2, und52, castI, goInt_nat, plain, regW_some, thenW_normal]
    have hg12 : Grows h h2 := hg1.trans hg2
    have ha2 := (hg2.get h.next (by omega)).trans ha1
    have hb2 := (hg2.get (h.next + 1) (by omega)).trans hb1
    have hn2 : h.next + 2 ≤ h2.next := by have := hg2.next; omega
    repeat (refine W.seq ?_)
    refine W.block ?_
    refine W.loop_inv (fun k a hh => ∃ i b c v out, k = L.length - i ∧ i ≤ L.length ∧ a.n = 73 ∧ Grows h hh ∧ h.next + 2 ≤ hh.next ∧ hh.get h.next = some (.cells Cfg.zero.cells 30) ∧ hh.get (h.next + 1) = some (.cells (Cfg.cells c) 30) ∧ NewStrs 9 h1.next hh (.slice (some ⟨ol, 0, none⟩) L.length 1) L ∧
      a.m.get 2 = some (.pointer (some ⟨h.next, 0, none⟩)) ∧ a.m.get 6 = some (.pointer (some ⟨h.next + 1, 0, none⟩)) ∧ a.m.get 7 = some v ∧ a.m.get 8 = some (.bool b) ∧ a.m.get 20 = some (.slice (some ⟨ol, 0, none⟩) L.length 1) ∧ a.m.get 21 = some (.int .i64 (.ofNat L.length)) ∧ a.m.get 22 = some (.int .i64 (.ofNat i)) ∧
      CmdsIn 61 h.next hh v out ∧ out.length ≤ 1000 ∧ (b = false → c = Cfg.zero) ∧ loopS 0 L false Cfg.zero [] = loopS i (L.drop i) b c out) ?_ L.length _ _ ?_
    · intro k a hh ⟨i, b, c, v, out, hk, hi, hn, hgr, hnx, hc0, hc1, hrow, g2, g6, g7, g8, g20, g21, g22, ⟨cs, hcs, hcc⟩, hout, hb0, hfold⟩
      obtain ⟨pv, sv, rfl⟩ := hcs.form
      repeat (refine W.seq ?_)
      refine W.reg0 ?_
      simp only [opsA, oneA, wantedA, opnds, evs, ev, g22, g21, opA, cls, pureA, abin2, abin, decide_true, dlt, putT, hn, blt_iff, Nat.reduceLT, regW_some, thenW_normal]
      repeat (refine W.seq ?_)
      refine W.cond2 ?_
      simp only [ev, Tr.get_set, reduceIte, condW_bool, decide_eq_true_eq, decide_eq_false_iff_not]
      refine ⟨fun hlt => ?_, fun hge => ?_⟩
      · repeat (refine W.seq ?_)
        refine W.skip ?_
        simp only [thenW_normal]
        repeat (refine W.seq ?_)
        refine W.block ?_
        have hat : L[i]? = some L[i] := List.getElem?_eq_getElem hlt
        obtain ⟨o', off', e1, _, hrd⟩ := (hrow.is.view).at (strC_at hat)
        rw [strC_length] at e1
        simp only [Value.slice.injEq, Option.some.injEq, Addr.mk.injEq, and_true] at e1
        obtain ⟨rfl, rfl⟩ := e1
        rw [Nat.zero_add] at hrd
        have hmem : L[i] ∈ L := by simp
        have hLi := hL.2 _ hmem
        have hwl := words_le L[i]
        have hdrop : L.drop i = L[i] :: L.drop (i + 1) := List.drop_eq_getElem_cons hlt
        rw [hdrop, loopS] at hfold
        obtain ⟨vw, h3, e3, hg3, hvw⟩ := x_rwords px (bsOf L[i]) (by rw [bsOf_size]; omega) hh
        have hbL : (bsOf L[i]).data.toList = L[i] := rfl
        rw [hbL] at hvw
        repeat (refine W.seq ?_)
        refine W.reg0 ?_
        simp only [opsA, oneA, wantedA, hlt, decide_true, opnds, evs, ev, Tr.get_set, Nat.reduceEqDiff, g22, reduceIte, opA, cls, pureA, putT, blt_iff, Nat.reduceLT, g20, ite_self, und52, size9, Nat.mul_one, Nat.zero_add, loadA, agg9, loadC, hrd, ofCells, regW_some, thenW_normal]
        repeat (refine W.seq ?_)
        refine W.reg0 ?_
        simp only [opsA, oneA, wantedA, opnds, evs, ev, Tr.get_set, Nat.reduceEqDiff, reduceIte, opA, cls, pureA, putT, blt_iff, Nat.reduceLT, decide_true, List.nil_append, List.append_nil, e3, regW_some, thenW_normal]
        have hgr3 := hgr.trans hg3
        have hc03 := (hg3.get h.next (by omega)).trans hc0
        have hc13 := (hg3.get (h.next + 1) (by omega)).trans hc1
        have hrow3 := hrow.grows hg3
        have hnx3 : h.next + 2 ≤ h3.next := by have := hg3.next; omega
        have hcs3 := hcs.grows hg3
        have hcc3 := hcc.keepN (KeepN.of_grows hg3)
        cases hws : wordsL L[i] with
        | nil =>
          have hlw : lineW (wordsL L[i]) = [] := by rw [hws]; rfl
          rw [hlw] at hfold
          rw [hws] at hvw
          obtain ⟨pw, sw, rfl⟩ := hvw.form
          repeat (refine W.seq ?_)
          refine W.reg0 ?_
          simp only [opsA, oneA, wantedA, List.length_nil, opnds, evs, ev, Tr.get_set, Nat.reduceEqDiff, reduceIte, opA, cls, pureA, putT, blt_iff, Nat.reduceLT, decide_true, und52, castI, goInt_nat, plain, abin2, abin, deq, List.getElem?_cons_succ, List.getElem?_cons_zero, beqTF, undef, regW_some, thenW_normal]
          repeat (refine W.seq ?_)
          refine W.cond2 ?_
          simp only [ev, Tr.get_set, Nat.reduceEqDiff, reduceIte, condW_bool]
          refine ⟨fun _ => ?_, fun hc => (by simp at hc)⟩
          repeat (refine W.seq ?_)
          refine W.exit ?_
          simp only [thenW_exit, outB_exit, thenW_normal, inv_exit, succ0, reduceIte]
          repeat (refine W.seq ?_)
          refine W.reg0 ?_
          simp only [opsA, oneA, wantedA, opnds, evs, ev, Tr.get_set, Nat.reduceEqDiff, g22, reduceIte, ite_self, plain, opA, cls, pureA, abin2, abin, decide_true, inc_nat (show i + 1 ≤ 9223372036854775807 by omega), putT, blt_iff, Nat.reduceLT, regW_some, inv_normal]
          refine ⟨L.length - (i + 1), by omega, i + 1, b, c, .slice pv out.length sv, out, rfl, by omega, ?_⟩
          simp only [g2, g6, g7, g8, g20, g21]
          exact ⟨trivial, hgr3, hnx3, hc03, hc13, hrow3, trivial, trivial, trivial, trivial, trivial, trivial, trivial, ⟨cs, hcs3, hcc3⟩, hout, hb0, hfold⟩
        | cons y ws =>
          have hy : y ≠ [] := wordsL_ne L[i] y (by rw [hws]; simp)
          obtain ⟨ch, yr, rfl⟩ : ∃ ch yr, y = ch :: yr := by
            cases y with
            | nil => exact absurd rfl hy
            | cons c r => exact ⟨c, r, rfl⟩
          rw [hws] at hvw
          have hvw3 : ViewS 9 h3 vw ((ch :: yr) :: ws) := hvw.is.view
          obtain ⟨vo, voff, rfl, hvt, hvrd⟩ := ViewS.uncons hvw3
          have hwsl : ws.length + 1 ≤ L[i].length := by
            have := hwl.1
            rw [hws] at this
            simp only [List.length_cons] at this
            omega
          have hwl2 : ∀ x ∈ (ch :: yr) :: ws, x.length ≤ 900000 := fun x hx => by have := hwl.2 x (by rw [hws]; exact hx); omega
          repeat (refine W.seq ?_)
          refine W.reg0 ?_
          simp only [opsA, oneA, wantedA, opnds, evs, ev, Tr.get_set, Nat.reduceEqDiff, reduceIte, opA, cls, pureA, putT, blt_iff, Nat.reduceLT, decide_true, und52, castI, goInt_nat, plain, abin2, abin, deq, succ0, decide_false, List.getElem?_cons_succ, List.getElem?_cons_zero, beqFF, ite_self, size9, pos1, Nat.mul_one, Nat.add_zero, loadA, agg9, loadC, hvrd, ofCells, und9, bsOf_list, regW_some, thenW_normal]
          repeat (refine W.seq ?_)
          refine W.cond2 ?_
          simp only [ev, Tr.get_set, Nat.reduceEqDiff, reduceIte, condW_bool, decide_eq_true_eq, decide_eq_false_iff_not]
          refine ⟨fun hc => ?_, fun hc => ?_⟩
          · have hch : ch = 35 := UInt8.toNat_inj.1 hc
            have hlw : lineW (wordsL L[i]) = [] := by rw [hws, hch]; rfl
            rw [hlw] at hfold
            repeat (refine W.seq ?_)
            refine W.exit ?_
            simp only [thenW_exit, outB_exit, thenW_normal, inv_exit, succ0, reduceIte]
            repeat (refine W.seq ?_)
            refine W.reg0 ?_
            simp only [opsA, oneA, wantedA, opnds, evs, ev, Tr.get_set, Nat.reduceEqDiff, g22, reduceIte, ite_self, plain, opA, cls, pureA, abin2, abin, decide_true, inc_nat (show i + 1 ≤ 9223372036854775807 by omega), putT, blt_iff, Nat.reduceLT, regW_some, inv_normal]
            refine ⟨L.length - (i + 1), by omega, i + 1, b, c, .slice pv out.length sv, out, rfl, by omega, ?_⟩
            simp only [g2, g6, g7, g8, g20, g21]
            exact ⟨trivial, hgr3, hnx3, hc03, hc13, hrow3, trivial, trivial, trivial, trivial, trivial, trivial, trivial, ⟨cs, hcs3, hcc3⟩, hout, hb0, hfold⟩
          · have hch : ch ≠ 35 := fun e => hc (by rw [e]; rfl)
            have hlw : lineW (wordsL L[i]) = (ch :: yr) :: ws := by
              rw [hws]
              unfold lineW
              split
              · rename_i h1; simp only [List.cons.injEq] at h1; exact absurd h1.1.1 hch
              · rfl
            rw [hlw] at hfold
            dsimp only at hfold
            generalize ch :: yr = w at hvw3 hvt hvrd hwl2 hfold
            clear hlw hch hc hws hvw hy
            repeat (refine W.seq ?_)
            refine W.skip ?_
            simp only [thenW_normal]
            repeat (refine W.seq ?_)
            refine W.reg0 ?_
            simp only [opsA, oneA, wantedA, opnds, evs, ev, plain, opA, cls, pureA, putT, blt_iff, Nat.reduceLT, decide_true, regW_some, thenW_normal]
            cases b with
            | false =>
              obtain ⟨rv, h4, e4, hg4, rfl⟩ := x_rsystem px w ws _ h3 (by omega) hwl2 hvw3
              have hgr4 := hgr3.trans hg4
              have hc04 := (hg4.get h.next (by omega)).trans hc03
              have hc14 := (hg4.get (h.next + 1) (by omega)).trans hc13
              have hrow4 := hrow3.grows hg4
              have hnx4 : h.next + 2 ≤ h4.next := by have := hg4.next; omega
              have hcs4 := hcs3.grows hg4
              have hcc4 := hcc3.keepN (KeepN.of_grows hg4)
              have hc00 := hb0 rfl
              subst hc00
              simp only [Cfg.cells, Cfg.zero] at hc04 hc14
              repeat (refine W.seq ?_)
              refine W.reg0 ?_
              simp only [opsA, oneA, wantedA, opnds, evs, ev, Tr.get_set, Nat.reduceEqDiff, g8, reduceIte, ite_self, opA, cls, pureA, putT, blt_iff, Nat.reduceLT, decide_true, regW_some, thenW_normal]
              repeat (refine W.seq ?_)
              refine W.cond2 ?_
              simp only [ev, Tr.get_set, Nat.reduceEqDiff, reduceIte, condW_bool]
              refine ⟨fun _ => ?_, fun hc => (by simp at hc)⟩
              repeat (refine W.seq ?_)
              refine W.reg0 ?_
              simp only [opsA, oneA, wantedA, opnds, evs, ev, Tr.get_set, Nat.reduceEqDiff, reduceIte, ite_self, opA, cls, pureA, putT, blt_iff, Nat.reduceLT, decide_true, List.nil_append, List.append_nil, e4, Cfg.val, Cfg.cells, List.getElem?_cons_zero, List.getElem?_cons_succ, g6, effA, size30, cellsN_agg, List.size_toArray, List.length_cons, List.length_nil, Nat.zero_add, Nat.reduceAdd, beq_iff, wr, hc14, cellsL_agg, allc_cons, cellv, allc_nil, Bool.and_self, splice, undef, regW_some, thenW_normal]
              repeat (refine W.seq ?_)
              refine W.reg0 ?_
              simp only [opsA, oneA, wantedA, opnds, evs, ev, plain, opA, cls, pureA, putT, blt_iff, Nat.reduceLT, decide_true, regW_some, thenW_normal]
              have hC : Cfg.cells (sysS (w :: ws)).1 = [.int .i64 (Int.ofNat (sysS (w :: ws)).1.cores), .int .i64 (Int.ofNat (sysS (w :: ws)).1.tasks), .int .u64 (Int.ofNat (sysS (w :: ws)).1.tick), .int .u64 (Int.ofNat (sysS (w :: ws)).1.slice), .int .u64 (Int.ofNat (sysS (w :: ws)).1.origin)] := rfl
              rw [← hC]
              have hgr5 : Grows h (h4.set (h.next + 1) (.cells (Cfg.cells (sysS (w :: ws)).1) 30)) := hgr4.set (show h.next ≤ h.next + 1 by omega) _
              have hnx5 : h.next + 2 ≤ (h4.set (h.next + 1) (.cells (Cfg.cells (sysS (w :: ws)).1) 30)).next := hnx4
              have hc05 : (h4.set (h.next + 1) (.cells (Cfg.cells (sysS (w :: ws)).1) 30)).get h.next = some (.cells Cfg.zero.cells 30) := by rw [H.get_set, if_neg hne0]; exact hc04
              have hc15 : (h4.set (h.next + 1) (.cells (Cfg.cells (sysS (w :: ws)).1) 30)).get (h.next + 1) = some (.cells (Cfg.cells (sysS (w :: ws)).1) 30) := by rw [H.get_set, if_pos rfl]
              have hrow5 := hrow4.set_other hc14 (by decide) (.cells (Cfg.cells (sysS (w :: ws)).1) 30)
              have hcs5 := hcs4.set_other hc14 (by decide) (.cells (Cfg.cells (sysS (w :: ws)).1) 30)
              have hcc5 := hcc4.keepN (KeepN.set_other hc14 (by decide) (by decide) (.cells (Cfg.cells (sysS (w :: ws)).1) 30))
              generalize h4.set (h.next + 1) (.cells (Cfg.cells (sysS (w :: ws)).1) 30) = h5 at hgr5 hnx5 hc05 hc15 hrow5 hcs5 hcc5 ⊢
              repeat (refine W.seq ?_)
              refine W.reg0 ?_
              simp only [opsA, oneA, wantedA, opnds, evs, ev, Tr.get_set, Nat.reduceEqDiff, reduceIte, opA, cls, pureA, putT, blt_iff, Nat.reduceLT, decide_true, plain, abin2, abin, dne, regW_some, thenW_normal]
              repeat (refine W.seq ?_)
              refine W.cond2 ?_
              simp only [ev, Tr.get_set, Nat.reduceEqDiff, reduceIte, condW_bool, decide_eq_true_eq, decide_eq_false_iff_not]
              refine ⟨fun hbad => ?_, fun hgood => ?_⟩
              · rw [if_neg hbad] at hfold
                rw [hfold]
                simp only [Cfg.cells, Cfg.zero] at hc05
                repeat (refine W.seq ?_)
                refine W.reg0 ?_
                simp only [opsA, oneA, wantedA, opnds, List.map_nil, evs, opA, cls, pureA, zero30, litI, und30, plain, List.all_cons, List.all_nil, Bool.and_self, cellsL_agg, List.zip_nil_left, fillA, putT, blt_iff, Nat.reduceLT, decide_true, ev, Tr.get_set, Nat.reduceEqDiff, reduceIte, abin2, abin, inc_nat (show i + 1 ≤ 9223372036854775807 by omega), ite_self, g2, effA, size30, cellsN_agg, List.size_toArray, List.length_cons, List.length_nil, Nat.zero_add, Nat.reduceAdd, beq_iff, wr, hc05, cellv, splice, undef, regW_some, thenW_normal]
                repeat (refine W.seq ?_)
                refine W.ret ?_
                simp only [outB_ret, thenW_ret, inv_ret, outW, resultA, resA, Tr.get_set, Nat.reduceEqDiff, g2, reduceIte, loadA, agg30, loadC, size30, rd, H.get_set, seg, ofCells]
                exact ⟨trivial, _, rfl, (hgr5).set (Nat.le_refl _) _, _, rfl, [], NewRow.nil _ _ _ _, .nil⟩
              · have hgood : (sysS (w :: ws)).2 = 0 := Classical.not_not.1 hgood
                rw [if_pos hgood] at hfold
                repeat (refine W.seq ?_)
                refine W.skip ?_
                simp only [outB_normal, thenW_normal]
                repeat (refine W.seq ?_)
                refine W.reg0 ?_
                simp only [opsA, oneA, wantedA, opnds, evs, ev, Tr.get_set, Nat.reduceEqDiff, g22, reduceIte, ite_self, plain, opA, cls, pureA, abin2, abin, decide_true, inc_nat (show i + 1 ≤ 9223372036854775807 by omega), putT, blt_iff, Nat.reduceLT, regW_some, inv_normal]
                refine ⟨L.length - (i + 1), by omega, i + 1, true, (sysS (w :: ws)).1, .slice pv out.length sv, out, rfl, by omega, ?_⟩
                simp only [g2, g6, g7, g20, g21]
                exact ⟨trivial, hgr5, hnx5, hc05, hc15, hrow5, trivial, trivial, trivial, trivial, trivial, trivial, trivial, ⟨cs, hcs5, hcc5⟩, hout, fun hc => (by simp at hc), hfold⟩
            | true =>
              repeat (refine W.seq ?_)
              refine W.reg0 ?_
              simp only [opsA, oneA, wantedA, opnds, evs, ev, Tr.get_set, Nat.reduceEqDiff, g8, ite_self, reduceIte, opA, cls, pureA, putT, blt_iff, Nat.reduceLT, decide_true, regW_some, thenW_normal]
              repeat (refine W.seq ?_)
              refine W.cond2 ?_
              simp only [ev, Tr.get_set, Nat.reduceEqDiff, reduceIte, condW_bool]
              refine ⟨fun hc => (by simp at hc), fun _ => ?_⟩
              repeat (refine W.seq ?_)
              refine W.reg0 ?_
              simp only [opsA, oneA, wantedA, opnds, evs, ev, Tr.get_set, Nat.reduceEqDiff, g7, reduceIte, opA, cls, pureA, putT, blt_iff, Nat.reduceLT, decide_true, und31, castI, goInt_nat, plain, abin2, abin, deq, regW_some, thenW_normal]
              repeat (refine W.seq ?_)
              refine W.cond2 ?_
              simp only [ev, Tr.get_set, Nat.reduceEqDiff, reduceIte, condW_bool, decide_eq_true_eq, decide_eq_false_iff_not]
              refine ⟨fun hmany => ?_, fun hfew => ?_⟩
              · rw [if_pos (show 1000 ≤ out.length by omega)] at hfold
                rw [hfold]
                repeat (refine W.seq ?_)
                refine W.reg0 ?_
                simp only [opsA, oneA, wantedA, opnds, evs, ev, plain, opA, cls, pureA, putT, blt_iff, Nat.reduceLT, decide_true, regW_some, thenW_normal]
                repeat (refine W.seq ?_)
                refine W.reg0 ?_
                simp only [opsA, oneA, wantedA, opnds, evs, ev, Tr.get_set, Nat.reduceEqDiff, reduceIte, opA, cls, pureA, putT, blt_iff, Nat.reduceLT, decide_true, plain, abin2, abin, dne, regW_some, thenW_normal]
                repeat (refine W.seq ?_)
                refine W.cond2 ?_
                simp only [ev, Tr.get_set, Nat.reduceEqDiff, reduceIte, condW_bool, decide_eq_true_eq, decide_eq_false_iff_not]
                refine ⟨fun _ => ?_, fun hc => (by simp at hc)⟩
                simp only [Cfg.cells, Cfg.zero] at hc03
                repeat (refine W.seq ?_)
                refine W.reg0 ?_
                simp only [opsA, oneA, wantedA, opnds, List.map_nil, evs, opA, cls, pureA, zero30, litI, und30, plain, List.all_cons, List.all_nil, Bool.and_self, cellsL_agg, List.zip_nil_left, fillA, putT, blt_iff, Nat.reduceLT, decide_true, ev, Tr.get_set, Nat.reduceEqDiff, reduceIte, abin2, abin, inc_nat (show i + 1 ≤ 9223372036854775807 by omega), ite_self, g2, effA, size30, cellsN_agg, List.size_toArray, List.length_cons, List.length_nil, Nat.zero_add, Nat.reduceAdd, beq_iff, wr, hc03, cellv, splice, undef, regW_some, thenW_normal]
                repeat (refine W.seq ?_)
                refine W.ret ?_
                simp only [outB_ret, thenW_ret, inv_ret, outW, resultA, resA, Tr.get_set, Nat.reduceEqDiff, g2, reduceIte, loadA, agg30, loadC, size30, rd, H.get_set, seg, ofCells]
                exact ⟨trivial, _, rfl, (hgr3).set (Nat.le_refl _) _, _, rfl, [], NewRow.nil _ _ _ _, .nil⟩
              · rw [if_neg (show ¬ 1000 ≤ out.length by omega)] at hfold
                obtain ⟨rv, h5, e5, hg5, ccs, rfl, hcmd⟩ := x_rcommand px (i + 1) w ws _ h3 (by omega) hwl2 hvw3
                obtain ⟨vN, vS, rfl, hN, hS2⟩ := hcmd
                obtain ⟨pN, sN, rfl⟩ := hN.form
                obtain ⟨pS, sS, rfl⟩ := hS2.form
                repeat (refine W.seq ?_)
                refine W.reg0 ?_
                simp only [opsA, oneA, wantedA, opnds, evs, ev, Tr.get_set, Nat.reduceEqDiff, reduceIte, opA, cls, pureA, putT, blt_iff, Nat.reduceLT, decide_true, plain, abin2, abin, inc_nat (show i + 1 ≤ 9223372036854775807 by omega), ite_self, List.nil_append, List.append_nil, e5, List.getElem?_cons_zero, List.getElem?_cons_succ, newA, btX, beq_iff, decide_false, zero61, litI, bs_nil, List.all_cons, List.all_nil, Bool.and_self, cellsL_agg, mk, effA, size61, cellsN_agg, List.size_toArray, List.length_cons, List.length_nil, Nat.zero_add, Nat.reduceAdd, wr, H.get_new, cellv, splice, undef, regW_some, thenW_normal]
                have hg56 : Grows h5 ((h5.new (.cells [Value.int .i64 (Int.ofNat 0), .int .u8 (Int.ofNat 0), .string (bsOf []), .string (bsOf []), .slice none 0 0, .slice none 0 0] 61)).set h5.next (.cells [.int .i64 (Int.ofNat (cmdS (i + 1) (w :: ws)).1.line), .int .u8 (Int.ofNat (cmdS (i + 1) (w :: ws)).1.op), .string (bsOf (cmdS (i + 1) (w :: ws)).1.label), .string (bsOf (cmdS (i + 1) (w :: ws)).1.on), .slice pN (u64C (cmdS (i + 1) (w :: ws)).1.n).length sN, .slice pS (u8C (cmdS (i + 1) (w :: ws)).1.st).length sS] 61)) := ((Grows.refl h5).new _).set (Nat.le_refl _) _
                have hx6 : ((h5.new (.cells [Value.int .i64 (Int.ofNat 0), .int .u8 (Int.ofNat 0), .string (bsOf []), .string (bsOf []), .slice none 0 0, .slice none 0 0] 61)).set h5.next (.cells [.int .i64 (Int.ofNat (cmdS (i + 1) (w :: ws)).1.line), .int .u8 (Int.ofNat (cmdS (i + 1) (w :: ws)).1.op), .string (bsOf (cmdS (i + 1) (w :: ws)).1.label), .string (bsOf (cmdS (i + 1) (w :: ws)).1.on), .slice pN (u64C (cmdS (i + 1) (w :: ws)).1.n).length sN, .slice pS (u8C (cmdS (i + 1) (w :: ws)).1.st).length sS] 61)).get h5.next = some (.cells [.int .i64 (Int.ofNat (cmdS (i + 1) (w :: ws)).1.line), .int .u8 (Int.ofNat (cmdS (i + 1) (w :: ws)).1.op), .string (bsOf (cmdS (i + 1) (w :: ws)).1.label), .string (bsOf (cmdS (i + 1) (w :: ws)).1.on), .slice pN (u64C (cmdS (i + 1) (w :: ws)).1.n).length sN, .slice pS (u8C (cmdS (i + 1) (w :: ws)).1.st).length sS] 61) := by rw [H.get_set, if_pos rfl]
                have hcmd6 : CmdAt h.next ((h5.new (.cells [Value.int .i64 (Int.ofNat 0), .int .u8 (Int.ofNat 0), .string (bsOf []), .string (bsOf []), .slice none 0 0, .slice none 0 0] 61)).set h5.next (.cells [.int .i64 (Int.ofNat (cmdS (i + 1) (w :: ws)).1.line), .int .u8 (Int.ofNat (cmdS (i + 1) (w :: ws)).1.op), .string (bsOf (cmdS (i + 1) (w :: ws)).1.label), .string (bsOf (cmdS (i + 1) (w :: ws)).1.on), .slice pN (u64C (cmdS (i + 1) (w :: ws)).1.n).length sN, .slice pS (u8C (cmdS (i + 1) (w :: ws)).1.st).length sS] 61)) _ (cmdS (i + 1) (w :: ws)).1 := ⟨_, _, rfl, (hN.weaken (by omega)).grows hg56, (hS2.weaken (by omega)).grows hg56⟩
                generalize (h5.new (.cells [Value.int .i64 (Int.ofNat 0), .int .u8 (Int.ofNat 0), .string (bsOf []), .string (bsOf []), .slice none 0 0, .slice none 0 0] 61)).set h5.next (.cells [.int .i64 (Int.ofNat (cmdS (i + 1) (w :: ws)).1.line), .int .u8 (Int.ofNat (cmdS (i + 1) (w :: ws)).1.op), .string (bsOf (cmdS (i + 1) (w :: ws)).1.label), .string (bsOf (cmdS (i + 1) (w :: ws)).1.on), .slice pN (u64C (cmdS (i + 1) (w :: ws)).1.n).length sN, .slice pS (u8C (cmdS (i + 1) (w :: ws)).1.st).length sS] 61) = h6 at hg56 hx6 hcmd6 ⊢
                have hg36 := hg5.trans hg56
                have hcs6 := hcs3.grows hg36
                have hcc6 := hcc3.keepN (KeepN.of_grows hg36)
                have hrow6 := hrow3.grows hg36
                have hgr6 := hgr3.trans hg36
                have hc06 := (hg36.get h.next (by omega)).trans hc03
                have hc16 := (hg36.get (h.next + 1) (by omega)).trans hc13
                have hnx6 : h.next + 2 ≤ h6.next := by have := hg36.next; omega
                obtain ⟨v7, h7, e7, hcs7, hle7, hlow7, hoth7⟩ := app_elem (sl31 X) hcs6 (by omega) (new := [.int .i64 (Int.ofNat (cmdS (i + 1) (w :: ws)).1.line), .int .u8 (Int.ofNat (cmdS (i + 1) (w :: ws)).1.op), .string (bsOf (cmdS (i + 1) (w :: ws)).1.label), .string (bsOf (cmdS (i + 1) (w :: ws)).1.on), .slice pN (u64C (cmdS (i + 1) (w :: ws)).1.n).length sN, .slice pS (u8C (cmdS (i + 1) (w :: ws)).1.st).length sS]) rfl rfl (by omega)
                have hk7 := KeepN.app hle7 hoth7 (by decide) (by decide)
                have hc07 := (hoth7 h.next (by omega) (by rw [hc06]; intro cs hc; simp at hc)).trans hc06
                have hc17 := (hoth7 (h.next + 1) (by omega) (by rw [hc16]; intro cs hc; simp at hc)).trans hc16
                have hgr7 : Grows h h7 := ⟨by have := hgr6.next; omega, fun o ho => (hlow7 o ho).trans (hgr6.get o ho)⟩
                have hrow7 := hrow6.keep hle7 fun o cs' ho e => hoth7 o ho (by rw [e]; intro cs hc; simp at hc)
                have hcc7 := hcc6.keepN hk7
                have hcmd7 := hcmd6.keepN hk7
                have hnx7 : h.next + 2 ≤ h7.next := by omega
                obtain ⟨p7, s7, rfl⟩ := hcs7.form
                repeat (refine W.seq ?_)
                refine W.reg0 ?_
                simp only [opsA, oneA, wantedA, opnds, evs, ev, Tr.get_set, Nat.reduceEqDiff, g7, reduceIte, ite_self, opA, cls, pureA, putT, blt_iff, Nat.reduceLT, decide_true, loadA, agg61, loadC, size61, rd, hx6, seg, ofCells, List.map_cons, List.map_nil, newA, und31, zero61, litI, plain, List.all_cons, List.all_nil, Bool.and_self, cellsN_agg, List.size_toArray, List.length_cons, List.length_nil, Nat.zero_add, Nat.reduceAdd, beq_iff, Nat.reduceMul, ble_iff, Nat.reduceLeDiff, repl, cellsL_agg, List.append_nil, List.zip_cons_cons, List.zip_nil_left, fillA, Nat.zero_mul, splice, mk, effA, e7, regW_some, thenW_normal]
                repeat (refine W.seq ?_)
                refine W.reg0 ?_
                simp only [opsA, oneA, wantedA, opnds, evs, ev, Tr.get_set, Nat.reduceEqDiff, reduceIte, opA, cls, pureA, putT, blt_iff, Nat.reduceLT, decide_true, regW_some, thenW_normal]
                repeat (refine W.seq ?_)
                refine W.reg0 ?_
                simp only [opsA, oneA, wantedA, opnds, evs, ev, Tr.get_set, Nat.reduceEqDiff, reduceIte, opA, cls, pureA, putT, blt_iff, Nat.reduceLT, decide_true, plain, abin2, abin, dne, regW_some, thenW_normal]
                repeat (refine W.seq ?_)
                refine W.cond2 ?_
                simp only [ev, Tr.get_set, Nat.reduceEqDiff, reduceIte, condW_bool, decide_eq_true_eq, decide_eq_false_iff_not]
                refine ⟨fun hbad => ?_, fun hgood => ?_⟩
                · rw [if_neg hbad] at hfold
                  rw [hfold]
                  simp only [Cfg.cells, Cfg.zero] at hc07
                  repeat (refine W.seq ?_)
                  refine W.reg0 ?_
                  simp only [opsA, oneA, wantedA, opnds, List.map_nil, evs, opA, cls, pureA, zero30, litI, und30, plain, List.all_cons, List.all_nil, Bool.and_self, cellsL_agg, List.zip_nil_left, fillA, putT, blt_iff, Nat.reduceLT, decide_true, ev, Tr.get_set, Nat.reduceEqDiff, reduceIte, ite_self, abin2, abin, inc_nat (show i + 1 ≤ 9223372036854775807 by omega), g2, effA, size30, cellsN_agg, List.size_toArray, List.length_cons, List.length_nil, Nat.zero_add, Nat.reduceAdd, beq_iff, wr, hc07, cellv, splice, undef, regW_some, thenW_normal]
                  repeat (refine W.seq ?_)
                  refine W.ret ?_
                  simp only [outB_ret, thenW_ret, inv_ret, outW, resultA, resA, Tr.get_set, Nat.reduceEqDiff, g2, reduceIte, loadA, agg30, loadC, size30, rd, H.get_set, seg, ofCells]
                  exact ⟨trivial, _, rfl, (hgr7).set (Nat.le_refl _) _, _, rfl, [], NewRow.nil _ _ _ _, .nil⟩
                · have hgood : (cmdS (i + 1) (w :: ws)).2 = 0 := Classical.not_not.1 hgood
                  rw [if_pos hgood] at hfold
                  repeat (refine W.seq ?_)
                  refine W.skip ?_
                  simp only [outB_normal, thenW_normal]
                  repeat (refine W.seq ?_)
                  refine W.reg0 ?_
                  simp only [opsA, oneA, wantedA, opnds, evs, ev, Tr.get_set, Nat.reduceEqDiff, g22, reduceIte, ite_self, plain, opA, cls, pureA, abin2, abin, decide_true, inc_nat (show i + 1 ≤ 9223372036854775807 by omega), putT, blt_iff, Nat.reduceLT, regW_some, inv_normal]
                  refine ⟨L.length - (i + 1), by omega, i + 1, true, c, .slice p7 (out.length + 1) s7, out ++ [(cmdS (i + 1) (w :: ws)).1], rfl, by omega, ?_⟩
                  simp only [g2, g6, g8, g20, g21]
                  exact ⟨trivial, hgr7, hnx7, hc07, hc17, hrow7, trivial, trivial, trivial, trivial, trivial, trivial, trivial, ⟨_, by rw [List.length_append]; exact hcs7, hcc7.snoc hcmd7⟩, by rw [List.length_append]; simp only [List.length_cons, List.length_nil]; omega, fun hc => (by simp at hc), hfold⟩
      · repeat (refine W.seq ?_)
        refine W.exit ?_
        simp only [thenW_exit, inv_exit, outB_exit, thenW_normal, reduceIte]
        rw [List.drop_of_length_le (by omega)] at hfold
        cases b with
        | false =>
          rw [hfold, loopS]
          simp only [Cfg.cells, Cfg.zero] at hc0
          repeat (refine W.seq ?_)
          refine W.reg0 ?_
          simp only [opsA, oneA, wantedA, opnds, evs, ev, Tr.get_set, Nat.reduceEqDiff, g8, reduceIte, opA, cls, pureA, putT, blt_iff, Nat.reduceLT, decide_true, regW_some, thenW_normal]
          repeat (refine W.seq ?_)
          refine W.cond2 ?_
          simp only [ev, Tr.get_set, Nat.reduceEqDiff, reduceIte, condW_bool]
          refine ⟨fun _ => ?_, fun hc => (by simp at hc)⟩
          repeat (refine W.seq ?_)
          refine W.reg0 ?_
          simp only [opsA, oneA, wantedA, opnds, List.map_nil, evs, opA, cls, pureA, zero30, litI, und30, plain, List.all_cons, List.all_nil, Bool.and_self, cellsL_agg, List.zip_nil_left, fillA, putT, blt_iff, Nat.reduceLT, decide_true, ev, Tr.get_set, Nat.reduceEqDiff, g2, reduceIte, effA, size30, cellsN_agg, List.size_toArray, List.length_cons, List.length_nil, Nat.zero_add, Nat.reduceAdd, beq_iff, wr, hc0, cellv, splice, undef, regW_some, thenW_normal]
          repeat (refine W.seq ?_)
          refine W.ret ?_
          simp only [thenW_ret, outW, resultA, resA, Tr.get_set, Nat.reduceEqDiff, g2, reduceIte, loadA, agg30, loadC, size30, rd, H.get_set, seg, ofCells]
          exact ⟨trivial, _, rfl, hgr.set (Nat.le_refl _) _, _, rfl, [], NewRow.nil _ _ _ _, .nil⟩
        | true =>
          rw [hfold, loopS]
          simp only [Cfg.cells, Cfg.zero] at hc0 hc1
          repeat (refine W.seq ?_)
          refine W.reg0 ?_
          simp only [opsA, oneA, wantedA, opnds, evs, ev, Tr.get_set, Nat.reduceEqDiff, g8, reduceIte, opA, cls, pureA, putT, blt_iff, Nat.reduceLT, decide_true, regW_some, thenW_normal]
          repeat (refine W.seq ?_)
          refine W.cond2 ?_
          simp only [ev, Tr.get_set, Nat.reduceEqDiff, reduceIte, condW_bool]
          refine ⟨fun hc => (by simp at hc), fun _ => ?_⟩
          repeat (refine W.seq ?_)
          refine W.skip ?_
          simp only [thenW_normal]
          repeat (refine W.seq ?_)
          refine W.reg0 ?_
          simp only [opsA, oneA, wantedA, opnds, evs, ev, Tr.get_set, Nat.reduceEqDiff, g6, reduceIte, opA, cls, loadA, agg30, loadC, size30, rd, hc1, seg, ofCells, putT, blt_iff, Nat.reduceLT, decide_true, g7, pureA, g2, effA, cellsN_agg, List.size_toArray, List.length_cons, List.length_nil, Nat.zero_add, Nat.reduceAdd, beq_iff, wr, hc0, cellsL_agg, allc_cons, cellv, allc_nil, Bool.and_self, splice, undef, plain, regW_some, thenW_normal]
          repeat (refine W.seq ?_)
          refine W.ret ?_
          simp only [outW, resultA, resA, Tr.get_set, Nat.reduceEqDiff, g2, reduceIte, loadA, agg30, loadC, size30, rd, H.get_set, seg, ofCells, ite_self]
          exact ⟨trivial, _, rfl, hgr.set (Nat.le_refl _) _, _, rfl, cs, hcs.set_other hc0 (by decide) _, hcc.keepN (KeepN.set_other hc0 (by decide) (by decide) _)⟩
    · simp only [Tr.get_set, Nat.reduceEqDiff, succ0, Tr.get_nil, reduceIte]
      exact ⟨0, false, Cfg.zero, _, [], rfl, Nat.zero_le _, trivial, hg12, hn2, ha2, hb2, hvl, (by first | trivial | rfl), (by first | trivial | rfl), (by first | trivial | rfl), (by first | trivial | rfl), (by first | trivial | rfl), (by first | trivial | rfl), (by first | trivial | rfl), ⟨[], NewRow.nil _ _ _ _, .nil⟩, Nat.zero_le _, fun _ => rfl, rfl⟩
end Go.Proofs.YtkoccbggjfbgaaaGreatDoor
end
