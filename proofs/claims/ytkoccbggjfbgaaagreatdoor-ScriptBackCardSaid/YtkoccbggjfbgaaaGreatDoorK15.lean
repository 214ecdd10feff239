/-
  The script seat: the program's line of a command, walked.
-/
import Derived.Test.YtkoccbggjfbgaaaGreatDoorK10
import Derived.Test.YtkoccbggjfbgaaaGreatDoorK14
set_option linter.all false
open Go.Eng
set_option maxRecDepth 100000
set_option linter.unusedSimpArgs false
set_option linter.unusedVariables false
namespace Go.Proofs.YtkoccbggjfbgaaaGreatDoor
variable {X : Tr Nat}

theorem starC {op : Nat} {r : List UInt8} {n : Nat} (h : decide (r ≠ [42]) = decide (op ≠ 9)) : (op = 9 ∧ r = [42]) ∨ ((¬ op = 9 ∧ ¬ r = [42]) ∧ ¬ 0 < n) ∨ ((¬ op = 9 ∧ ¬ r = [42]) ∧ 0 < n) := by
  by_cases h9 : op = 9
  · left
    refine ⟨h9, ?_⟩
    rw [decide_eq_false (show ¬ op ≠ 9 from fun hne => hne h9)] at h
    exact Classical.not_not.1 (of_decide_eq_false h)
  · right
    rw [decide_eq_true (show op ≠ 9 from h9)] at h
    have hr : ¬ r = [42] := of_decide_eq_true h
    by_cases hn : 0 < n
    · exact .inr ⟨⟨h9, hr⟩, hn⟩
    · exact .inl ⟨⟨h9, hr⟩, hn⟩
theorem wordsP_len {c : Cmd} (hB : CmdB c) (hop : c.op < 12) (hst : stOK c = true) : ∀ w ∈ wordsP c, w.length ≤ 16777216 := by
  intro w hw
  unfold wordsP headW at hw
  simp only [List.mem_append, List.mem_cons, List.mem_map] at hw
  have hfw := form_w c.op hop
  rcases hw with (((rfl | hw) | hw) | ⟨x, hx, rfl⟩) | ⟨x, hx, rfl⟩
  · omega
  · split at hw
    · simp only [List.mem_cons, List.not_mem_nil, or_false] at hw
      subst hw
      have := hB.label; omega
    · simp at hw
  · split at hw
    · simp only [List.mem_cons, List.not_mem_nil, or_false] at hw
      subst hw
      have := hB.on; omega
    · simp at hw
  · have h1 := List.all_eq_true.1 hst x hx
    have h2 : 1 ≤ x ∧ x ≤ 3 := by simpa using h1
    have := st_w (x - 1) (by omega)
    unfold stN
    omega
  · have := decL_len x (hB.n x hx); omega

set_option maxHeartbeats 8000000 in
theorem x_line (px : PX X) (pp : PP X) (c : Cmd) (cs : List Value) (h : H) (hB : CmdB c) (ht : HT h) (hc : CmdV h cs c) :
    ∃ r h', callS (EX X) 37 [.agg cs.toArray] h = some (r, h') ∧ (Grows h h' ∧ ∃ v, r = .tuple #[v, .bool (lineOK c)] ∧ (lineOK c = true → NewStrs 9 h.next h' v (wordsP c))) := by
  refine call_of pp.n37 (gf37 X) rfl (rs := [.tmp 2, .tmp 3]) rfl (m := 120) rfl ?_
  obtain ⟨z, vN, vS, rfl, hN, hS⟩ := hc
  obtain ⟨pN, sN, eN⟩ := hN.len
  obtain ⟨pS, sS, eS⟩ := hS.len
  rw [u64C_length] at eN
  rw [u8C_length] at eS
  subst eN; subst eS
  have hop := hB.op
  repeat (refine W.seq ?_)
  refine W.reg0 ?_
  simp only [go_sem, Nat.reduceSub, Nat.reduceAdd, reduceIte, Nat.reduceLT]
  have hg1 : Grows h (h.new (.cells [.int .i64 z, .int .u8 (Int.ofNat c.op), .string (bsOf c.label), .string (bsOf c.on), .slice pN c.n.length sN, .slice pS c.st.length sS] 50)) := (Grows.refl h).new _
  have ha1 : (h.new (.cells [.int .i64 z, .int .u8 (Int.ofNat c.op), .string (bsOf c.label), .string (bsOf c.on), .slice pN c.n.length sN, .slice pS c.st.length sS] 50)).get h.next = some (.cells [.int .i64 z, .int .u8 (Int.ofNat c.op), .string (bsOf c.label), .string (bsOf c.on), .slice pN c.n.length sN, .slice pS c.st.length sS] 50) := H.get_new' _ _
  have hn1 : (h.new (.cells [.int .i64 z, .int .u8 (Int.ofNat c.op), .string (bsOf c.label), .string (bsOf c.on), .slice pN c.n.length sN, .slice pS c.st.length sS] 50)).next = h.next + 1 := rfl
  generalize h.new (.cells [.int .i64 z, .int .u8 (Int.ofNat c.op), .string (bsOf c.label), .string (bsOf c.on), .slice pN c.n.length sN, .slice pS c.st.length sS] 50) = h1 at hg1 ha1 hn1 ⊢
  have hF1 := x_forms px h1
  have hg2 : Grows h1 (h1.new (.cells formC 96)) := (Grows.refl h1).new _
  have hn2 : (h1.new (.cells formC 96)).next = h1.next + 1 := rfl
  generalize h1.new (.cells formC 96) = h2 at hF1 hg2 hn2
  have ha2 := (hg2.get h.next (by omega)).trans ha1
  have hr1 : rd h1 h.next 1 1 = some [.int .u8 (Int.ofNat c.op)] := rd_get ha1 rfl
  have hr2 : rd h2 h.next 1 1 = some [.int .u8 (Int.ofNat c.op)] := rd_get ha2 rfl
  repeat (refine W.seq ?_)
  refine W.plan (st := [(3, 0, true), (0, 0, false), (1, 1, false), (2, 3, false), (4, 8, false), (5, 31, false)]) (by kernel_rfl) ?_
  simp only [go_sem, goP, hF1, Nat.reduceLT, stableD, Nat.reduceEqDiff, reduceIte, hr2, Nat.reduceAdd, stab_cons, all1_cons, cell1, all1_nil, sameL_refl, hr1, stab_nil, Bool.or_true, loadA, loadC, ofCells, wrapN (show c.op ≤ 9223372036854775807 by omega)]
  repeat (refine W.seq ?_)
  refine W.cond2 ?_
  simp only [go_sem, Nat.reduceEqDiff, reduceIte]
  refine ⟨fun hge => ?_, fun hlt => ?_⟩
  · repeat (refine W.seq ?_)
    refine W.reg0 ?_
    simp only [go_sem, Nat.reduceLT]
    repeat (refine W.seq ?_)
    refine W.ret ?_
    simp only [go_sem, outW, resultA, resA, Nat.reduceEqDiff, reduceIte]
    have hno : lineOK c = false := by unfold lineOK; rw [decide_eq_false (by omega)]; rfl
    rw [hno]
    exact ⟨trivial, _, rfl, hg1.trans hg2, _, rfl, fun hc => (by simp at hc)⟩
  have hop12 : c.op < 12 := by omega
  repeat (refine W.seq ?_)
  refine W.skip ?_
  simp only [go_sem]
  have hF2 := x_forms px h2
  have hg3 : Grows h2 (h2.new (.cells formC 96)) := (Grows.refl h2).new _
  have hn3 : (h2.new (.cells formC 96)).next = h2.next + 1 := rfl
  have hf3 : rd (h2.new (.cells formC 96)) h2.next (c.op * 2) 2 = some [.string (bsOf (formW[c.op]'hop12)), .string (bsOf (formR[c.op]'hop12))] := rd_get (H.get_new' _ _) (form_seg c.op hop12)
  generalize h2.new (.cells formC 96) = h3 at hF2 hg3 hn3 hf3
  have hW : formW[c.op]'hop12 = formW.getD c.op [] := by
    rw [List.getD_eq_getElem?_getD, List.getElem?_eq_getElem (show c.op < formW.length from hop12)]; rfl
  have hR : formR[c.op]'hop12 = formR.getD c.op [] := by
    rw [List.getD_eq_getElem?_getD, List.getElem?_eq_getElem (show c.op < formR.length from hop12)]; rfl
  rw [hW, hR] at hf3
  have ha3 := (hg3.get h.next (by omega)).trans ha2
  have hr3 : rd h3 h.next 1 1 = some [.int .u8 (Int.ofNat c.op)] := rd_get ha3 rfl
  have hg4 : Grows h3 ((h3.new (.cells [.string ⟨#[]⟩, .string ⟨#[]⟩] 96)).set h3.next (.cells [.string (bsOf (formW.getD c.op [])), .string (bsOf (formR.getD c.op []))] 96)) := ((Grows.refl h3).new _).set (Nat.le_refl _) _
  have ha4 : ((h3.new (.cells [.string ⟨#[]⟩, .string ⟨#[]⟩] 96)).set h3.next (.cells [.string (bsOf (formW.getD c.op [])), .string (bsOf (formR.getD c.op []))] 96)).get h3.next = some (.cells [.string (bsOf (formW.getD c.op [])), .string (bsOf (formR.getD c.op []))] 96) := by rw [H.get_set, if_pos rfl]
  have hn4 : ((h3.new (.cells [.string ⟨#[]⟩, .string ⟨#[]⟩] 96)).set h3.next (.cells [.string (bsOf (formW.getD c.op [])), .string (bsOf (formR.getD c.op []))] 96)).next = h3.next + 1 := rfl
  repeat (refine W.seq ?_)
  refine W.plan (st := [(0, 0, true), (1, 0, false), (2, 2, false), (3, 7, false), (4, 15, false), (5, 0, false), (6, 63, true)]) (by kernel_rfl) ?_
  simp only [go_sem, goP, hF2, Nat.reduceLT, stableD, Nat.reduceEqDiff, reduceIte, hr3, Nat.reduceAdd, stab_cons, List.all_cons, cell1, List.all_nil, sameL_refl, hr2, stab_nil, Bool.or_true, loadA, loadC, ofCells, hop12, hf3, effA]
  generalize (h3.new (.cells [.string ⟨#[]⟩, .string ⟨#[]⟩] 96)).set h3.next (.cells [.string (bsOf (formW.getD c.op [])), .string (bsOf (formR.getD c.op []))] 96) = h4 at hg4 ha4 hn4 ⊢
  have hw4 : rd h4 h3.next 0 1 = some [.string (bsOf (formW.getD c.op []))] := rd_get ha4 rfl
  repeat (refine W.seq ?_)
  refine W.reg0 ?_
  simp only [go_sem, Nat.reduceEqDiff, reduceIte, Nat.reduceLT, loadA, loadC, hw4, ofCells, Nat.reduceLeDiff]
  have hg5 : Grows h4 (h4.new (.cells [.string (bsOf (formW.getD c.op []))] 9)) := (Grows.refl h4).new _
  have hv5 : NewStrs 9 h4.next (h4.new (.cells [.string (bsOf (formW.getD c.op []))] 9)) (.slice (some ⟨h4.next, 0, none⟩) 1 1) [formW.getD c.op []] := .inr ⟨h4.next, Nat.le_refl _, Nat.lt_succ_self _, rfl, H.get_new' _ _, rfl⟩
  have ha5 := (hg5.get h3.next (by omega)).trans ha4
  generalize h4.new (.cells [.string (bsOf (formW.getD c.op []))] 9) = h5 at hg5 hv5 ha5 ⊢
  obtain ⟨_, _, eL, e1, e2⟩ := x_contains pp (bsOf (formR.getD c.op [])) 76 h5
  rw [e1, e2, bsOf_list, form_L c.op hop12] at eL
  obtain ⟨_, _, eH, e1, e2⟩ := x_contains pp (bsOf (formR.getD c.op [])) 104 h5
  rw [e1, e2, bsOf_list, form_H c.op hop12] at eH
  have hw5 : rd h5 h3.next 1 1 = some [.string (bsOf (formR.getD c.op []))] := rd_get ha5 rfl
  repeat (refine W.seq ?_)
  refine W.plan (st := [(0, 0, false), (1, 1, false), (2, 3, true), (3, 0, false), (4, 8, false), (5, 31, true), (6, 63, true), (7, 127, true)]) (by kernel_rfl) ?_
  simp only [go_sem, goP, stableD, Nat.reduceEqDiff, reduceIte, Nat.reduceLT, hw5, Nat.reduceAdd, stab_cons, all1_cons, cell1, all1_nil, sameL_refl, stab_nil, Bool.or_true, loadA, loadC, ofCells, eL, eH]
  have ht4 : HT h4 := ht.g (((hg1.trans hg2).trans hg3).trans hg4)
  have hg04 : Grows h h4 := ((hg1.trans hg2).trans hg3).trans hg4
  have ha44 : h4.get h.next = some (.cells [.int .i64 z, .int .u8 (Int.ofNat c.op), .string (bsOf c.label), .string (bsOf c.on), .slice pN c.n.length sN, .slice pS c.st.length sS] 50) := (hg4.get _ (by omega)).trans ha3
  have rc : ∀ {hh : H}, Grows h4 hh → ∀ (i : Nat) (x : Value), ([.int .i64 z, .int .u8 (Int.ofNat c.op), .string (bsOf c.label), .string (bsOf c.on), .slice pN c.n.length sN, .slice pS c.st.length sS] : List Value)[i]? = some x → rd hh h.next i 1 = some [x] := fun {hh} g i x hx => by
    rw [rd_kept g (by omega)]
    unfold rd
    rw [ha44]
    exact seg_one _ _ _ hx
  have rf : ∀ {hh : H}, Grows h4 hh → rd hh h3.next 1 1 = some [.string (bsOf (formR.getD c.op []))] := fun {hh} g => by
    rw [rd_kept g (by omega)]
    exact rd_get ha4 rfl
  have hs1 : (formW.getD c.op []).length ≤ 90000 := form_w c.op hop12
  refine W.cut (fun a hh => ∃ v, a.n = 120 ∧ Grows h4 hh ∧ a.m.get 1 = some (.pointer (some ⟨h.next, 0, none⟩)) ∧ a.m.get 4 = some (.pointer (some ⟨h3.next, 0, none⟩)) ∧ a.m.get 6 = some (.bool (hasL c.op)) ∧ a.m.get 7 = some (.bool (hasH c.op)) ∧ a.m.get 5 = some v ∧
    NewStrs 9 h4.next hh v (formW.getD c.op [] :: (if hasL c.op then [c.label] else []))) ?_ ?_
  · repeat (refine W.seq ?_)
    refine W.reg0 ?_
    simp only [go_sem, Nat.reduceEqDiff, reduceIte, Nat.reduceLT]
    cases hL : hasL c.op with
    | true =>
      repeat (refine W.seq ?_)
      refine W.cond2 ?_
      simp only [go_sem, Nat.reduceEqDiff, reduceIte]
      refine ⟨fun _ => ?_, fun hc => (by simp at hc)⟩
      obtain ⟨v6, h6, e6, hv6, hg6⟩ := app_str (sl52 X) hv5 hg5 c.label (by simp)
      have r2 := rc hg5 2 _ rfl
      repeat (refine W.seq ?_)
      refine W.reg0 ?_
      simp only [go_sem, Nat.reduceEqDiff, reduceIte, Nat.reduceLT, loadA, loadC, r2, ofCells, Nat.reduceLeDiff, effA, e6]
      exact ⟨v6, trivial, hg6, by first | trivial | rfl, by first | trivial | rfl, by first | trivial | rfl, by first | trivial | rfl, by first | trivial | rfl, by simpa using hv6⟩
    | false =>
      repeat (refine W.seq ?_)
      refine W.cond2 ?_
      simp only [go_sem, Nat.reduceEqDiff, reduceIte]
      refine ⟨fun hc => (by simp at hc), fun _ => ?_⟩
      repeat (refine W.seq ?_)
      refine W.skip ?_
      simp only [go_sem, Nat.reduceEqDiff, reduceIte]
      exact ⟨_, trivial, hg5, by first | trivial | rfl, by first | trivial | rfl, by first | trivial | rfl, by first | trivial | rfl, by first | trivial | rfl, by simpa using hv5⟩
  intro a hh ⟨v, hn, hg, g1, g4, g6, g7, g5, hv⟩
  refine W.cut (fun a hh => ∃ v, a.n = 120 ∧ Grows h4 hh ∧ a.m.get 1 = some (.pointer (some ⟨h.next, 0, none⟩)) ∧ a.m.get 4 = some (.pointer (some ⟨h3.next, 0, none⟩)) ∧ a.m.get 6 = some (.bool (hasL c.op)) ∧ a.m.get 7 = some (.bool (hasH c.op)) ∧ a.m.get 5 = some v ∧
    NewStrs 9 h4.next hh v (headW c)) ?_ ?_
  · repeat (refine W.seq ?_)
    refine W.reg0 ?_
    simp only [go_sem, g7, hn, Nat.reduceLT]
    cases hH : hasH c.op with
    | true =>
      repeat (refine W.seq ?_)
      refine W.cond2 ?_
      simp only [go_sem, reduceIte]
      refine ⟨fun _ => ?_, fun hc => (by simp at hc)⟩
      obtain ⟨v6, h6, e6, hv6, hg6⟩ := app_str (sl52 X) hv hg c.on (by split <;> simp)
      have r2 := rc hg 3 _ rfl
      repeat (refine W.seq ?_)
      refine W.reg0 ?_
      simp only [go_sem, Nat.reduceEqDiff, g5, reduceIte, Nat.reduceLT, g1, loadA, loadC, r2, ofCells, Nat.reduceLeDiff, effA, e6]
      refine ⟨v6, trivial, hg6, by first | trivial | exact g1, by first | trivial | exact g4, by first | trivial | exact g6, by first | trivial | rw [g7, hH], by first | trivial | rfl, ?_⟩
      unfold headW
      rw [hH]
      exact hv6
    | false =>
      repeat (refine W.seq ?_)
      refine W.cond2 ?_
      simp only [go_sem, reduceIte]
      refine ⟨fun hc => (by simp at hc), fun _ => ?_⟩
      repeat (refine W.seq ?_)
      refine W.skip ?_
      simp only [go_sem, Nat.reduceEqDiff, reduceIte]
      refine ⟨v, trivial, hg, by first | trivial | exact g1, by first | trivial | exact g4, by first | trivial | exact g6, by first | trivial | rw [g7, hH], by first | trivial | exact g5, ?_⟩
      unfold headW
      rw [hH]
      simpa using hv
  clear hv g1 g4 g5 g6 g7 hn hg v a hh
  intro a hh ⟨v, hn, hg, g1, g4, g6, g7, g5, hv⟩
  have r5 := rc hg 5 _ rfl
  repeat (refine W.seq ?_)
  refine W.reg0 ?_
  simp only [go_sem, g1, hn, Nat.reduceLT, reduceIte, loadA, loadC, r5, ofCells, Nat.reduceEqDiff]
  repeat (refine W.seq ?_)
  refine W.block ?_
  refine W.loop_inv (fun k a hh => ∃ i v, k = c.st.length - i ∧ i ≤ c.st.length ∧ a.n = 120 ∧ Grows h4 hh ∧ a.m.get 1 = some (.pointer (some ⟨h.next, 0, none⟩)) ∧ a.m.get 4 = some (.pointer (some ⟨h3.next, 0, none⟩)) ∧ a.m.get 6 = some (.bool (hasL c.op)) ∧ a.m.get 7 = some (.bool (hasH c.op)) ∧ a.m.get 5 = some v ∧
    a.m.get 44 = some (.slice pS c.st.length sS) ∧ a.m.get 45 = some (.int .i64 (.ofNat c.st.length)) ∧ a.m.get 46 = some (.int .i64 (.ofNat i)) ∧ NewStrs 9 h4.next hh v (headW c ++ (c.st.take i).map stN) ∧ (c.st.take i).all (fun s => decide (1 ≤ s ∧ s ≤ 3)) = true) ?_ c.st.length _ _ ?_
  · clear hv g1 g4 g5 g6 g7 hn hg r5 v a hh
    intro k a hh ⟨i, v, hk, hi, hn, hg, g1, g4, g6, g7, g5, g44, g45, g46, hv, hall⟩
    repeat (refine W.seq ?_)
    refine W.reg0 ?_
    simp only [go_sem, g46, g45, hn, Nat.reduceLT]
    repeat (refine W.seq ?_)
    refine W.cond2 ?_
    simp only [go_sem, reduceIte]
    refine ⟨fun hlt => ?_, fun hge => ?_⟩
    · obtain ⟨rfl, o, off, rfl, hrd⟩ := (hS.grows (hg04.trans hg)).at (u8C_at hlt)
      have hmem : c.st[i] ∈ c.st := List.getElem_mem hlt
      have hs256 := hB.st _ hmem
      have hts : c.st.take (i + 1) = c.st.take i ++ [c.st[i]] := by rw [List.take_add_one, List.getElem?_eq_getElem hlt]; rfl
      have hbad : ¬ (1 ≤ c.st[i] ∧ c.st[i] ≤ 3) → lineOK c = false := fun hnb => by
        have : stOK c = false := by
          unfold stOK
          rw [List.all_eq_false]
          exact ⟨_, hmem, by simpa using hnb⟩
        unfold lineOK
        rw [this]; simp
      generalize c.st[i] = s at hrd hs256 hts hbad
      repeat (refine W.seq ?_)
      refine W.skip ?_
      simp only [go_sem]
      repeat (refine W.seq ?_)
      refine W.block ?_
      repeat (refine W.seq ?_)
      refine W.reg0 ?_
      simp only [go_sem, hlt, Nat.reduceEqDiff, g44, reduceIte, g46, Nat.reduceLT, loadA, loadC, hrd, ofCells]
      by_cases h1 : s < 1
      · repeat (refine W.seq ?_)
        refine W.reg0 ?_
        simp only [go_sem, Nat.reduceEqDiff, reduceIte, Nat.reduceLT, h1]
        repeat (refine W.seq ?_)
        refine W.cond2 ?_
        simp only [go_sem, Nat.reduceEqDiff, reduceIte]
        refine ⟨fun _ => ?_, fun hc => (by simp at hc)⟩
        repeat (refine W.seq ?_)
        refine W.reg0 ?_
        simp only [go_sem, Nat.reduceLT]
        repeat (refine W.seq ?_)
        refine W.ret ?_
        simp only [go_sem, outW, resultA, resA, Nat.reduceEqDiff, reduceIte]
        rw [hbad (by omega)]
        exact ⟨trivial, _, rfl, hg04.trans hg, _, rfl, fun hc => (by simp at hc)⟩
      by_cases h3' : 3 < s
      · repeat (refine W.seq ?_)
        refine W.reg0 ?_
        simp only [go_sem, Nat.reduceEqDiff, reduceIte, Nat.reduceLT, h1, h3']
        repeat (refine W.seq ?_)
        refine W.cond2 ?_
        simp only [go_sem, Nat.reduceEqDiff, reduceIte]
        refine ⟨fun _ => ?_, fun hc => (by simp at hc)⟩
        repeat (refine W.seq ?_)
        refine W.reg0 ?_
        simp only [go_sem, Nat.reduceLT]
        repeat (refine W.seq ?_)
        refine W.ret ?_
        simp only [go_sem, outW, resultA, resA, Nat.reduceEqDiff, reduceIte]
        rw [hbad (by omega)]
        exact ⟨trivial, _, rfl, hg04.trans hg, _, rfl, fun hc => (by simp at hc)⟩
      repeat (refine W.seq ?_)
      refine W.reg0 ?_
      simp only [go_sem, Nat.reduceEqDiff, reduceIte, Nat.reduceLT, h1, h3']
      repeat (refine W.seq ?_)
      refine W.cond2 ?_
      simp only [go_sem, Nat.reduceEqDiff, reduceIte]
      refine ⟨fun hc => (by simp at hc), fun _ => ?_⟩
      repeat (refine W.seq ?_)
      refine W.skip ?_
      simp only [go_sem]
      have hX := x_states px hh
      have hgx : Grows hh (hh.new (.cells (strC stateW) 9)) := (Grows.refl hh).new _
      have hrs : rd (hh.new (.cells (strC stateW) 9)) hh.next (s - 1) 1 = some [.string (bsOf (stN s))] := by
        refine rd_get (H.get_new' _ _) (seg_one _ _ _ ?_)
        have : s - 1 < stateW.length := by show s - 1 < 3; omega
        unfold strC stN
        rw [List.getElem?_map, List.getD_eq_getElem?_getD, List.getElem?_eq_getElem this]; rfl
      generalize hh.new (.cells (strC stateW) 9) = hx at hX hgx hrs
      have hs3 : s - 1 < 3 := by omega
      obtain ⟨v6, h6, e6, hv6, hg6⟩ := app_str (sl52 X) (hv.grows hgx) (hg.trans hgx) (stN s) (by
        have := hB.stl
        have h7 : (headW c).length ≤ 3 := by unfold headW; split <;> split <;> simp
        rw [List.length_append, List.length_map, List.length_take]; omega)
      repeat (refine W.seq ?_)
      refine W.reg0 ?_
      simp only [go_sem, Nat.reduceEqDiff, g5, reduceIte, Nat.reduceLT, hX, sub8 (show 1 ≤ s by omega) hs256, hs3, loadA, loadC, hrs, ofCells, Nat.reduceLeDiff, effA, e6]
      repeat (refine W.seq ?_)
      refine W.reg0 ?_
      simp only [go_sem, Nat.reduceEqDiff, g46, reduceIte, inc_nat (show i + 1 ≤ 9223372036854775807 by have := hB.stl; omega), Nat.reduceLT]
      refine ⟨c.st.length - (i + 1), by omega, i + 1, v6, rfl, by omega, ?_⟩
      simp only [g1, g4, g6, g7, g44, g45]
      refine ⟨trivial, hg6, trivial, trivial, trivial, trivial, trivial, trivial, trivial, trivial, ?_, ?_⟩
      · rw [hts, List.map_append, ← List.append_assoc]; exact hv6
      · rw [hts, List.all_append, hall]; simp; omega
    · have hi' : i = c.st.length := by omega
      subst hi'
      rw [List.take_of_length_le (Nat.le_refl _)] at hv hall
      have r4 := rc hg 4 _ rfl
      have hnl := hB.nl
      have hstl := hB.stl
      have hhl : (headW c).length ≤ 3 := by unfold headW; split <;> split <;> simp
      obtain ⟨vd, hd, ed, hgd, hvd⟩ := x_digits pp c.n (.slice pN c.n.length sN) hh (by omega) hB.n (ht4.g hg) (hN.grows (hg04.trans hg))
      obtain ⟨v9, h9, e9, hv9, hg9⟩ := app_strs (sl52 X) (hv.grows hgd) (hg.trans hgd) hvd (by simp only [List.length_append, List.length_map]; omega)
      have q1 := rf hg9
      have q2 := rc hg9 2 _ rfl
      have q3 := rc hg9 3 _ rfl
      have q4 := rc hg9 4 _ rfl
      have q5 := rc hg9 5 _ rfl
      have ec := x_cnt pp (bsOf (formR.getD c.op [])) 110 h9
      rw [bsOf_list, form_n c.op hop12] at ec
      have hstar := form_star c.op hop12
      repeat (refine W.seq ?_)
      refine W.exit ?_
      simp only [go_sem, reduceIte]
      repeat (refine W.seq ?_)
      refine W.reg0 ?_
      simp only [go_sem, Nat.reduceEqDiff, g5, reduceIte, Nat.reduceLT, g1, loadA, loadC, r4, ofCells, ed, effA, e9]
      have hszl := bsOf_size c.label
      have hszl0 : (bsOf ([] : List UInt8)).size = 0 := rfl
      refine W.cut (fun a hz => a.n = 120 ∧ hz = h9 ∧ a.m.get 5 = some v9 ∧ a.m.get 10 = some (.bool (spareB c))) ?_ ?_
      · rcases (show hasL c.op = true ∨ (hasL c.op = false ∧ c.label = []) ∨ (hasL c.op = false ∧ ¬ c.label = []) by cases hasL c.op <;> by_cases h : c.label = [] <;> simp [h]) with hA | ⟨hA, hA'⟩ | ⟨hA, hA'⟩
        · rw [hA] at g6
          rcases (show hasH c.op = true ∨ (hasH c.op = false ∧ c.on = []) ∨ (hasH c.op = false ∧ ¬ c.on = []) by cases hasH c.op <;> by_cases h : c.on = [] <;> simp [h]) with hH | ⟨hH, hH'⟩ | ⟨hH, hH'⟩
          · rw [hH] at g7
            rcases starC (n := c.st.length) hstar with ⟨hC, hC'⟩ | ⟨⟨hC, hC'⟩, hC2⟩ | ⟨⟨hC, hC'⟩, hC2⟩
            · rw [hC'] at q1 ec
              have hC3 : decide (c.op ≠ 9) = false := decide_eq_false fun h => h hC
              by_cases hD : c.n.length = countL.getD c.op 0
              · have hD2 : decide (c.n.length ≠ countL.getD c.op 0) = false := decide_eq_false fun h => h hD
                by_cases hE : 16 < c.label.length
                · have hE2 : decide (16 < c.label.length) = true := decide_eq_true hE
                  have hsp : spareB c = true := by simp only [spareB, hA, Bool.not_true, Bool.false_and, hH, Bool.or_self, hC3, hD2, hE2, Bool.or_true]
                  repeat (refine W.seq ?_)
                  refine W.plan (st := [(0, 0, false), (1, 1, false), (2, 3, false), (3, 7, false), (4, 15, false), (5, 31, false), (6, 63, false), (7, 127, false), (8, 255, false), (9, 511, false), (10, 1023, false), (11, 2047, false), (12, 4095, false), (13, 8191, false), (14, 16383, false), (15, 32767, false), (16, 65535, false), (17, 131071, false), (18, 262143, false), (19, 524287, false), (20, 1048575, false), (21, 2097151, false), (22, 4194303, false), (23, 8388607, false), (24, 16777215, false), (25, 33554431, false), (26, 67108863, false), (27, 134217727, false), (31, 268435455, false), (32, 2415919103, false), (33, 6710886399, true), (28, 268435455, false), (29, 536870911, false), (30, 1073741823, false), (34, 17179869183, false), (35, 34359738367, false), (36, 68719476735, false), (37, 137438953471, false), (38, 274877906943, false), (39, 549755813887, false), (40, 1099511627775, false), (41, 2199023255551, false), (42, 4398046511103, true)]) (by kernel_rfl) ?_
                  simp only [go_sem, goP, stableD, hD, Nat.reduceEqDiff, g6, reduceIte, Nat.reduceLT, Bool.not_true, g7, g4, q1, Nat.reduceAdd, stab_cons, all1_cons, cell1, all1_nil, sameL_refl, stab_nil, Bool.or_true, loadA, loadC, ofCells, ne_eq, not_true_eq_false, ec, g1, q4, q2, hszl, hE]
                  exact ⟨trivial, trivial, by first | trivial | rfl, by rw [hsp]⟩
                · have hE2 : decide (16 < c.label.length) = false := decide_eq_false hE
                  have hsp : spareB c = false := by simp only [spareB, hA, Bool.not_true, Bool.false_and, hH, Bool.or_self, hC3, hD2, hE2]
                  repeat (refine W.seq ?_)
                  refine W.plan (st := [(0, 0, false), (1, 1, false), (2, 3, false), (3, 7, false), (4, 15, false), (5, 31, false), (6, 63, false), (7, 127, false), (8, 255, false), (9, 511, false), (10, 1023, false), (11, 2047, false), (12, 4095, false), (13, 8191, false), (14, 16383, false), (15, 32767, false), (16, 65535, false), (17, 131071, false), (18, 262143, false), (19, 524287, false), (20, 1048575, false), (21, 2097151, false), (22, 4194303, false), (23, 8388607, false), (24, 16777215, false), (25, 33554431, false), (26, 67108863, false), (27, 134217727, false), (31, 268435455, false), (32, 2415919103, false), (33, 6710886399, true), (28, 268435455, false), (29, 536870911, false), (30, 1073741823, false), (34, 17179869183, false), (35, 34359738367, false), (36, 68719476735, false), (37, 137438953471, false), (38, 274877906943, false), (39, 549755813887, false), (40, 1099511627775, false), (41, 2199023255551, false), (42, 4398046511103, true)]) (by kernel_rfl) ?_
                  simp only [go_sem, goP, stableD, hD, Nat.reduceEqDiff, g6, reduceIte, Nat.reduceLT, Bool.not_true, g7, g4, q1, Nat.reduceAdd, stab_cons, all1_cons, cell1, all1_nil, sameL_refl, stab_nil, Bool.or_true, loadA, loadC, ofCells, ne_eq, not_true_eq_false, ec, g1, q4, q2, hszl, hE]
                  exact ⟨trivial, trivial, by first | trivial | rfl, by rw [hsp]⟩
              · have hD2 : decide (c.n.length ≠ countL.getD c.op 0) = true := decide_eq_true hD
                have hsp : spareB c = true := by simp only [spareB, hA, Bool.not_true, Bool.false_and, hH, Bool.or_self, hC3, hD2, Bool.or_true, Bool.true_or]
                repeat (refine W.seq ?_)
                refine W.plan (st := [(0, 0, false), (1, 1, false), (2, 3, false), (3, 7, false), (4, 15, false), (5, 31, false), (6, 63, false), (7, 127, false), (8, 255, false), (9, 511, false), (10, 1023, false), (11, 2047, false), (12, 4095, false), (13, 8191, false), (14, 16383, false), (15, 32767, false), (16, 65535, false), (17, 131071, false), (18, 262143, false), (19, 524287, false), (20, 1048575, false), (21, 2097151, false), (22, 4194303, false), (23, 8388607, false), (24, 16777215, false), (25, 33554431, false), (26, 67108863, false), (27, 134217727, false), (31, 268435455, false), (32, 2415919103, false), (33, 6710886399, true), (28, 268435455, false), (29, 536870911, false), (30, 1073741823, false), (34, 17179869183, false), (35, 34359738367, false), (36, 68719476735, false), (37, 137438953471, false), (38, 274877906943, false), (39, 549755813887, false), (40, 1099511627775, false), (41, 2199023255551, false), (42, 4398046511103, true)]) (by kernel_rfl) ?_
                simp only [go_sem, goP, stableD, Nat.reduceEqDiff, g6, reduceIte, Nat.reduceLT, Bool.not_true, g7, g4, q1, Nat.reduceAdd, stab_cons, all1_cons, cell1, all1_nil, sameL_refl, stab_nil, Bool.or_true, loadA, loadC, ofCells, ne_eq, not_true_eq_false, ec, g1, q4, hD, not_false_eq_true]
                exact ⟨trivial, trivial, by first | trivial | rfl, by rw [hsp]⟩
            · have hC3 : decide (c.op ≠ 9) = true := decide_eq_true hC
              have hC4 : decide (0 < c.st.length) = false := decide_eq_false hC2
              by_cases hD : c.n.length = countL.getD c.op 0
              · have hD2 : decide (c.n.length ≠ countL.getD c.op 0) = false := decide_eq_false fun h => h hD
                by_cases hE : 16 < c.label.length
                · have hE2 : decide (16 < c.label.length) = true := decide_eq_true hE
                  have hsp : spareB c = true := by simp only [spareB, hA, Bool.not_true, Bool.false_and, hH, Bool.or_self, hC3, hC4, Bool.and_false, hD2, hE2, Bool.or_true]
                  repeat (refine W.seq ?_)
                  refine W.plan (st := [(0, 0, false), (1, 1, false), (2, 3, false), (3, 7, false), (4, 15, false), (5, 31, false), (6, 63, false), (7, 127, false), (8, 255, false), (9, 511, false), (10, 1023, false), (11, 2047, false), (12, 4095, false), (13, 8191, false), (14, 16383, false), (15, 32767, false), (16, 65535, false), (17, 131071, false), (18, 262143, false), (19, 524287, false), (20, 1048575, false), (21, 2097151, false), (22, 4194303, false), (23, 8388607, false), (24, 16777215, false), (25, 33554431, false), (26, 67108863, false), (27, 134217727, false), (31, 268435455, false), (32, 2415919103, false), (33, 6710886399, true), (28, 268435455, false), (29, 536870911, false), (30, 1073741823, false), (34, 17179869183, false), (35, 34359738367, false), (36, 68719476735, false), (37, 137438953471, false), (38, 274877906943, false), (39, 549755813887, false), (40, 1099511627775, false), (41, 2199023255551, false), (42, 4398046511103, true)]) (by kernel_rfl) ?_
                  simp only [go_sem, goP, stableD, hD, Nat.reduceEqDiff, g6, reduceIte, Nat.reduceLT, Bool.not_true, g7, g4, q1, Nat.reduceAdd, stab_cons, all1_cons, cell1, all1_nil, sameL_refl, stab_nil, Bool.or_true, loadA, loadC, ofCells, ne_eq, hC', not_false_eq_true, g1, q5, hC2, ec, q4, not_true_eq_false, q2, hszl, hE]
                  exact ⟨trivial, trivial, by first | trivial | rfl, by rw [hsp]⟩
                · have hE2 : decide (16 < c.label.length) = false := decide_eq_false hE
                  have hsp : spareB c = false := by simp only [spareB, hA, Bool.not_true, Bool.false_and, hH, Bool.or_self, hC3, hC4, Bool.and_false, hD2, hE2]
                  repeat (refine W.seq ?_)
                  refine W.plan (st := [(0, 0, false), (1, 1, false), (2, 3, false), (3, 7, false), (4, 15, false), (5, 31, false), (6, 63, false), (7, 127, false), (8, 255, false), (9, 511, false), (10, 1023, false), (11, 2047, false), (12, 4095, false), (13, 8191, false), (14, 16383, false), (15, 32767, false), (16, 65535, false), (17, 131071, false), (18, 262143, false), (19, 524287, false), (20, 1048575, false), (21, 2097151, false), (22, 4194303, false), (23, 8388607, false), (24, 16777215, false), (25, 33554431, false), (26, 67108863, false), (27, 134217727, false), (31, 268435455, false), (32, 2415919103, false), (33, 6710886399, true), (28, 268435455, false), (29, 536870911, false), (30, 1073741823, false), (34, 17179869183, false), (35, 34359738367, false), (36, 68719476735, false), (37, 137438953471, false), (38, 274877906943, false), (39, 549755813887, false), (40, 1099511627775, false), (41, 2199023255551, false), (42, 4398046511103, true)]) (by kernel_rfl) ?_
                  simp only [go_sem, goP, stableD, hD, Nat.reduceEqDiff, g6, reduceIte, Nat.reduceLT, Bool.not_true, g7, g4, q1, Nat.reduceAdd, stab_cons, all1_cons, cell1, all1_nil, sameL_refl, stab_nil, Bool.or_true, loadA, loadC, ofCells, ne_eq, hC', not_false_eq_true, g1, q5, hC2, ec, q4, not_true_eq_false, q2, hszl, hE]
                  exact ⟨trivial, trivial, by first | trivial | rfl, by rw [hsp]⟩
              · have hD2 : decide (c.n.length ≠ countL.getD c.op 0) = true := decide_eq_true hD
                have hsp : spareB c = true := by simp only [spareB, hA, Bool.not_true, Bool.false_and, hH, Bool.or_self, hC3, hC4, Bool.and_false, hD2, Bool.or_true, Bool.true_or]
                repeat (refine W.seq ?_)
                refine W.plan (st := [(0, 0, false), (1, 1, false), (2, 3, false), (3, 7, false), (4, 15, false), (5, 31, false), (6, 63, false), (7, 127, false), (8, 255, false), (9, 511, false), (10, 1023, false), (11, 2047, false), (12, 4095, false), (13, 8191, false), (14, 16383, false), (15, 32767, false), (16, 65535, false), (17, 131071, false), (18, 262143, false), (19, 524287, false), (20, 1048575, false), (21, 2097151, false), (22, 4194303, false), (23, 8388607, false), (24, 16777215, false), (25, 33554431, false), (26, 67108863, false), (27, 134217727, false), (31, 268435455, false), (32, 2415919103, false), (33, 6710886399, true), (28, 268435455, false), (29, 536870911, false), (30, 1073741823, false), (34, 17179869183, false), (35, 34359738367, false), (36, 68719476735, false), (37, 137438953471, false), (38, 274877906943, false), (39, 549755813887, false), (40, 1099511627775, false), (41, 2199023255551, false), (42, 4398046511103, true)]) (by kernel_rfl) ?_
                simp only [go_sem, goP, stableD, Nat.reduceEqDiff, g6, reduceIte, Nat.reduceLT, Bool.not_true, g7, g4, q1, Nat.reduceAdd, stab_cons, all1_cons, cell1, all1_nil, sameL_refl, stab_nil, Bool.or_true, loadA, loadC, ofCells, ne_eq, hC', not_false_eq_true, g1, q5, hC2, ec, q4, hD]
                exact ⟨trivial, trivial, by first | trivial | rfl, by rw [hsp]⟩
            · have hC3 : decide (c.op ≠ 9) = true := decide_eq_true hC
              have hC4 : decide (0 < c.st.length) = true := decide_eq_true hC2
              have hsp : spareB c = true := by simp only [go_sem, spareB, hA, Bool.not_true, Bool.false_and, hH, Bool.or_self, hC3, hC4, Bool.or_true, Bool.true_or]
              repeat (refine W.seq ?_)
              refine W.plan (st := [(0, 0, false), (1, 1, false), (2, 3, false), (3, 7, false), (4, 15, false), (5, 31, false), (6, 63, false), (7, 127, false), (8, 255, false), (9, 511, false), (10, 1023, false), (11, 2047, false), (12, 4095, false), (13, 8191, false), (14, 16383, false), (15, 32767, false), (16, 65535, false), (17, 131071, false), (18, 262143, false), (19, 524287, false), (20, 1048575, false), (21, 2097151, false), (22, 4194303, false), (23, 8388607, false), (24, 16777215, false), (25, 33554431, false), (26, 67108863, false), (27, 134217727, false), (31, 268435455, false), (32, 2415919103, false), (33, 6710886399, true), (28, 268435455, false), (29, 536870911, false), (30, 1073741823, false), (34, 17179869183, false), (35, 34359738367, false), (36, 68719476735, false), (37, 137438953471, false), (38, 274877906943, false), (39, 549755813887, false), (40, 1099511627775, false), (41, 2199023255551, false), (42, 4398046511103, true)]) (by kernel_rfl) ?_
              simp only [go_sem, goP, stableD, Nat.reduceEqDiff, g6, reduceIte, Nat.reduceLT, Bool.not_true, g7, g4, q1, Nat.reduceAdd, stab_cons, all1_cons, cell1, all1_nil, sameL_refl, stab_nil, Bool.or_true, loadA, loadC, ofCells, ne_eq, hC', not_false_eq_true, g1, q5, hC2]
              exact ⟨trivial, trivial, by first | trivial | rfl, by rw [hsp]⟩
          · rw [hH] at g7
            have hH2 : decide (c.on ≠ []) = false := decide_eq_false fun h => h hH'
            rcases starC (n := c.st.length) hstar with ⟨hC, hC'⟩ | ⟨⟨hC, hC'⟩, hC2⟩ | ⟨⟨hC, hC'⟩, hC2⟩
            · rw [hC'] at q1 ec
              have hC3 : decide (c.op ≠ 9) = false := decide_eq_false fun h => h hC
              by_cases hD : c.n.length = countL.getD c.op 0
              · have hD2 : decide (c.n.length ≠ countL.getD c.op 0) = false := decide_eq_false fun h => h hD
                by_cases hE : 16 < c.label.length
                · have hE2 : decide (16 < c.label.length) = true := decide_eq_true hE
                  have hsp : spareB c = true := by simp only [spareB, hA, Bool.not_true, Bool.false_and, hH, Bool.not_false, hH2, Bool.and_false, Bool.or_self, hC3, hD2, hE2, Bool.or_true]
                  repeat (refine W.seq ?_)
                  refine W.plan (st := [(0, 0, false), (1, 1, false), (2, 3, false), (3, 7, false), (4, 15, false), (5, 31, false), (6, 63, false), (7, 127, false), (8, 255, false), (9, 511, false), (10, 1023, false), (11, 2047, false), (12, 4095, false), (13, 8191, false), (14, 16383, false), (15, 32767, false), (16, 65535, false), (17, 131071, false), (18, 262143, false), (19, 524287, false), (20, 1048575, false), (21, 2097151, false), (22, 4194303, false), (23, 8388607, false), (24, 16777215, false), (25, 33554431, false), (26, 67108863, false), (27, 134217727, false), (31, 268435455, false), (32, 2415919103, false), (33, 6710886399, true), (28, 268435455, false), (29, 536870911, false), (30, 1073741823, false), (34, 17179869183, false), (35, 34359738367, false), (36, 68719476735, false), (37, 137438953471, false), (38, 274877906943, false), (39, 549755813887, false), (40, 1099511627775, false), (41, 2199023255551, false), (42, 4398046511103, true)]) (by kernel_rfl) ?_
                  simp only [go_sem, goP, stableD, hD, Nat.reduceEqDiff, g6, reduceIte, Nat.reduceLT, Bool.not_true, g7, Bool.not_false, g1, q3, hH', Nat.reduceAdd, stab_cons, all1_cons, cell1, all1_nil, sameL_refl, stab_nil, Bool.or_true, loadA, loadC, ofCells, ne_eq, not_true_eq_false, g4, q1, ec, q4, q2, hszl, hE]
                  exact ⟨trivial, trivial, by first | trivial | rfl, by rw [hsp]⟩
                · have hE2 : decide (16 < c.label.length) = false := decide_eq_false hE
                  have hsp : spareB c = false := by simp only [spareB, hA, Bool.not_true, Bool.false_and, hH, Bool.not_false, hH2, Bool.and_false, Bool.or_self, hC3, hD2, hE2]
                  repeat (refine W.seq ?_)
                  refine W.plan (st := [(0, 0, false), (1, 1, false), (2, 3, false), (3, 7, false), (4, 15, false), (5, 31, false), (6, 63, false), (7, 127, false), (8, 255, false), (9, 511, false), (10, 1023, false), (11, 2047, false), (12, 4095, false), (13, 8191, false), (14, 16383, false), (15, 32767, false), (16, 65535, false), (17, 131071, false), (18, 262143, false), (19, 524287, false), (20, 1048575, false), (21, 2097151, false), (22, 4194303, false), (23, 8388607, false), (24, 16777215, false), (25, 33554431, false), (26, 67108863, false), (27, 134217727, false), (31, 268435455, false), (32, 2415919103, false), (33, 6710886399, true), (28, 268435455, false), (29, 536870911, false), (30, 1073741823, false), (34, 17179869183, false), (35, 34359738367, false), (36, 68719476735, false), (37, 137438953471, false), (38, 274877906943, false), (39, 549755813887, false), (40, 1099511627775, false), (41, 2199023255551, false), (42, 4398046511103, true)]) (by kernel_rfl) ?_
                  simp only [go_sem, goP, stableD, hD, Nat.reduceEqDiff, g6, reduceIte, Nat.reduceLT, Bool.not_true, g7, Bool.not_false, g1, q3, hH', Nat.reduceAdd, stab_cons, all1_cons, cell1, all1_nil, sameL_refl, stab_nil, Bool.or_true, loadA, loadC, ofCells, ne_eq, not_true_eq_false, g4, q1, ec, q4, q2, hszl, hE]
                  exact ⟨trivial, trivial, by first | trivial | rfl, by rw [hsp]⟩
              · have hD2 : decide (c.n.length ≠ countL.getD c.op 0) = true := decide_eq_true hD
                have hsp : spareB c = true := by simp only [spareB, hA, Bool.not_true, Bool.false_and, hH, Bool.not_false, hH2, Bool.and_false, Bool.or_self, hC3, hD2, Bool.or_true, Bool.true_or]
                repeat (refine W.seq ?_)
                refine W.plan (st := [(0, 0, false), (1, 1, false), (2, 3, false), (3, 7, false), (4, 15, false), (5, 31, false), (6, 63, false), (7, 127, false), (8, 255, false), (9, 511, false), (10, 1023, false), (11, 2047, false), (12, 4095, false), (13, 8191, false), (14, 16383, false), (15, 32767, false), (16, 65535, false), (17, 131071, false), (18, 262143, false), (19, 524287, false), (20, 1048575, false), (21, 2097151, false), (22, 4194303, false), (23, 8388607, false), (24, 16777215, false), (25, 33554431, false), (26, 67108863, false), (27, 134217727, false), (31, 268435455, false), (32, 2415919103, false), (33, 6710886399, true), (28, 268435455, false), (29, 536870911, false), (30, 1073741823, false), (34, 17179869183, false), (35, 34359738367, false), (36, 68719476735, false), (37, 137438953471, false), (38, 274877906943, false), (39, 549755813887, false), (40, 1099511627775, false), (41, 2199023255551, false), (42, 4398046511103, true)]) (by kernel_rfl) ?_
                simp only [go_sem, goP, stableD, Nat.reduceEqDiff, g6, reduceIte, Nat.reduceLT, Bool.not_true, g7, Bool.not_false, g1, q3, hH', Nat.reduceAdd, stab_cons, all1_cons, cell1, all1_nil, sameL_refl, stab_nil, Bool.or_true, loadA, loadC, ofCells, ne_eq, not_true_eq_false, g4, q1, ec, q4, hD, not_false_eq_true]
                exact ⟨trivial, trivial, by first | trivial | rfl, by rw [hsp]⟩
            · have hC3 : decide (c.op ≠ 9) = true := decide_eq_true hC
              have hC4 : decide (0 < c.st.length) = false := decide_eq_false hC2
              by_cases hD : c.n.length = countL.getD c.op 0
              · have hD2 : decide (c.n.length ≠ countL.getD c.op 0) = false := decide_eq_false fun h => h hD
                by_cases hE : 16 < c.label.length
                · have hE2 : decide (16 < c.label.length) = true := decide_eq_true hE
                  have hsp : spareB c = true := by simp only [spareB, hA, Bool.not_true, Bool.false_and, hH, Bool.not_false, hH2, Bool.and_false, Bool.or_self, hC3, hC4, hD2, hE2, Bool.or_true]
                  repeat (refine W.seq ?_)
                  refine W.plan (st := [(0, 0, false), (1, 1, false), (2, 3, false), (3, 7, false), (4, 15, false), (5, 31, false), (6, 63, false), (7, 127, false), (8, 255, false), (9, 511, false), (10, 1023, false), (11, 2047, false), (12, 4095, false), (13, 8191, false), (14, 16383, false), (15, 32767, false), (16, 65535, false), (17, 131071, false), (18, 262143, false), (19, 524287, false), (20, 1048575, false), (21, 2097151, false), (22, 4194303, false), (23, 8388607, false), (24, 16777215, false), (25, 33554431, false), (26, 67108863, false), (27, 134217727, false), (31, 268435455, false), (32, 2415919103, false), (33, 6710886399, true), (28, 268435455, false), (29, 536870911, false), (30, 1073741823, false), (34, 17179869183, false), (35, 34359738367, false), (36, 68719476735, false), (37, 137438953471, false), (38, 274877906943, false), (39, 549755813887, false), (40, 1099511627775, false), (41, 2199023255551, false), (42, 4398046511103, true)]) (by kernel_rfl) ?_
                  simp only [go_sem, goP, stableD, hD, Nat.reduceEqDiff, g6, reduceIte, Nat.reduceLT, Bool.not_true, g7, Bool.not_false, g1, q3, hH', Nat.reduceAdd, stab_cons, all1_cons, cell1, all1_nil, sameL_refl, stab_nil, Bool.or_true, loadA, loadC, ofCells, ne_eq, not_true_eq_false, g4, q1, hC', not_false_eq_true, q5, hC2, ec, q4, q2, hszl, hE]
                  exact ⟨trivial, trivial, by first | trivial | rfl, by rw [hsp]⟩
                · have hE2 : decide (16 < c.label.length) = false := decide_eq_false hE
                  have hsp : spareB c = false := by simp only [spareB, hA, Bool.not_true, Bool.false_and, hH, Bool.not_false, hH2, Bool.and_false, Bool.or_self, hC3, hC4, hD2, hE2]
                  repeat (refine W.seq ?_)
                  refine W.plan (st := [(0, 0, false), (1, 1, false), (2, 3, false), (3, 7, false), (4, 15, false), (5, 31, false), (6, 63, false), (7, 127, false), (8, 255, false), (9, 511, false), (10, 1023, false), (11, 2047, false), (12, 4095, false), (13, 8191, false), (14, 16383, false), (15, 32767, false), (16, 65535, false), (17, 131071, false), (18, 262143, false), (19, 524287, false), (20, 1048575, false), (21, 2097151, false), (22, 4194303, false), (23, 8388607, false), (24, 16777215, false), (25, 33554431, false), (26, 67108863, false), (27, 134217727, false), (31, 268435455, false), (32, 2415919103, false), (33, 6710886399, true), (28, 268435455, false), (29, 536870911, false), (30, 1073741823, false), (34, 17179869183, false), (35, 34359738367, false), (36, 68719476735, false), (37, 137438953471, false), (38, 274877906943, false), (39, 549755813887, false), (40, 1099511627775, false), (41, 2199023255551, false), (42, 4398046511103, true)]) (by kernel_rfl) ?_
                  simp only [go_sem, goP, stableD, hD, Nat.reduceEqDiff, g6, reduceIte, Nat.reduceLT, Bool.not_true, g7, Bool.not_false, g1, q3, hH', Nat.reduceAdd, stab_cons, all1_cons, cell1, all1_nil, sameL_refl, stab_nil, Bool.or_true, loadA, loadC, ofCells, ne_eq, not_true_eq_false, g4, q1, hC', not_false_eq_true, q5, hC2, ec, q4, q2, hszl, hE]
                  exact ⟨trivial, trivial, by first | trivial | rfl, by rw [hsp]⟩
              · have hD2 : decide (c.n.length ≠ countL.getD c.op 0) = true := decide_eq_true hD
                have hsp : spareB c = true := by simp only [spareB, hA, Bool.not_true, Bool.false_and, hH, Bool.not_false, hH2, Bool.and_false, Bool.or_self, hC3, hC4, hD2, Bool.or_true, Bool.true_or]
                repeat (refine W.seq ?_)
                refine W.plan (st := [(0, 0, false), (1, 1, false), (2, 3, false), (3, 7, false), (4, 15, false), (5, 31, false), (6, 63, false), (7, 127, false), (8, 255, false), (9, 511, false), (10, 1023, false), (11, 2047, false), (12, 4095, false), (13, 8191, false), (14, 16383, false), (15, 32767, false), (16, 65535, false), (17, 131071, false), (18, 262143, false), (19, 524287, false), (20, 1048575, false), (21, 2097151, false), (22, 4194303, false), (23, 8388607, false), (24, 16777215, false), (25, 33554431, false), (26, 67108863, false), (27, 134217727, false), (31, 268435455, false), (32, 2415919103, false), (33, 6710886399, true), (28, 268435455, false), (29, 536870911, false), (30, 1073741823, false), (34, 17179869183, false), (35, 34359738367, false), (36, 68719476735, false), (37, 137438953471, false), (38, 274877906943, false), (39, 549755813887, false), (40, 1099511627775, false), (41, 2199023255551, false), (42, 4398046511103, true)]) (by kernel_rfl) ?_
                simp only [go_sem, goP, stableD, Nat.reduceEqDiff, g6, reduceIte, Nat.reduceLT, Bool.not_true, g7, Bool.not_false, g1, q3, hH', Nat.reduceAdd, stab_cons, all1_cons, cell1, all1_nil, sameL_refl, stab_nil, Bool.or_true, loadA, loadC, ofCells, ne_eq, not_true_eq_false, g4, q1, hC', not_false_eq_true, q5, hC2, ec, q4, hD]
                exact ⟨trivial, trivial, by first | trivial | rfl, by rw [hsp]⟩
            · have hC3 : decide (c.op ≠ 9) = true := decide_eq_true hC
              have hC4 : decide (0 < c.st.length) = true := decide_eq_true hC2
              have hsp : spareB c = true := by simp only [go_sem, spareB, hA, Bool.not_true, Bool.false_and, hH, Bool.not_false, hH2, Bool.and_false, Bool.or_self, hC3, hC4, Bool.or_true, Bool.true_or]
              repeat (refine W.seq ?_)
              refine W.plan (st := [(0, 0, false), (1, 1, false), (2, 3, false), (3, 7, false), (4, 15, false), (5, 31, false), (6, 63, false), (7, 127, false), (8, 255, false), (9, 511, false), (10, 1023, false), (11, 2047, false), (12, 4095, false), (13, 8191, false), (14, 16383, false), (15, 32767, false), (16, 65535, false), (17, 131071, false), (18, 262143, false), (19, 524287, false), (20, 1048575, false), (21, 2097151, false), (22, 4194303, false), (23, 8388607, false), (24, 16777215, false), (25, 33554431, false), (26, 67108863, false), (27, 134217727, false), (31, 268435455, false), (32, 2415919103, false), (33, 6710886399, true), (28, 268435455, false), (29, 536870911, false), (30, 1073741823, false), (34, 17179869183, false), (35, 34359738367, false), (36, 68719476735, false), (37, 137438953471, false), (38, 274877906943, false), (39, 549755813887, false), (40, 1099511627775, false), (41, 2199023255551, false), (42, 4398046511103, true)]) (by kernel_rfl) ?_
              simp only [go_sem, goP, stableD, Nat.reduceEqDiff, g6, reduceIte, Nat.reduceLT, Bool.not_true, g7, Bool.not_false, g1, q3, hH', Nat.reduceAdd, stab_cons, all1_cons, cell1, all1_nil, sameL_refl, stab_nil, Bool.or_true, loadA, loadC, ofCells, ne_eq, not_true_eq_false, g4, q1, hC', not_false_eq_true, q5, hC2]
              exact ⟨trivial, trivial, by first | trivial | rfl, by rw [hsp]⟩
          · rw [hH] at g7
            have hH2 : decide (c.on ≠ []) = true := decide_eq_true hH'
            have hsp : spareB c = true := by simp only [go_sem, spareB, hA, Bool.not_true, Bool.false_and, hH, Bool.not_false, hH2, Bool.or_true, Bool.true_or]
            repeat (refine W.seq ?_)
            refine W.plan (st := [(0, 0, false), (1, 1, false), (2, 3, false), (3, 7, false), (4, 15, false), (5, 31, false), (6, 63, false), (7, 127, false), (8, 255, false), (9, 511, false), (10, 1023, false), (11, 2047, false), (12, 4095, false), (13, 8191, false), (14, 16383, false), (15, 32767, false), (16, 65535, false), (17, 131071, false), (18, 262143, false), (19, 524287, false), (20, 1048575, false), (21, 2097151, false), (22, 4194303, false), (23, 8388607, false), (24, 16777215, false), (25, 33554431, false), (26, 67108863, false), (27, 134217727, false), (31, 268435455, false), (32, 2415919103, false), (33, 6710886399, true), (28, 268435455, false), (29, 536870911, false), (30, 1073741823, false), (34, 17179869183, false), (35, 34359738367, false), (36, 68719476735, false), (37, 137438953471, false), (38, 274877906943, false), (39, 549755813887, false), (40, 1099511627775, false), (41, 2199023255551, false), (42, 4398046511103, true)]) (by kernel_rfl) ?_
            simp only [go_sem, goP, stableD, Nat.reduceEqDiff, g6, reduceIte, Nat.reduceLT, Bool.not_true, g7, Bool.not_false, g1, q3, Nat.reduceAdd, stab_cons, all1_cons, cell1, all1_nil, sameL_refl, stab_nil, Bool.or_true, loadA, loadC, ofCells, ne_eq, hH', not_false_eq_true]
            exact ⟨trivial, trivial, by first | trivial | rfl, by rw [hsp]⟩
        · rw [hA] at g6
          have hA2 : decide (c.label ≠ []) = false := decide_eq_false fun h => h hA'
          rcases (show hasH c.op = true ∨ (hasH c.op = false ∧ c.on = []) ∨ (hasH c.op = false ∧ ¬ c.on = []) by cases hasH c.op <;> by_cases h : c.on = [] <;> simp [h]) with hH | ⟨hH, hH'⟩ | ⟨hH, hH'⟩
          · rw [hH] at g7
            rcases starC (n := c.st.length) hstar with ⟨hC, hC'⟩ | ⟨⟨hC, hC'⟩, hC2⟩ | ⟨⟨hC, hC'⟩, hC2⟩
            · rw [hC'] at q1 ec
              have hC3 : decide (c.op ≠ 9) = false := decide_eq_false fun h => h hC
              by_cases hD : c.n.length = countL.getD c.op 0
              · have hD2 : decide (c.n.length ≠ countL.getD c.op 0) = false := decide_eq_false fun h => h hD
                by_cases hE : 16 < c.label.length
                · exact absurd hE (by rw [hA']; simp)
                · have hE2 : decide (16 < c.label.length) = false := decide_eq_false hE
                  have hsp : spareB c = false := by simp only [spareB, hA, Bool.not_false, hA2, Bool.and_false, hH, Bool.not_true, Bool.false_and, Bool.or_self, hC3, hD2, hE2]
                  repeat (refine W.seq ?_)
                  refine W.plan (st := [(0, 0, false), (1, 1, false), (2, 3, false), (3, 7, false), (4, 15, false), (5, 31, false), (6, 63, false), (7, 127, false), (8, 255, false), (9, 511, false), (10, 1023, false), (11, 2047, false), (12, 4095, false), (13, 8191, false), (14, 16383, false), (15, 32767, false), (16, 65535, false), (17, 131071, false), (18, 262143, false), (19, 524287, false), (20, 1048575, false), (21, 2097151, false), (22, 4194303, false), (23, 8388607, false), (24, 16777215, false), (25, 33554431, false), (26, 67108863, false), (27, 134217727, false), (31, 268435455, false), (32, 2415919103, false), (33, 6710886399, true), (28, 268435455, false), (29, 536870911, false), (30, 1073741823, false), (34, 17179869183, false), (35, 34359738367, false), (36, 68719476735, false), (37, 137438953471, false), (38, 274877906943, false), (39, 549755813887, false), (40, 1099511627775, false), (41, 2199023255551, false), (42, 4398046511103, true)]) (by kernel_rfl) ?_
                  simp only [go_sem, goP, stableD, hD, Nat.reduceEqDiff, g6, reduceIte, Nat.reduceLT, Bool.not_false, g1, q2, hA', Nat.reduceAdd, stab_cons, all1_cons, cell1, all1_nil, sameL_refl, stab_nil, Bool.or_true, loadA, loadC, ofCells, ne_eq, not_true_eq_false, g7, Bool.not_true, g4, q1, ec, q4, hszl0]
                  exact ⟨trivial, trivial, by first | trivial | rfl, by rw [hsp]⟩
              · have hD2 : decide (c.n.length ≠ countL.getD c.op 0) = true := decide_eq_true hD
                have hsp : spareB c = true := by simp only [spareB, hA, Bool.not_false, hA2, Bool.and_false, hH, Bool.not_true, Bool.false_and, Bool.or_self, hC3, hD2, Bool.or_true, Bool.true_or]
                repeat (refine W.seq ?_)
                refine W.plan (st := [(0, 0, false), (1, 1, false), (2, 3, false), (3, 7, false), (4, 15, false), (5, 31, false), (6, 63, false), (7, 127, false), (8, 255, false), (9, 511, false), (10, 1023, false), (11, 2047, false), (12, 4095, false), (13, 8191, false), (14, 16383, false), (15, 32767, false), (16, 65535, false), (17, 131071, false), (18, 262143, false), (19, 524287, false), (20, 1048575, false), (21, 2097151, false), (22, 4194303, false), (23, 8388607, false), (24, 16777215, false), (25, 33554431, false), (26, 67108863, false), (27, 134217727, false), (31, 268435455, false), (32, 2415919103, false), (33, 6710886399, true), (28, 268435455, false), (29, 536870911, false), (30, 1073741823, false), (34, 17179869183, false), (35, 34359738367, false), (36, 68719476735, false), (37, 137438953471, false), (38, 274877906943, false), (39, 549755813887, false), (40, 1099511627775, false), (41, 2199023255551, false), (42, 4398046511103, true)]) (by kernel_rfl) ?_
                simp only [go_sem, goP, stableD, Nat.reduceEqDiff, g6, reduceIte, Nat.reduceLT, Bool.not_false, g1, q2, hA', Nat.reduceAdd, stab_cons, all1_cons, cell1, all1_nil, sameL_refl, stab_nil, Bool.or_true, loadA, loadC, ofCells, ne_eq, not_true_eq_false, g7, Bool.not_true, g4, q1, ec, q4, hD, not_false_eq_true]
                exact ⟨trivial, trivial, by first | trivial | rfl, by rw [hsp]⟩
            · have hC3 : decide (c.op ≠ 9) = true := decide_eq_true hC
              have hC4 : decide (0 < c.st.length) = false := decide_eq_false hC2
              by_cases hD : c.n.length = countL.getD c.op 0
              · have hD2 : decide (c.n.length ≠ countL.getD c.op 0) = false := decide_eq_false fun h => h hD
                by_cases hE : 16 < c.label.length
                · exact absurd hE (by rw [hA']; simp)
                · have hE2 : decide (16 < c.label.length) = false := decide_eq_false hE
                  have hsp : spareB c = false := by simp only [spareB, hA, Bool.not_false, hA2, Bool.and_false, hH, Bool.not_true, Bool.false_and, Bool.or_self, hC3, hC4, hD2, hE2]
                  repeat (refine W.seq ?_)
                  refine W.plan (st := [(0, 0, false), (1, 1, false), (2, 3, false), (3, 7, false), (4, 15, false), (5, 31, false), (6, 63, false), (7, 127, false), (8, 255, false), (9, 511, false), (10, 1023, false), (11, 2047, false), (12, 4095, false), (13, 8191, false), (14, 16383, false), (15, 32767, false), (16, 65535, false), (17, 131071, false), (18, 262143, false), (19, 524287, false), (20, 1048575, false), (21, 2097151, false), (22, 4194303, false), (23, 8388607, false), (24, 16777215, false), (25, 33554431, false), (26, 67108863, false), (27, 134217727, false), (31, 268435455, false), (32, 2415919103, false), (33, 6710886399, true), (28, 268435455, false), (29, 536870911, false), (30, 1073741823, false), (34, 17179869183, false), (35, 34359738367, false), (36, 68719476735, false), (37, 137438953471, false), (38, 274877906943, false), (39, 549755813887, false), (40, 1099511627775, false), (41, 2199023255551, false), (42, 4398046511103, true)]) (by kernel_rfl) ?_
                  simp only [go_sem, goP, stableD, hD, Nat.reduceEqDiff, g6, reduceIte, Nat.reduceLT, Bool.not_false, g1, q2, hA', Nat.reduceAdd, stab_cons, all1_cons, cell1, all1_nil, sameL_refl, stab_nil, Bool.or_true, loadA, loadC, ofCells, ne_eq, not_true_eq_false, g7, Bool.not_true, g4, q1, hC', not_false_eq_true, q5, hC2, ec, q4, hszl0]
                  exact ⟨trivial, trivial, by first | trivial | rfl, by rw [hsp]⟩
              · have hD2 : decide (c.n.length ≠ countL.getD c.op 0) = true := decide_eq_true hD
                have hsp : spareB c = true := by simp only [spareB, hA, Bool.not_false, hA2, Bool.and_false, hH, Bool.not_true, Bool.false_and, Bool.or_self, hC3, hC4, hD2, Bool.or_true, Bool.true_or]
                repeat (refine W.seq ?_)
                refine W.plan (st := [(0, 0, false), (1, 1, false), (2, 3, false), (3, 7, false), (4, 15, false), (5, 31, false), (6, 63, false), (7, 127, false), (8, 255, false), (9, 511, false), (10, 1023, false), (11, 2047, false), (12, 4095, false), (13, 8191, false), (14, 16383, false), (15, 32767, false), (16, 65535, false), (17, 131071, false), (18, 262143, false), (19, 524287, false), (20, 1048575, false), (21, 2097151, false), (22, 4194303, false), (23, 8388607, false), (24, 16777215, false), (25, 33554431, false), (26, 67108863, false), (27, 134217727, false), (31, 268435455, false), (32, 2415919103, false), (33, 6710886399, true), (28, 268435455, false), (29, 536870911, false), (30, 1073741823, false), (34, 17179869183, false), (35, 34359738367, false), (36, 68719476735, false), (37, 137438953471, false), (38, 274877906943, false), (39, 549755813887, false), (40, 1099511627775, false), (41, 2199023255551, false), (42, 4398046511103, true)]) (by kernel_rfl) ?_
                simp only [go_sem, goP, stableD, Nat.reduceEqDiff, g6, reduceIte, Nat.reduceLT, Bool.not_false, g1, q2, hA', Nat.reduceAdd, stab_cons, all1_cons, cell1, all1_nil, sameL_refl, stab_nil, Bool.or_true, loadA, loadC, ofCells, ne_eq, not_true_eq_false, g7, Bool.not_true, g4, q1, hC', not_false_eq_true, q5, hC2, ec, q4, hD]
                exact ⟨trivial, trivial, by first | trivial | rfl, by rw [hsp]⟩
            · have hC3 : decide (c.op ≠ 9) = true := decide_eq_true hC
              have hC4 : decide (0 < c.st.length) = true := decide_eq_true hC2
              have hsp : spareB c = true := by simp only [go_sem, spareB, hA, Bool.not_false, hA2, Bool.and_false, hH, Bool.not_true, Bool.false_and, Bool.or_self, hC3, hC4, Bool.or_true, Bool.true_or]
              repeat (refine W.seq ?_)
              refine W.plan (st := [(0, 0, false), (1, 1, false), (2, 3, false), (3, 7, false), (4, 15, false), (5, 31, false), (6, 63, false), (7, 127, false), (8, 255, false), (9, 511, false), (10, 1023, false), (11, 2047, false), (12, 4095, false), (13, 8191, false), (14, 16383, false), (15, 32767, false), (16, 65535, false), (17, 131071, false), (18, 262143, false), (19, 524287, false), (20, 1048575, false), (21, 2097151, false), (22, 4194303, false), (23, 8388607, false), (24, 16777215, false), (25, 33554431, false), (26, 67108863, false), (27, 134217727, false), (31, 268435455, false), (32, 2415919103, false), (33, 6710886399, true), (28, 268435455, false), (29, 536870911, false), (30, 1073741823, false), (34, 17179869183, false), (35, 34359738367, false), (36, 68719476735, false), (37, 137438953471, false), (38, 274877906943, false), (39, 549755813887, false), (40, 1099511627775, false), (41, 2199023255551, false), (42, 4398046511103, true)]) (by kernel_rfl) ?_
              simp only [go_sem, goP, stableD, Nat.reduceEqDiff, g6, reduceIte, Nat.reduceLT, Bool.not_false, g1, q2, hA', Nat.reduceAdd, stab_cons, all1_cons, cell1, all1_nil, sameL_refl, stab_nil, Bool.or_true, loadA, loadC, ofCells, ne_eq, not_true_eq_false, g7, Bool.not_true, g4, q1, hC', not_false_eq_true, q5, hC2]
              exact ⟨trivial, trivial, by first | trivial | rfl, by rw [hsp]⟩
          · rw [hH] at g7
            have hH2 : decide (c.on ≠ []) = false := decide_eq_false fun h => h hH'
            rcases starC (n := c.st.length) hstar with ⟨hC, hC'⟩ | ⟨⟨hC, hC'⟩, hC2⟩ | ⟨⟨hC, hC'⟩, hC2⟩
            · rw [hC'] at q1 ec
              have hC3 : decide (c.op ≠ 9) = false := decide_eq_false fun h => h hC
              by_cases hD : c.n.length = countL.getD c.op 0
              · have hD2 : decide (c.n.length ≠ countL.getD c.op 0) = false := decide_eq_false fun h => h hD
                by_cases hE : 16 < c.label.length
                · exact absurd hE (by rw [hA']; simp)
                · have hE2 : decide (16 < c.label.length) = false := decide_eq_false hE
                  have hsp : spareB c = false := by simp only [spareB, hA, Bool.not_false, hA2, Bool.and_false, hH, hH2, Bool.or_self, hC3, Bool.false_and, hD2, hE2]
                  repeat (refine W.seq ?_)
                  refine W.plan (st := [(0, 0, false), (1, 1, false), (2, 3, false), (3, 7, false), (4, 15, false), (5, 31, false), (6, 63, false), (7, 127, false), (8, 255, false), (9, 511, false), (10, 1023, false), (11, 2047, false), (12, 4095, false), (13, 8191, false), (14, 16383, false), (15, 32767, false), (16, 65535, false), (17, 131071, false), (18, 262143, false), (19, 524287, false), (20, 1048575, false), (21, 2097151, false), (22, 4194303, false), (23, 8388607, false), (24, 16777215, false), (25, 33554431, false), (26, 67108863, false), (27, 134217727, false), (31, 268435455, false), (32, 2415919103, false), (33, 6710886399, true), (28, 268435455, false), (29, 536870911, false), (30, 1073741823, false), (34, 17179869183, false), (35, 34359738367, false), (36, 68719476735, false), (37, 137438953471, false), (38, 274877906943, false), (39, 549755813887, false), (40, 1099511627775, false), (41, 2199023255551, false), (42, 4398046511103, true)]) (by kernel_rfl) ?_
                  simp only [go_sem, goP, stableD, hD, Nat.reduceEqDiff, g6, reduceIte, Nat.reduceLT, Bool.not_false, g1, q2, hA', Nat.reduceAdd, stab_cons, all1_cons, cell1, all1_nil, sameL_refl, stab_nil, Bool.or_true, loadA, loadC, ofCells, ne_eq, not_true_eq_false, g7, q3, hH', g4, q1, ec, q4, hszl0]
                  exact ⟨trivial, trivial, by first | trivial | rfl, by rw [hsp]⟩
              · have hD2 : decide (c.n.length ≠ countL.getD c.op 0) = true := decide_eq_true hD
                have hsp : spareB c = true := by simp only [spareB, hA, Bool.not_false, hA2, Bool.and_false, hH, hH2, Bool.or_self, hC3, Bool.false_and, hD2, Bool.or_true, Bool.true_or]
                repeat (refine W.seq ?_)
                refine W.plan (st := [(0, 0, false), (1, 1, false), (2, 3, false), (3, 7, false), (4, 15, false), (5, 31, false), (6, 63, false), (7, 127, false), (8, 255, false), (9, 511, false), (10, 1023, false), (11, 2047, false), (12, 4095, false), (13, 8191, false), (14, 16383, false), (15, 32767, false), (16, 65535, false), (17, 131071, false), (18, 262143, false), (19, 524287, false), (20, 1048575, false), (21, 2097151, false), (22, 4194303, false), (23, 8388607, false), (24, 16777215, false), (25, 33554431, false), (26, 67108863, false), (27, 134217727, false), (31, 268435455, false), (32, 2415919103, false), (33, 6710886399, true), (28, 268435455, false), (29, 536870911, false), (30, 1073741823, false), (34, 17179869183, false), (35, 34359738367, false), (36, 68719476735, false), (37, 137438953471, false), (38, 274877906943, false), (39, 549755813887, false), (40, 1099511627775, false), (41, 2199023255551, false), (42, 4398046511103, true)]) (by kernel_rfl) ?_
                simp only [go_sem, goP, stableD, Nat.reduceEqDiff, g6, reduceIte, Nat.reduceLT, Bool.not_false, g1, q2, hA', Nat.reduceAdd, stab_cons, all1_cons, cell1, all1_nil, sameL_refl, stab_nil, Bool.or_true, loadA, loadC, ofCells, ne_eq, not_true_eq_false, g7, q3, hH', g4, q1, ec, q4, hD, not_false_eq_true]
                exact ⟨trivial, trivial, by first | trivial | rfl, by rw [hsp]⟩
            · have hC3 : decide (c.op ≠ 9) = true := decide_eq_true hC
              have hC4 : decide (0 < c.st.length) = false := decide_eq_false hC2
              by_cases hD : c.n.length = countL.getD c.op 0
              · have hD2 : decide (c.n.length ≠ countL.getD c.op 0) = false := decide_eq_false fun h => h hD
                by_cases hE : 16 < c.label.length
                · exact absurd hE (by rw [hA']; simp)
                · have hE2 : decide (16 < c.label.length) = false := decide_eq_false hE
                  have hsp : spareB c = false := by simp only [spareB, hA, Bool.not_false, hA2, Bool.and_false, hH, hH2, Bool.or_self, hC3, hC4, hD2, hE2]
                  repeat (refine W.seq ?_)
                  refine W.plan (st := [(0, 0, false), (1, 1, false), (2, 3, false), (3, 7, false), (4, 15, false), (5, 31, false), (6, 63, false), (7, 127, false), (8, 255, false), (9, 511, false), (10, 1023, false), (11, 2047, false), (12, 4095, false), (13, 8191, false), (14, 16383, false), (15, 32767, false), (16, 65535, false), (17, 131071, false), (18, 262143, false), (19, 524287, false), (20, 1048575, false), (21, 2097151, false), (22, 4194303, false), (23, 8388607, false), (24, 16777215, false), (25, 33554431, false), (26, 67108863, false), (27, 134217727, false), (31, 268435455, false), (32, 2415919103, false), (33, 6710886399, true), (28, 268435455, false), (29, 536870911, false), (30, 1073741823, false), (34, 17179869183, false), (35, 34359738367, false), (36, 68719476735, false), (37, 137438953471, false), (38, 274877906943, false), (39, 549755813887, false), (40, 1099511627775, false), (41, 2199023255551, false), (42, 4398046511103, true)]) (by kernel_rfl) ?_
                  simp only [go_sem, goP, stableD, hD, Nat.reduceEqDiff, g6, reduceIte, Nat.reduceLT, Bool.not_false, g1, q2, hA', Nat.reduceAdd, stab_cons, all1_cons, cell1, all1_nil, sameL_refl, stab_nil, Bool.or_true, loadA, loadC, ofCells, ne_eq, not_true_eq_false, g7, q3, hH', g4, q1, hC', not_false_eq_true, q5, hC2, ec, q4, hszl0]
                  exact ⟨trivial, trivial, by first | trivial | rfl, by rw [hsp]⟩
              · have hD2 : decide (c.n.length ≠ countL.getD c.op 0) = true := decide_eq_true hD
                have hsp : spareB c = true := by simp only [spareB, hA, Bool.not_false, hA2, Bool.and_false, hH, hH2, Bool.or_self, hC3, hC4, hD2, Bool.or_true, Bool.true_or]
                repeat (refine W.seq ?_)
                refine W.plan (st := [(0, 0, false), (1, 1, false), (2, 3, false), (3, 7, false), (4, 15, false), (5, 31, false), (6, 63, false), (7, 127, false), (8, 255, false), (9, 511, false), (10, 1023, false), (11, 2047, false), (12, 4095, false), (13, 8191, false), (14, 16383, false), (15, 32767, false), (16, 65535, false), (17, 131071, false), (18, 262143, false), (19, 524287, false), (20, 1048575, false), (21, 2097151, false), (22, 4194303, false), (23, 8388607, false), (24, 16777215, false), (25, 33554431, false), (26, 67108863, false), (27, 134217727, false), (31, 268435455, false), (32, 2415919103, false), (33, 6710886399, true), (28, 268435455, false), (29, 536870911, false), (30, 1073741823, false), (34, 17179869183, false), (35, 34359738367, false), (36, 68719476735, false), (37, 137438953471, false), (38, 274877906943, false), (39, 549755813887, false), (40, 1099511627775, false), (41, 2199023255551, false), (42, 4398046511103, true)]) (by kernel_rfl) ?_
                simp only [go_sem, goP, stableD, Nat.reduceEqDiff, g6, reduceIte, Nat.reduceLT, Bool.not_false, g1, q2, hA', Nat.reduceAdd, stab_cons, all1_cons, cell1, all1_nil, sameL_refl, stab_nil, Bool.or_true, loadA, loadC, ofCells, ne_eq, not_true_eq_false, g7, q3, hH', g4, q1, hC', not_false_eq_true, q5, hC2, ec, q4, hD]
                exact ⟨trivial, trivial, by first | trivial | rfl, by rw [hsp]⟩
            · have hC3 : decide (c.op ≠ 9) = true := decide_eq_true hC
              have hC4 : decide (0 < c.st.length) = true := decide_eq_true hC2
              have hsp : spareB c = true := by simp only [go_sem, spareB, hA, Bool.not_false, hA2, Bool.and_false, hH, hH2, Bool.or_self, hC3, hC4, Bool.or_true, Bool.true_or]
              repeat (refine W.seq ?_)
              refine W.plan (st := [(0, 0, false), (1, 1, false), (2, 3, false), (3, 7, false), (4, 15, false), (5, 31, false), (6, 63, false), (7, 127, false), (8, 255, false), (9, 511, false), (10, 1023, false), (11, 2047, false), (12, 4095, false), (13, 8191, false), (14, 16383, false), (15, 32767, false), (16, 65535, false), (17, 131071, false), (18, 262143, false), (19, 524287, false), (20, 1048575, false), (21, 2097151, false), (22, 4194303, false), (23, 8388607, false), (24, 16777215, false), (25, 33554431, false), (26, 67108863, false), (27, 134217727, false), (31, 268435455, false), (32, 2415919103, false), (33, 6710886399, true), (28, 268435455, false), (29, 536870911, false), (30, 1073741823, false), (34, 17179869183, false), (35, 34359738367, false), (36, 68719476735, false), (37, 137438953471, false), (38, 274877906943, false), (39, 549755813887, false), (40, 1099511627775, false), (41, 2199023255551, false), (42, 4398046511103, true)]) (by kernel_rfl) ?_
              simp only [go_sem, goP, stableD, Nat.reduceEqDiff, g6, reduceIte, Nat.reduceLT, Bool.not_false, g1, q2, hA', Nat.reduceAdd, stab_cons, all1_cons, cell1, all1_nil, sameL_refl, stab_nil, Bool.or_true, loadA, loadC, ofCells, ne_eq, not_true_eq_false, g7, q3, hH', g4, q1, hC', not_false_eq_true, q5, hC2]
              exact ⟨trivial, trivial, by first | trivial | rfl, by rw [hsp]⟩
          · rw [hH] at g7
            have hH2 : decide (c.on ≠ []) = true := decide_eq_true hH'
            have hsp : spareB c = true := by simp only [go_sem, spareB, hA, Bool.not_false, hA2, Bool.and_false, hH, hH2, Bool.or_true, Bool.true_or]
            repeat (refine W.seq ?_)
            refine W.plan (st := [(0, 0, false), (1, 1, false), (2, 3, false), (3, 7, false), (4, 15, false), (5, 31, false), (6, 63, false), (7, 127, false), (8, 255, false), (9, 511, false), (10, 1023, false), (11, 2047, false), (12, 4095, false), (13, 8191, false), (14, 16383, false), (15, 32767, false), (16, 65535, false), (17, 131071, false), (18, 262143, false), (19, 524287, false), (20, 1048575, false), (21, 2097151, false), (22, 4194303, false), (23, 8388607, false), (24, 16777215, false), (25, 33554431, false), (26, 67108863, false), (27, 134217727, false), (31, 268435455, false), (32, 2415919103, false), (33, 6710886399, true), (28, 268435455, false), (29, 536870911, false), (30, 1073741823, false), (34, 17179869183, false), (35, 34359738367, false), (36, 68719476735, false), (37, 137438953471, false), (38, 274877906943, false), (39, 549755813887, false), (40, 1099511627775, false), (41, 2199023255551, false), (42, 4398046511103, true)]) (by kernel_rfl) ?_
            simp only [go_sem, goP, stableD, Nat.reduceEqDiff, g6, reduceIte, Nat.reduceLT, Bool.not_false, g1, q2, hA', Nat.reduceAdd, stab_cons, all1_cons, cell1, all1_nil, sameL_refl, stab_nil, Bool.or_true, loadA, loadC, ofCells, ne_eq, not_true_eq_false, g7, q3, hH', not_false_eq_true]
            exact ⟨trivial, trivial, by first | trivial | rfl, by rw [hsp]⟩
        · rw [hA] at g6
          have hA2 : decide (c.label ≠ []) = true := decide_eq_true hA'
          have hsp : spareB c = true := by simp only [go_sem, spareB, hA, Bool.not_false, hA2, Bool.true_or]
          repeat (refine W.seq ?_)
          refine W.plan (st := [(0, 0, false), (1, 1, false), (2, 3, false), (3, 7, false), (4, 15, false), (5, 31, false), (6, 63, false), (7, 127, false), (8, 255, false), (9, 511, false), (10, 1023, false), (11, 2047, false), (12, 4095, false), (13, 8191, false), (14, 16383, false), (15, 32767, false), (16, 65535, false), (17, 131071, false), (18, 262143, false), (19, 524287, false), (20, 1048575, false), (21, 2097151, false), (22, 4194303, false), (23, 8388607, false), (24, 16777215, false), (25, 33554431, false), (26, 67108863, false), (27, 134217727, false), (31, 268435455, false), (32, 2415919103, false), (33, 6710886399, true), (28, 268435455, false), (29, 536870911, false), (30, 1073741823, false), (34, 17179869183, false), (35, 34359738367, false), (36, 68719476735, false), (37, 137438953471, false), (38, 274877906943, false), (39, 549755813887, false), (40, 1099511627775, false), (41, 2199023255551, false), (42, 4398046511103, true)]) (by kernel_rfl) ?_
          simp only [go_sem, goP, stableD, Nat.reduceEqDiff, g6, reduceIte, Nat.reduceLT, Bool.not_false, g1, q2, Nat.reduceAdd, stab_cons, all1_cons, cell1, all1_nil, sameL_refl, stab_nil, Bool.or_true, loadA, loadC, ofCells, ne_eq, hA', not_false_eq_true]
          exact ⟨trivial, trivial, by first | trivial | rfl, by rw [hsp]⟩
      intro a hz ⟨hn, hh9, g5, g10⟩
      subst hh9
      have hst : stOK c = true := hall
      have hres : ∀ b, spareB c = b → lineOK c = (!b && (wordsP c).all wholeB) := fun b hb => by
        unfold lineOK
        rw [hst, hb, decide_eq_true hop12]; simp
      cases hsp : spareB c with
      | true =>
        rw [hsp] at g10
        repeat (refine W.seq ?_)
        refine W.reg0 ?_
        simp only [go_sem, g5, hn, Nat.reduceLT, Nat.reduceEqDiff, g10, reduceIte, Bool.not_true]
        repeat (refine W.seq ?_)
        refine W.ret ?_
        simp only [go_sem, outW, resultA, resA, Nat.reduceEqDiff, reduceIte]
        have := hres true hsp
        rw [this]
        exact ⟨trivial, _, rfl, hg04.trans hg9, _, rfl, fun hc => (by simp at hc)⟩
      | false =>
        rw [hsp] at g10
        have hwp : headW c ++ c.st.map stN ++ c.n.map decL = wordsP c := rfl
        rw [hwp] at hv9
        have hwl : (wordsP c).length ≤ 2000 := by unfold wordsP; simp only [List.length_append, List.length_map]; omega
        obtain ⟨_, _, eb, e1, e2⟩ := x_hasBad pp (wordsP c) v9 hz (by omega) (wordsP_len hB hop12 hst) (NewStrs.view hv9)
        rw [e1, e2] at eb
        repeat (refine W.seq ?_)
        refine W.reg0 ?_
        simp only [go_sem, g5, hn, Nat.reduceLT, Nat.reduceEqDiff, g10, reduceIte, Bool.not_false, eb]
        repeat (refine W.seq ?_)
        refine W.ret ?_
        simp only [go_sem, outW, resultA, resA, Nat.reduceEqDiff, reduceIte]
        have := hres false hsp
        rw [this]
        exact ⟨trivial, _, rfl, hg04.trans hg9, _, by simp, fun _ => NewRow.weaken hg04.next hv9⟩
  · simp only [go_sem, Nat.reduceEqDiff, g1, reduceIte, g4, g6, g7, g5]
    refine ⟨0, v, rfl, Nat.zero_le _, trivial, hg, (by first | trivial | rfl), (by first | trivial | rfl), (by first | trivial | rfl), (by first | trivial | rfl), (by first | trivial | rfl), (by first | trivial | rfl), (by first | trivial | rfl), (by first | trivial | rfl), ?_, rfl⟩
    simpa using hv
end Go.Proofs.YtkoccbggjfbgaaaGreatDoor
