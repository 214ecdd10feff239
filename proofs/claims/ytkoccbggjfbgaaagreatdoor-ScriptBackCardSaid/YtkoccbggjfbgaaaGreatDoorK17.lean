/-
  The script seat: the document's line of a command.
-/
import Derived.Test.YtkoccbggjfbgaaaGreatDoorK10
import Derived.Test.YtkoccbggjfbgaaaGreatDoorK16
set_option linter.all false
open Go.Eng
set_option maxRecDepth 100000
set_option linter.unusedSimpArgs false
set_option linter.unusedVariables false
namespace Go.Proofs.YtkoccbggjfbgaaaGreatDoor
variable {X : Tr Nat}

def badA (c : Cmd) : Bool := decide (c.n.length ≠ countL.getD c.op 0) || (!hasL c.op && decide (c.label ≠ [])) || (!hasH c.op && decide (c.on ≠ [])) || (decide (c.op ≠ 9) && decide (0 < c.st.length))
def badB (c : Cmd) : Bool := (hasL c.op && (!wholeB c.label || decide (16 < c.label.length))) || (hasH c.op && !wholeB c.on)

theorem words_whole {c : Cmd} (hop : c.op < 12) (hst : stOK c = true) : (wordsP c).all wholeB = ((!hasL c.op || wholeB c.label) && (!hasH c.op || wholeB c.on)) := by
  have h1 : (c.st.map stN).all wholeB = true := by
    rw [List.all_eq_true]
    intro w hw
    obtain ⟨x, hx, rfl⟩ := List.mem_map.1 hw
    have h1 := List.all_eq_true.1 hst x hx
    have h2 : 1 ≤ x ∧ x ≤ 3 := by simpa using h1
    exact stN_whole x (by omega) h2.1
  have h2 : (c.n.map decL).all wholeB = true := by
    rw [List.all_eq_true]
    intro w hw
    obtain ⟨x, hx, rfl⟩ := List.mem_map.1 hw
    exact decL_whole x
  unfold wordsP headW
  rw [List.all_append, List.all_append, List.all_append, List.all_cons, h1, h2, form_whole c.op hop]
  cases hasL c.op <;> cases hasH c.op <;> simp
theorem lineOK_eq {c : Cmd} (hop : c.op < 12) : lineOK c = (stOK c && !badA c && !badB c) := by
  unfold lineOK
  rw [decide_eq_true hop, Bool.true_and]
  cases hst : stOK c with
  | false => rfl
  | true =>
    rw [words_whole hop hst]
    unfold spareB badA badB
    have hl : decide (c.label ≠ []) = false → decide (16 < c.label.length) = false := fun h => by
      have : c.label = [] := Classical.not_not.1 (of_decide_eq_false h)
      rw [this]; rfl
    revert hl
    generalize decide (c.n.length ≠ countL.getD c.op 0) = b1
    generalize decide (c.label ≠ []) = b2
    generalize decide (c.on ≠ []) = b3
    generalize decide (c.op ≠ 9) = b4
    generalize decide (0 < c.st.length) = b5
    generalize decide (16 < c.label.length) = b6
    generalize hasL c.op = b7
    generalize hasH c.op = b8
    generalize wholeB c.label = b9
    generalize wholeB c.on = b10
    intro hl
    cases b1 <;> cases b2 <;> cases b3 <;> cases b4 <;> cases b5 <;> cases b6 <;> cases b7 <;> cases b8 <;> cases b9 <;> cases b10 <;> simp at hl ⊢

def catL (ws : List (List UInt8)) : List UInt8 := ws.flatMap fun w => 32 :: w
theorem catL_snoc (ws : List (List UInt8)) (w : List UInt8) : catL (ws ++ [w]) = catL ws ++ ([32] ++ w) := by simp [catL, List.flatMap_append]
theorem joinL_append : ∀ (a b : List (List UInt8)), a ≠ [] → joinL (a ++ b) = joinL a ++ catL b
  | [], _, h => absurd rfl h
  | x :: xs, b, _ => by simp [joinL, catL, List.flatMap_append]
theorem headW_ne (c : Cmd) : headW c ≠ [] := by unfold headW; simp

set_option maxHeartbeats 8000000 in
/-- the document's line of a command -/
theorem x_rline (px : PX X) (pp : PP X) (c : Cmd) (cs : List Value) (h : H) (hB : CmdB c) (ht : HT h) (hc : CmdV h cs c) :
    ∃ r h', callS (EX X) 40 [.agg cs.toArray] h = some (r, h') ∧ (Grows h h' ∧ r = .tuple #[.string (bsOf (if lineOK c = true then lineT c else [])), .bool (lineOK c)]) := by
  refine call_of pp.n40 (gf40 X) rfl (rs := [.tmp 2, .tmp 3]) rfl (m := 135) rfl ?_
  obtain ⟨z, vN, vS, rfl, hN, hS⟩ := hc
  obtain ⟨pN, sN, eN⟩ := hN.len
  obtain ⟨pS, sS, eS⟩ := hS.len
  rw [u64C_length] at eN
  rw [u8C_length] at eS
  subst eN; subst eS
  have hop := hB.op
  repeat (refine W.seq ?_)
  refine W.reg0 ?_
  simp only [go_sem, Nat.reduceSub, Nat.reduceAdd, reduceIte, Nat.reduceLT]
  have hg1 : Grows h (h.new (.cells [.int .i64 z, .int .u8 (Int.ofNat c.op), .string (bsOf c.label), .string (bsOf c.on), .slice pN c.n.length sN, .slice pS c.st.length sS] 61)) := (Grows.refl h).new _
  have ha1 : (h.new (.cells [.int .i64 z, .int .u8 (Int.ofNat c.op), .string (bsOf c.label), .string (bsOf c.on), .slice pN c.n.length sN, .slice pS c.st.length sS] 61)).get h.next = some (.cells [.int .i64 z, .int .u8 (Int.ofNat c.op), .string (bsOf c.label), .string (bsOf c.on), .slice pN c.n.length sN, .slice pS c.st.length sS] 61) := H.get_new' _ _
  have hn1 : (h.new (.cells [.int .i64 z, .int .u8 (Int.ofNat c.op), .string (bsOf c.label), .string (bsOf c.on), .slice pN c.n.length sN, .slice pS c.st.length sS] 61)).next = h.next + 1 := rfl
  generalize h.new (.cells [.int .i64 z, .int .u8 (Int.ofNat c.op), .string (bsOf c.label), .string (bsOf c.on), .slice pN c.n.length sN, .slice pS c.st.length sS] 61) = h1 at hg1 ha1 hn1 ⊢
  have rc : ∀ {hh : H}, Grows h1 hh → ∀ (i : Nat) (x : Value), ([.int .i64 z, .int .u8 (Int.ofNat c.op), .string (bsOf c.label), .string (bsOf c.on), .slice pN c.n.length sN, .slice pS c.st.length sS] : List Value)[i]? = some x → rd hh h.next i 1 = some [x] := fun {hh} g i x hx => by
    rw [rd_kept g (by omega)]
    unfold rd
    rw [ha1]
    exact seg_one _ _ _ hx
  have q1 := rc (Grows.refl h1) 1 _ rfl
  have q2 := rc (Grows.refl h1) 2 _ rfl
  have q3 := rc (Grows.refl h1) 3 _ rfl
  have q4 := rc (Grows.refl h1) 4 _ rfl
  have q5 := rc (Grows.refl h1) 5 _ rfl
  by_cases hgt : 11 < c.op
  · repeat (refine W.seq ?_)
    refine W.plan (st := [(0, 0, false), (1, 1, false), (2, 3, false), (3, 7, false), (7, 15, false), (8, 143, false), (9, 399, true), (4, 15, false), (5, 31, false), (6, 63, false), (10, 1023, false), (11, 2047, false), (12, 4095, false), (13, 8191, false), (14, 16383, false), (15, 32767, true), (16, 65535, false), (17, 131071, false), (18, 262143, false), (19, 524287, false), (20, 1048575, false), (21, 2097151, false), (22, 4194303, false), (23, 8388607, false), (24, 16777215, false), (25, 33554431, false), (26, 67108863, true), (27, 134217727, false), (28, 268435455, false), (29, 536870911, false), (30, 1073741823, false), (31, 2147483647, false), (32, 4294967295, false), (33, 8589934591, false), (34, 17179869183, false), (35, 34359738367, false), (36, 68719476735, false), (37, 137438953471, false), (38, 274877906943, false), (39, 549755813887, false), (40, 1099511627775, false), (41, 2199023255551, false), (42, 4398046511103, false), (43, 8796093022207, false), (44, 17592186044415, false)]) (by kernel_rfl) ?_
    simp only [go_sem, goP, stableD, Nat.reduceEqDiff, reduceIte, Nat.reduceLT, q1, Nat.reduceAdd, stab_cons, all1_cons, cell1, all1_nil, sameL_refl, stab_nil, Bool.or_true, loadA, loadC, ofCells, hgt]
    repeat (refine W.seq ?_)
    refine W.cond2 ?_
    simp only [go_sem, Nat.reduceEqDiff, reduceIte]
    refine ⟨fun _ => ?_, fun hc => (by simp at hc)⟩
    repeat (refine W.seq ?_)
    refine W.reg0 ?_
    simp only [go_sem, Nat.reduceLT]
    repeat (refine W.seq ?_)
    refine W.ret ?_
    simp only [go_sem, outW, resultA, resA, Nat.reduceEqDiff, reduceIte]
    have hno : lineOK c = false := by unfold lineOK; rw [decide_eq_false (by omega)]; rfl
    rw [hno]
    exact ⟨trivial, _, rfl, hg1, rfl⟩
  have hop12 : c.op < 12 := by omega
  obtain ⟨_, h2, ecn, hg2, rfl⟩ := x_count px c.op hop12 h1
  have q1' := rc hg2 1 _ rfl
  have q2' := rc hg2 2 _ rfl
  have q3' := rc hg2 3 _ rfl
  have q4' := rc hg2 4 _ rfl
  have q5' := rc hg2 5 _ rfl
  have eL1 : callS (EX X) 70 [.int .u8 (Int.ofNat c.op)] h1 = some (.bool (hasL c.op), h1) := x_label px c.op h1
  have eL2 : callS (EX X) 70 [.int .u8 (Int.ofNat c.op)] h2 = some (.bool (hasL c.op), h2) := x_label px c.op h2
  have eH1 : callS (EX X) 71 [.int .u8 (Int.ofNat c.op)] h1 = some (.bool (hasH c.op), h1) := x_named px c.op h1
  have eH2 : callS (EX X) 71 [.int .u8 (Int.ofNat c.op)] h2 = some (.bool (hasH c.op), h2) := x_named px c.op h2
  have hszl := bsOf_size c.label
  refine W.seq ?_
  refine W.cut (fun a hz => a.n = 135 ∧ hz = h2 ∧ a.m.get 1 = some (.pointer (some ⟨h.next, 0, none⟩)) ∧ a.m.get 53 = some (.bool (badA c))) ?_ ?_
  · skip
    by_cases hD : c.n.length = countL.getD c.op 0
    · have hD2 : decide (c.n.length ≠ countL.getD c.op 0) = false := decide_eq_false fun h => h hD
      rcases (show hasL c.op = true ∨ (hasL c.op = false ∧ c.label = []) ∨ (hasL c.op = false ∧ ¬ c.label = []) by cases hasL c.op <;> by_cases h : c.label = [] <;> simp [h]) with hA | ⟨hA, hA'⟩ | ⟨hA, hA'⟩
      · rw [hA] at eL1 eL2
        rcases (show hasH c.op = true ∨ (hasH c.op = false ∧ c.on = []) ∨ (hasH c.op = false ∧ ¬ c.on = []) by cases hasH c.op <;> by_cases h : c.on = [] <;> simp [h]) with hH | ⟨hH, hH'⟩ | ⟨hH, hH'⟩
        · rw [hH] at eH1 eH2
          by_cases hC : c.op = 9
          · have hC3 : decide (c.op ≠ 9) = false := decide_eq_false fun h => h hC
            have hC5 : decide (¬ c.op = 9) = false := hC3
            have hsp : badA c = false := by simp only [badA, hD2, hA, Bool.not_true, Bool.false_and, Bool.or_self, hH, hC3]
            repeat (refine W.seq ?_)
            refine W.plan (st := [(0, 0, false), (1, 1, false), (2, 3, false), (3, 7, false), (7, 15, false), (8, 143, false), (9, 399, true), (4, 15, false), (5, 31, false), (6, 63, false), (10, 1023, false), (11, 2047, false), (12, 4095, false), (13, 8191, false), (14, 16383, false), (15, 32767, true), (16, 65535, false), (17, 131071, false), (18, 262143, false), (19, 524287, false), (20, 1048575, false), (21, 2097151, false), (22, 4194303, false), (23, 8388607, false), (24, 16777215, false), (25, 33554431, false), (26, 67108863, true), (27, 134217727, false), (28, 268435455, false), (29, 536870911, false), (30, 1073741823, false), (31, 2147483647, false), (32, 4294967295, false), (33, 8589934591, false), (34, 17179869183, false), (35, 34359738367, false), (36, 68719476735, false), (37, 137438953471, false), (38, 274877906943, false), (39, 549755813887, false), (40, 1099511627775, false), (41, 2199023255551, false), (42, 4398046511103, false), (43, 8796093022207, false), (44, 17592186044415, false)]) (by kernel_rfl) ?_
            simp only [go_sem, goP, stableD, hD, Nat.reduceEqDiff, reduceIte, Nat.reduceLT, q1, Nat.reduceAdd, stab_cons, all1_cons, cell1, all1_nil, sameL_refl, stab_nil, Bool.or_true, loadA, loadC, ofCells, hgt, ecn, q4', q4, ne_eq, not_true_eq_false, q1', eL2, Bool.not_true, eH2, hC5]
            exact ⟨trivial, trivial, by first | trivial | rfl, by rw [hsp]⟩
          · have hC3 : decide (c.op ≠ 9) = true := decide_eq_true hC
            have hC5 : decide (¬ c.op = 9) = true := hC3
            by_cases hC2 : 0 < c.st.length
            · have hC4 : decide (0 < c.st.length) = true := decide_eq_true hC2
              have hsp : badA c = true := by simp only [go_sem, badA, hD2, hA, Bool.not_true, Bool.false_and, Bool.or_self, hH, hC3, hC4, Bool.or_true]
              repeat (refine W.seq ?_)
              refine W.plan (st := [(0, 0, false), (1, 1, false), (2, 3, false), (3, 7, false), (7, 15, false), (8, 143, false), (9, 399, true), (4, 15, false), (5, 31, false), (6, 63, false), (10, 1023, false), (11, 2047, false), (12, 4095, false), (13, 8191, false), (14, 16383, false), (15, 32767, true), (16, 65535, false), (17, 131071, false), (18, 262143, false), (19, 524287, false), (20, 1048575, false), (21, 2097151, false), (22, 4194303, false), (23, 8388607, false), (24, 16777215, false), (25, 33554431, false), (26, 67108863, true), (27, 134217727, false), (28, 268435455, false), (29, 536870911, false), (30, 1073741823, false), (31, 2147483647, false), (32, 4294967295, false), (33, 8589934591, false), (34, 17179869183, false), (35, 34359738367, false), (36, 68719476735, false), (37, 137438953471, false), (38, 274877906943, false), (39, 549755813887, false), (40, 1099511627775, false), (41, 2199023255551, false), (42, 4398046511103, false), (43, 8796093022207, false), (44, 17592186044415, false)]) (by kernel_rfl) ?_
              simp only [go_sem, goP, stableD, hD, Nat.reduceEqDiff, reduceIte, Nat.reduceLT, q1, Nat.reduceAdd, stab_cons, all1_cons, cell1, all1_nil, sameL_refl, stab_nil, Bool.or_true, loadA, loadC, ofCells, hgt, ecn, q4', q4, ne_eq, not_true_eq_false, q1', eL2, Bool.not_true, eH2, hC5, q5', q5, hC2]
              exact ⟨trivial, trivial, by first | trivial | rfl, by rw [hsp]⟩
            · have hC4 : decide (0 < c.st.length) = false := decide_eq_false hC2
              have hsp : badA c = false := by simp only [badA, hD2, hA, Bool.not_true, Bool.false_and, Bool.or_self, hH, hC3, hC4, Bool.and_false]
              repeat (refine W.seq ?_)
              refine W.plan (st := [(0, 0, false), (1, 1, false), (2, 3, false), (3, 7, false), (7, 15, false), (8, 143, false), (9, 399, true), (4, 15, false), (5, 31, false), (6, 63, false), (10, 1023, false), (11, 2047, false), (12, 4095, false), (13, 8191, false), (14, 16383, false), (15, 32767, true), (16, 65535, false), (17, 131071, false), (18, 262143, false), (19, 524287, false), (20, 1048575, false), (21, 2097151, false), (22, 4194303, false), (23, 8388607, false), (24, 16777215, false), (25, 33554431, false), (26, 67108863, true), (27, 134217727, false), (28, 268435455, false), (29, 536870911, false), (30, 1073741823, false), (31, 2147483647, false), (32, 4294967295, false), (33, 8589934591, false), (34, 17179869183, false), (35, 34359738367, false), (36, 68719476735, false), (37, 137438953471, false), (38, 274877906943, false), (39, 549755813887, false), (40, 1099511627775, false), (41, 2199023255551, false), (42, 4398046511103, false), (43, 8796093022207, false), (44, 17592186044415, false)]) (by kernel_rfl) ?_
              simp only [go_sem, goP, stableD, hD, Nat.reduceEqDiff, reduceIte, Nat.reduceLT, q1, Nat.reduceAdd, stab_cons, all1_cons, cell1, all1_nil, sameL_refl, stab_nil, Bool.or_true, loadA, loadC, ofCells, hgt, ecn, q4', q4, ne_eq, not_true_eq_false, q1', eL2, Bool.not_true, eH2, hC5, q5', q5, hC2]
              exact ⟨trivial, trivial, by first | trivial | rfl, by rw [hsp]⟩
        · rw [hH] at eH1 eH2
          have hH2 : decide (c.on ≠ []) = false := decide_eq_false fun h => h hH'
          by_cases hC : c.op = 9
          · have hC3 : decide (c.op ≠ 9) = false := decide_eq_false fun h => h hC
            have hC5 : decide (¬ c.op = 9) = false := hC3
            have hsp : badA c = false := by simp only [badA, hD2, hA, Bool.not_true, Bool.false_and, Bool.or_self, hH, Bool.not_false, hH2, Bool.and_false, hC3]
            repeat (refine W.seq ?_)
            refine W.plan (st := [(0, 0, false), (1, 1, false), (2, 3, false), (3, 7, false), (7, 15, false), (8, 143, false), (9, 399, true), (4, 15, false), (5, 31, false), (6, 63, false), (10, 1023, false), (11, 2047, false), (12, 4095, false), (13, 8191, false), (14, 16383, false), (15, 32767, true), (16, 65535, false), (17, 131071, false), (18, 262143, false), (19, 524287, false), (20, 1048575, false), (21, 2097151, false), (22, 4194303, false), (23, 8388607, false), (24, 16777215, false), (25, 33554431, false), (26, 67108863, true), (27, 134217727, false), (28, 268435455, false), (29, 536870911, false), (30, 1073741823, false), (31, 2147483647, false), (32, 4294967295, false), (33, 8589934591, false), (34, 17179869183, false), (35, 34359738367, false), (36, 68719476735, false), (37, 137438953471, false), (38, 274877906943, false), (39, 549755813887, false), (40, 1099511627775, false), (41, 2199023255551, false), (42, 4398046511103, false), (43, 8796093022207, false), (44, 17592186044415, false)]) (by kernel_rfl) ?_
            simp only [go_sem, goP, stableD, hH', hD, Nat.reduceEqDiff, reduceIte, Nat.reduceLT, q1, Nat.reduceAdd, stab_cons, all1_cons, cell1, all1_nil, sameL_refl, stab_nil, Bool.or_true, loadA, loadC, ofCells, hgt, ecn, q4', q4, ne_eq, not_true_eq_false, q1', eL2, Bool.not_true, eH2, Bool.not_false, q3', q3, hC5]
            exact ⟨trivial, trivial, by first | trivial | rfl, by rw [hsp]⟩
          · have hC3 : decide (c.op ≠ 9) = true := decide_eq_true hC
            have hC5 : decide (¬ c.op = 9) = true := hC3
            by_cases hC2 : 0 < c.st.length
            · have hC4 : decide (0 < c.st.length) = true := decide_eq_true hC2
              have hsp : badA c = true := by simp only [go_sem, badA, hD2, hA, Bool.not_true, Bool.false_and, Bool.or_self, hH, Bool.not_false, hH2, Bool.and_false, hC3, hC4, Bool.or_true]
              repeat (refine W.seq ?_)
              refine W.plan (st := [(0, 0, false), (1, 1, false), (2, 3, false), (3, 7, false), (7, 15, false), (8, 143, false), (9, 399, true), (4, 15, false), (5, 31, false), (6, 63, false), (10, 1023, false), (11, 2047, false), (12, 4095, false), (13, 8191, false), (14, 16383, false), (15, 32767, true), (16, 65535, false), (17, 131071, false), (18, 262143, false), (19, 524287, false), (20, 1048575, false), (21, 2097151, false), (22, 4194303, false), (23, 8388607, false), (24, 16777215, false), (25, 33554431, false), (26, 67108863, true), (27, 134217727, false), (28, 268435455, false), (29, 536870911, false), (30, 1073741823, false), (31, 2147483647, false), (32, 4294967295, false), (33, 8589934591, false), (34, 17179869183, false), (35, 34359738367, false), (36, 68719476735, false), (37, 137438953471, false), (38, 274877906943, false), (39, 549755813887, false), (40, 1099511627775, false), (41, 2199023255551, false), (42, 4398046511103, false), (43, 8796093022207, false), (44, 17592186044415, false)]) (by kernel_rfl) ?_
              simp only [go_sem, goP, stableD, hH', hD, Nat.reduceEqDiff, reduceIte, Nat.reduceLT, q1, Nat.reduceAdd, stab_cons, all1_cons, cell1, all1_nil, sameL_refl, stab_nil, Bool.or_true, loadA, loadC, ofCells, hgt, ecn, q4', q4, ne_eq, not_true_eq_false, q1', eL2, Bool.not_true, eH2, Bool.not_false, q3', q3, hC5, q5', q5, hC2]
              exact ⟨trivial, trivial, by first | trivial | rfl, by rw [hsp]⟩
            · have hC4 : decide (0 < c.st.length) = false := decide_eq_false hC2
              have hsp : badA c = false := by simp only [badA, hD2, hA, Bool.not_true, Bool.false_and, Bool.or_self, hH, Bool.not_false, hH2, Bool.and_false, hC3, hC4]
              repeat (refine W.seq ?_)
              refine W.plan (st := [(0, 0, false), (1, 1, false), (2, 3, false), (3, 7, false), (7, 15, false), (8, 143, false), (9, 399, true), (4, 15, false), (5, 31, false), (6, 63, false), (10, 1023, false), (11, 2047, false), (12, 4095, false), (13, 8191, false), (14, 16383, false), (15, 32767, true), (16, 65535, false), (17, 131071, false), (18, 262143, false), (19, 524287, false), (20, 1048575, false), (21, 2097151, false), (22, 4194303, false), (23, 8388607, false), (24, 16777215, false), (25, 33554431, false), (26, 67108863, true), (27, 134217727, false), (28, 268435455, false), (29, 536870911, false), (30, 1073741823, false), (31, 2147483647, false), (32, 4294967295, false), (33, 8589934591, false), (34, 17179869183, false), (35, 34359738367, false), (36, 68719476735, false), (37, 137438953471, false), (38, 274877906943, false), (39, 549755813887, false), (40, 1099511627775, false), (41, 2199023255551, false), (42, 4398046511103, false), (43, 8796093022207, false), (44, 17592186044415, false)]) (by kernel_rfl) ?_
              simp only [go_sem, goP, stableD, hH', hD, Nat.reduceEqDiff, reduceIte, Nat.reduceLT, q1, Nat.reduceAdd, stab_cons, all1_cons, cell1, all1_nil, sameL_refl, stab_nil, Bool.or_true, loadA, loadC, ofCells, hgt, ecn, q4', q4, ne_eq, not_true_eq_false, q1', eL2, Bool.not_true, eH2, Bool.not_false, q3', q3, hC5, q5', q5, hC2]
              exact ⟨trivial, trivial, by first | trivial | rfl, by rw [hsp]⟩
        · rw [hH] at eH1 eH2
          have hH2 : decide (c.on ≠ []) = true := decide_eq_true hH'
          have hsp : badA c = true := by simp only [go_sem, badA, hD2, hA, Bool.not_true, Bool.false_and, Bool.or_self, hH, Bool.not_false, hH2, Bool.or_true, Bool.true_or]
          repeat (refine W.seq ?_)
          refine W.plan (st := [(0, 0, false), (1, 1, false), (2, 3, false), (3, 7, false), (7, 15, false), (8, 143, false), (9, 399, true), (4, 15, false), (5, 31, false), (6, 63, false), (10, 1023, false), (11, 2047, false), (12, 4095, false), (13, 8191, false), (14, 16383, false), (15, 32767, true), (16, 65535, false), (17, 131071, false), (18, 262143, false), (19, 524287, false), (20, 1048575, false), (21, 2097151, false), (22, 4194303, false), (23, 8388607, false), (24, 16777215, false), (25, 33554431, false), (26, 67108863, true), (27, 134217727, false), (28, 268435455, false), (29, 536870911, false), (30, 1073741823, false), (31, 2147483647, false), (32, 4294967295, false), (33, 8589934591, false), (34, 17179869183, false), (35, 34359738367, false), (36, 68719476735, false), (37, 137438953471, false), (38, 274877906943, false), (39, 549755813887, false), (40, 1099511627775, false), (41, 2199023255551, false), (42, 4398046511103, false), (43, 8796093022207, false), (44, 17592186044415, false)]) (by kernel_rfl) ?_
          simp only [go_sem, goP, stableD, hD, Nat.reduceEqDiff, reduceIte, Nat.reduceLT, q1, Nat.reduceAdd, stab_cons, all1_cons, cell1, all1_nil, sameL_refl, stab_nil, Bool.or_true, loadA, loadC, ofCells, hgt, ecn, q4', q4, ne_eq, not_true_eq_false, q1', eL2, Bool.not_true, eH2, Bool.not_false, q3', q3, hH', not_false_eq_true]
          exact ⟨trivial, trivial, by first | trivial | rfl, by rw [hsp]⟩
      · rw [hA] at eL1 eL2
        have hA2 : decide (c.label ≠ []) = false := decide_eq_false fun h => h hA'
        rcases (show hasH c.op = true ∨ (hasH c.op = false ∧ c.on = []) ∨ (hasH c.op = false ∧ ¬ c.on = []) by cases hasH c.op <;> by_cases h : c.on = [] <;> simp [h]) with hH | ⟨hH, hH'⟩ | ⟨hH, hH'⟩
        · rw [hH] at eH1 eH2
          by_cases hC : c.op = 9
          · have hC3 : decide (c.op ≠ 9) = false := decide_eq_false fun h => h hC
            have hC5 : decide (¬ c.op = 9) = false := hC3
            have hsp : badA c = false := by simp only [badA, hD2, hA, Bool.not_false, hA2, Bool.and_false, Bool.or_self, hH, Bool.not_true, Bool.false_and, hC3]
            repeat (refine W.seq ?_)
            refine W.plan (st := [(0, 0, false), (1, 1, false), (2, 3, false), (3, 7, false), (7, 15, false), (8, 143, false), (9, 399, true), (4, 15, false), (5, 31, false), (6, 63, false), (10, 1023, false), (11, 2047, false), (12, 4095, false), (13, 8191, false), (14, 16383, false), (15, 32767, true), (16, 65535, false), (17, 131071, false), (18, 262143, false), (19, 524287, false), (20, 1048575, false), (21, 2097151, false), (22, 4194303, false), (23, 8388607, false), (24, 16777215, false), (25, 33554431, false), (26, 67108863, true), (27, 134217727, false), (28, 268435455, false), (29, 536870911, false), (30, 1073741823, false), (31, 2147483647, false), (32, 4294967295, false), (33, 8589934591, false), (34, 17179869183, false), (35, 34359738367, false), (36, 68719476735, false), (37, 137438953471, false), (38, 274877906943, false), (39, 549755813887, false), (40, 1099511627775, false), (41, 2199023255551, false), (42, 4398046511103, false), (43, 8796093022207, false), (44, 17592186044415, false)]) (by kernel_rfl) ?_
            simp only [go_sem, goP, stableD, hA', hD, Nat.reduceEqDiff, reduceIte, Nat.reduceLT, q1, Nat.reduceAdd, stab_cons, all1_cons, cell1, all1_nil, sameL_refl, stab_nil, Bool.or_true, loadA, loadC, ofCells, hgt, ecn, q4', q4, ne_eq, not_true_eq_false, q1', eL2, Bool.not_false, q2', q2, eH2, Bool.not_true, hC5]
            exact ⟨trivial, trivial, by first | trivial | rfl, by rw [hsp]⟩
          · have hC3 : decide (c.op ≠ 9) = true := decide_eq_true hC
            have hC5 : decide (¬ c.op = 9) = true := hC3
            by_cases hC2 : 0 < c.st.length
            · have hC4 : decide (0 < c.st.length) = true := decide_eq_true hC2
              have hsp : badA c = true := by simp only [go_sem, badA, hD2, hA, Bool.not_false, hA2, Bool.and_false, Bool.or_self, hH, Bool.not_true, Bool.false_and, hC3, hC4, Bool.or_true]
              repeat (refine W.seq ?_)
              refine W.plan (st := [(0, 0, false), (1, 1, false), (2, 3, false), (3, 7, false), (7, 15, false), (8, 143, false), (9, 399, true), (4, 15, false), (5, 31, false), (6, 63, false), (10, 1023, false), (11, 2047, false), (12, 4095, false), (13, 8191, false), (14, 16383, false), (15, 32767, true), (16, 65535, false), (17, 131071, false), (18, 262143, false), (19, 524287, false), (20, 1048575, false), (21, 2097151, false), (22, 4194303, false), (23, 8388607, false), (24, 16777215, false), (25, 33554431, false), (26, 67108863, true), (27, 134217727, false), (28, 268435455, false), (29, 536870911, false), (30, 1073741823, false), (31, 2147483647, false), (32, 4294967295, false), (33, 8589934591, false), (34, 17179869183, false), (35, 34359738367, false), (36, 68719476735, false), (37, 137438953471, false), (38, 274877906943, false), (39, 549755813887, false), (40, 1099511627775, false), (41, 2199023255551, false), (42, 4398046511103, false), (43, 8796093022207, false), (44, 17592186044415, false)]) (by kernel_rfl) ?_
              simp only [go_sem, goP, stableD, hA', hD, Nat.reduceEqDiff, reduceIte, Nat.reduceLT, q1, Nat.reduceAdd, stab_cons, all1_cons, cell1, all1_nil, sameL_refl, stab_nil, Bool.or_true, loadA, loadC, ofCells, hgt, ecn, q4', q4, ne_eq, not_true_eq_false, q1', eL2, Bool.not_false, q2', q2, eH2, Bool.not_true, hC5, q5', q5, hC2]
              exact ⟨trivial, trivial, by first | trivial | rfl, by rw [hsp]⟩
            · have hC4 : decide (0 < c.st.length) = false := decide_eq_false hC2
              have hsp : badA c = false := by simp only [badA, hD2, hA, Bool.not_false, hA2, Bool.and_false, Bool.or_self, hH, Bool.not_true, Bool.false_and, hC3, hC4]
              repeat (refine W.seq ?_)
              refine W.plan (st := [(0, 0, false), (1, 1, false), (2, 3, false), (3, 7, false), (7, 15, false), (8, 143, false), (9, 399, true), (4, 15, false), (5, 31, false), (6, 63, false), (10, 1023, false), (11, 2047, false), (12, 4095, false), (13, 8191, false), (14, 16383, false), (15, 32767, true), (16, 65535, false), (17, 131071, false), (18, 262143, false), (19, 524287, false), (20, 1048575, false), (21, 2097151, false), (22, 4194303, false), (23, 8388607, false), (24, 16777215, false), (25, 33554431, false), (26, 67108863, true), (27, 134217727, false), (28, 268435455, false), (29, 536870911, false), (30, 1073741823, false), (31, 2147483647, false), (32, 4294967295, false), (33, 8589934591, false), (34, 17179869183, false), (35, 34359738367, false), (36, 68719476735, false), (37, 137438953471, false), (38, 274877906943, false), (39, 549755813887, false), (40, 1099511627775, false), (41, 2199023255551, false), (42, 4398046511103, false), (43, 8796093022207, false), (44, 17592186044415, false)]) (by kernel_rfl) ?_
              simp only [go_sem, goP, stableD, hA', hD, Nat.reduceEqDiff, reduceIte, Nat.reduceLT, q1, Nat.reduceAdd, stab_cons, all1_cons, cell1, all1_nil, sameL_refl, stab_nil, Bool.or_true, loadA, loadC, ofCells, hgt, ecn, q4', q4, ne_eq, not_true_eq_false, q1', eL2, Bool.not_false, q2', q2, eH2, Bool.not_true, hC5, q5', q5, hC2]
              exact ⟨trivial, trivial, by first | trivial | rfl, by rw [hsp]⟩
        · rw [hH] at eH1 eH2
          have hH2 : decide (c.on ≠ []) = false := decide_eq_false fun h => h hH'
          by_cases hC : c.op = 9
          · have hC3 : decide (c.op ≠ 9) = false := decide_eq_false fun h => h hC
            have hC5 : decide (¬ c.op = 9) = false := hC3
            have hsp : badA c = false := by simp only [badA, hD2, hA, Bool.not_false, hA2, Bool.and_false, Bool.or_self, hH, hH2, hC3, Bool.false_and]
            repeat (refine W.seq ?_)
            refine W.plan (st := [(0, 0, false), (1, 1, false), (2, 3, false), (3, 7, false), (7, 15, false), (8, 143, false), (9, 399, true), (4, 15, false), (5, 31, false), (6, 63, false), (10, 1023, false), (11, 2047, false), (12, 4095, false), (13, 8191, false), (14, 16383, false), (15, 32767, true), (16, 65535, false), (17, 131071, false), (18, 262143, false), (19, 524287, false), (20, 1048575, false), (21, 2097151, false), (22, 4194303, false), (23, 8388607, false), (24, 16777215, false), (25, 33554431, false), (26, 67108863, true), (27, 134217727, false), (28, 268435455, false), (29, 536870911, false), (30, 1073741823, false), (31, 2147483647, false), (32, 4294967295, false), (33, 8589934591, false), (34, 17179869183, false), (35, 34359738367, false), (36, 68719476735, false), (37, 137438953471, false), (38, 274877906943, false), (39, 549755813887, false), (40, 1099511627775, false), (41, 2199023255551, false), (42, 4398046511103, false), (43, 8796093022207, false), (44, 17592186044415, false)]) (by kernel_rfl) ?_
            simp only [go_sem, goP, stableD, hA', hH', hD, Nat.reduceEqDiff, reduceIte, Nat.reduceLT, q1, Nat.reduceAdd, stab_cons, all1_cons, cell1, all1_nil, sameL_refl, stab_nil, Bool.or_true, loadA, loadC, ofCells, hgt, ecn, q4', q4, ne_eq, not_true_eq_false, q1', eL2, Bool.not_false, q2', q2, eH2, q3', q3, hC5]
            exact ⟨trivial, trivial, by first | trivial | rfl, by rw [hsp]⟩
          · have hC3 : decide (c.op ≠ 9) = true := decide_eq_true hC
            have hC5 : decide (¬ c.op = 9) = true := hC3
            by_cases hC2 : 0 < c.st.length
            · have hC4 : decide (0 < c.st.length) = true := decide_eq_true hC2
              have hsp : badA c = true := by simp only [go_sem, badA, hD2, hA, Bool.not_false, hA2, Bool.and_false, Bool.or_self, hH, hH2, hC3, hC4, Bool.or_true]
              repeat (refine W.seq ?_)
              refine W.plan (st := [(0, 0, false), (1, 1, false), (2, 3, false), (3, 7, false), (7, 15, false), (8, 143, false), (9, 399, true), (4, 15, false), (5, 31, false), (6, 63, false), (10, 1023, false), (11, 2047, false), (12, 4095, false), (13, 8191, false), (14, 16383, false), (15, 32767, true), (16, 65535, false), (17, 131071, false), (18, 262143, false), (19, 524287, false), (20, 1048575, false), (21, 2097151, false), (22, 4194303, false), (23, 8388607, false), (24, 16777215, false), (25, 33554431, false), (26, 67108863, true), (27, 134217727, false), (28, 268435455, false), (29, 536870911, false), (30, 1073741823, false), (31, 2147483647, false), (32, 4294967295, false), (33, 8589934591, false), (34, 17179869183, false), (35, 34359738367, false), (36, 68719476735, false), (37, 137438953471, false), (38, 274877906943, false), (39, 549755813887, false), (40, 1099511627775, false), (41, 2199023255551, false), (42, 4398046511103, false), (43, 8796093022207, false), (44, 17592186044415, false)]) (by kernel_rfl) ?_
              simp only [go_sem, goP, stableD, hA', hH', hD, Nat.reduceEqDiff, reduceIte, Nat.reduceLT, q1, Nat.reduceAdd, stab_cons, all1_cons, cell1, all1_nil, sameL_refl, stab_nil, Bool.or_true, loadA, loadC, ofCells, hgt, ecn, q4', q4, ne_eq, not_true_eq_false, q1', eL2, Bool.not_false, q2', q2, eH2, q3', q3, hC5, q5', q5, hC2]
              exact ⟨trivial, trivial, by first | trivial | rfl, by rw [hsp]⟩
            · have hC4 : decide (0 < c.st.length) = false := decide_eq_false hC2
              have hsp : badA c = false := by simp only [badA, hD2, hA, Bool.not_false, hA2, Bool.and_false, Bool.or_self, hH, hH2, hC3, hC4]
              repeat (refine W.seq ?_)
              refine W.plan (st := [(0, 0, false), (1, 1, false), (2, 3, false), (3, 7, false), (7, 15, false), (8, 143, false), (9, 399, true), (4, 15, false), (5, 31, false), (6, 63, false), (10, 1023, false), (11, 2047, false), (12, 4095, false), (13, 8191, false), (14, 16383, false), (15, 32767, true), (16, 65535, false), (17, 131071, false), (18, 262143, false), (19, 524287, false), (20, 1048575, false), (21, 2097151, false), (22, 4194303, false), (23, 8388607, false), (24, 16777215, false), (25, 33554431, false), (26, 67108863, true), (27, 134217727, false), (28, 268435455, false), (29, 536870911, false), (30, 1073741823, false), (31, 2147483647, false), (32, 4294967295, false), (33, 8589934591, false), (34, 17179869183, false), (35, 34359738367, false), (36, 68719476735, false), (37, 137438953471, false), (38, 274877906943, false), (39, 549755813887, false), (40, 1099511627775, false), (41, 2199023255551, false), (42, 4398046511103, false), (43, 8796093022207, false), (44, 17592186044415, false)]) (by kernel_rfl) ?_
              simp only [go_sem, goP, stableD, hA', hH', hD, Nat.reduceEqDiff, reduceIte, Nat.reduceLT, q1, Nat.reduceAdd, stab_cons, all1_cons, cell1, all1_nil, sameL_refl, stab_nil, Bool.or_true, loadA, loadC, ofCells, hgt, ecn, q4', q4, ne_eq, not_true_eq_false, q1', eL2, Bool.not_false, q2', q2, eH2, q3', q3, hC5, q5', q5, hC2]
              exact ⟨trivial, trivial, by first | trivial | rfl, by rw [hsp]⟩
        · rw [hH] at eH1 eH2
          have hH2 : decide (c.on ≠ []) = true := decide_eq_true hH'
          have hsp : badA c = true := by simp only [go_sem, badA, hD2, hA, Bool.not_false, hA2, Bool.and_false, Bool.or_self, hH, hH2, Bool.or_true, Bool.true_or]
          repeat (refine W.seq ?_)
          refine W.plan (st := [(0, 0, false), (1, 1, false), (2, 3, false), (3, 7, false), (7, 15, false), (8, 143, false), (9, 399, true), (4, 15, false), (5, 31, false), (6, 63, false), (10, 1023, false), (11, 2047, false), (12, 4095, false), (13, 8191, false), (14, 16383, false), (15, 32767, true), (16, 65535, false), (17, 131071, false), (18, 262143, false), (19, 524287, false), (20, 1048575, false), (21, 2097151, false), (22, 4194303, false), (23, 8388607, false), (24, 16777215, false), (25, 33554431, false), (26, 67108863, true), (27, 134217727, false), (28, 268435455, false), (29, 536870911, false), (30, 1073741823, false), (31, 2147483647, false), (32, 4294967295, false), (33, 8589934591, false), (34, 17179869183, false), (35, 34359738367, false), (36, 68719476735, false), (37, 137438953471, false), (38, 274877906943, false), (39, 549755813887, false), (40, 1099511627775, false), (41, 2199023255551, false), (42, 4398046511103, false), (43, 8796093022207, false), (44, 17592186044415, false)]) (by kernel_rfl) ?_
          simp only [go_sem, goP, stableD, hA', hD, Nat.reduceEqDiff, reduceIte, Nat.reduceLT, q1, Nat.reduceAdd, stab_cons, all1_cons, cell1, all1_nil, sameL_refl, stab_nil, Bool.or_true, loadA, loadC, ofCells, hgt, ecn, q4', q4, ne_eq, not_true_eq_false, q1', eL2, Bool.not_false, q2', q2, eH2, q3', q3, hH', not_false_eq_true]
          exact ⟨trivial, trivial, by first | trivial | rfl, by rw [hsp]⟩
      · rw [hA] at eL1 eL2
        have hA2 : decide (c.label ≠ []) = true := decide_eq_true hA'
        have hsp : badA c = true := by simp only [go_sem, badA, hD2, hA, Bool.not_false, hA2, Bool.or_true, Bool.true_or]
        repeat (refine W.seq ?_)
        refine W.plan (st := [(0, 0, false), (1, 1, false), (2, 3, false), (3, 7, false), (7, 15, false), (8, 143, false), (9, 399, true), (4, 15, false), (5, 31, false), (6, 63, false), (10, 1023, false), (11, 2047, false), (12, 4095, false), (13, 8191, false), (14, 16383, false), (15, 32767, true), (16, 65535, false), (17, 131071, false), (18, 262143, false), (19, 524287, false), (20, 1048575, false), (21, 2097151, false), (22, 4194303, false), (23, 8388607, false), (24, 16777215, false), (25, 33554431, false), (26, 67108863, true), (27, 134217727, false), (28, 268435455, false), (29, 536870911, false), (30, 1073741823, false), (31, 2147483647, false), (32, 4294967295, false), (33, 8589934591, false), (34, 17179869183, false), (35, 34359738367, false), (36, 68719476735, false), (37, 137438953471, false), (38, 274877906943, false), (39, 549755813887, false), (40, 1099511627775, false), (41, 2199023255551, false), (42, 4398046511103, false), (43, 8796093022207, false), (44, 17592186044415, false)]) (by kernel_rfl) ?_
        simp only [go_sem, goP, stableD, hD, Nat.reduceEqDiff, reduceIte, Nat.reduceLT, q1, Nat.reduceAdd, stab_cons, all1_cons, cell1, all1_nil, sameL_refl, stab_nil, Bool.or_true, loadA, loadC, ofCells, hgt, ecn, q4', q4, ne_eq, not_true_eq_false, q1', eL2, Bool.not_false, q2', q2, hA', not_false_eq_true]
        exact ⟨trivial, trivial, by first | trivial | rfl, by rw [hsp]⟩
    · have hD2 : decide (c.n.length ≠ countL.getD c.op 0) = true := decide_eq_true hD
      have hsp : badA c = true := by simp only [badA, hD2, Bool.true_or]
      repeat (refine W.seq ?_)
      refine W.plan (st := [(0, 0, false), (1, 1, false), (2, 3, false), (3, 7, false), (7, 15, false), (8, 143, false), (9, 399, true), (4, 15, false), (5, 31, false), (6, 63, false), (10, 1023, false), (11, 2047, false), (12, 4095, false), (13, 8191, false), (14, 16383, false), (15, 32767, true), (16, 65535, false), (17, 131071, false), (18, 262143, false), (19, 524287, false), (20, 1048575, false), (21, 2097151, false), (22, 4194303, false), (23, 8388607, false), (24, 16777215, false), (25, 33554431, false), (26, 67108863, true), (27, 134217727, false), (28, 268435455, false), (29, 536870911, false), (30, 1073741823, false), (31, 2147483647, false), (32, 4294967295, false), (33, 8589934591, false), (34, 17179869183, false), (35, 34359738367, false), (36, 68719476735, false), (37, 137438953471, false), (38, 274877906943, false), (39, 549755813887, false), (40, 1099511627775, false), (41, 2199023255551, false), (42, 4398046511103, false), (43, 8796093022207, false), (44, 17592186044415, false)]) (by kernel_rfl) ?_
      simp only [go_sem, goP, stableD, Nat.reduceEqDiff, reduceIte, Nat.reduceLT, q1, Nat.reduceAdd, stab_cons, all1_cons, cell1, all1_nil, sameL_refl, stab_nil, Bool.or_true, loadA, loadC, ofCells, hgt, ecn, q4', q4, ne_eq, hD, not_false_eq_true]
      exact ⟨trivial, trivial, by first | trivial | rfl, by rw [hsp]⟩
  intro a hz ⟨hn, hzz, g1, g53⟩
  subst hzz
  clear q1 q2 q3 q4 q5 q1' q2' q3' q4' q5' ecn eL1 eL2 eH1 eH2
  cases hbA : badA c with
  | true =>
    rw [hbA] at g53
    repeat (refine W.seq ?_)
    refine W.cond2 ?_
    simp only [go_sem, g53]
    refine ⟨fun _ => ?_, fun hc => (by simp at hc)⟩
    repeat (refine W.seq ?_)
    refine W.reg0 ?_
    simp only [go_sem, hn, Nat.reduceLT]
    repeat (refine W.seq ?_)
    refine W.ret ?_
    simp only [go_sem, outW, resultA, resA, Nat.reduceEqDiff, reduceIte]
    have hno : lineOK c = false := by rw [lineOK_eq hop12, hbA]; simp
    rw [hno]
    exact ⟨trivial, _, rfl, hg1.trans hg2, rfl⟩
  | false =>
  rw [hbA] at g53
  have eL : callS (EX X) 70 [.int .u8 (Int.ofNat c.op)] hz = some (.bool (hasL c.op), hz) := x_label px c.op hz
  have eH : callS (EX X) 71 [.int .u8 (Int.ofNat c.op)] hz = some (.bool (hasH c.op), hz) := x_named px c.op hz
  have p1 := rc hg2 1 _ rfl
  have p2 := rc hg2 2 _ rfl
  have p3 := rc hg2 3 _ rfl
  obtain ⟨_, _, eWl, e1, e2⟩ := x_rwhole pp c.label (by have := hB.label; omega) hz
  rw [e1, e2] at eWl
  obtain ⟨_, _, eWo, e1, e2⟩ := x_rwhole pp c.on (by have := hB.on; omega) hz
  rw [e1, e2] at eWo
  repeat (refine W.seq ?_)
  refine W.cond2 ?_
  simp only [go_sem, g53]
  refine ⟨fun hc => (by simp at hc), fun _ => ?_⟩
  repeat (refine W.seq ?_)
  refine W.skip ?_
  simp only [go_sem]
  refine W.seq ?_
  refine W.cut (fun a hy => a.n = 135 ∧ hy = hz ∧ a.m.get 1 = some (.pointer (some ⟨h.next, 0, none⟩)) ∧ a.m.get 79 = some (.bool (badB c))) ?_ ?_
  · skip
    cases hA : hasL c.op with
    | false =>
      rw [hA] at eL
      cases hH : hasH c.op with
      | false =>
        rw [hH] at eH
        have hsp : badB c = false := by simp only [badB, hA, Bool.false_and, hH, Bool.or_self]
        repeat (refine W.seq ?_)
        refine W.reg0 ?_
        simp only [go_sem, g1, hn, Nat.reduceLT, reduceIte, loadA, loadC, p1, ofCells, Nat.reduceEqDiff, eL, eH]
        exact ⟨trivial, trivial, by first | trivial | exact g1, by rw [hsp]⟩
      | true =>
        rw [hH] at eH
        cases hWo : wholeB c.on with
        | true =>
          rw [hWo] at eWo
          have hsp : badB c = false := by simp only [badB, hA, Bool.false_and, hH, hWo, Bool.not_true, Bool.and_false, Bool.or_self]
          repeat (refine W.seq ?_)
          refine W.reg0 ?_
          simp only [go_sem, g1, hn, Nat.reduceLT, reduceIte, loadA, loadC, p1, ofCells, Nat.reduceEqDiff, eL, eH, p3, eWo, Bool.not_true]
          exact ⟨trivial, trivial, by first | trivial | exact g1, by rw [hsp]⟩
        | false =>
          rw [hWo] at eWo
          have hsp : badB c = true := by simp only [go_sem, badB, hA, Bool.false_and, hH, hWo, Bool.not_false, Bool.or_true]
          repeat (refine W.seq ?_)
          refine W.reg0 ?_
          simp only [go_sem, g1, hn, Nat.reduceLT, reduceIte, loadA, loadC, p1, ofCells, Nat.reduceEqDiff, eL, eH, p3, eWo, Bool.not_false]
          exact ⟨trivial, trivial, by first | trivial | exact g1, by rw [hsp]⟩
    | true =>
      rw [hA] at eL
      cases hWl : wholeB c.label with
      | false =>
        rw [hWl] at eWl
        have hsp : badB c = true := by simp only [go_sem, badB, hA, hWl, Bool.not_false, Bool.true_or]
        repeat (refine W.seq ?_)
        refine W.reg0 ?_
        simp only [go_sem, g1, hn, Nat.reduceLT, reduceIte, loadA, loadC, p1, ofCells, Nat.reduceEqDiff, eL, p2, eWl, Bool.not_false]
        exact ⟨trivial, trivial, by first | trivial | exact g1, by rw [hsp]⟩
      | true =>
        rw [hWl] at eWl
        by_cases hE : 16 < c.label.length
        · have hE2 : decide (16 < c.label.length) = true := decide_eq_true hE
          have hsp : badB c = true := by simp only [go_sem, badB, hA, hWl, Bool.not_true, hE2, Bool.or_true, Bool.true_or]
          repeat (refine W.seq ?_)
          refine W.reg0 ?_
          simp only [go_sem, g1, hn, Nat.reduceLT, reduceIte, loadA, loadC, p1, ofCells, Nat.reduceEqDiff, eL, p2, eWl, Bool.not_true, hszl, hE]
          exact ⟨trivial, trivial, by first | trivial | exact g1, by rw [hsp]⟩
        · have hE2 : decide (16 < c.label.length) = false := decide_eq_false hE
          cases hH : hasH c.op with
          | false =>
            rw [hH] at eH
            have hsp : badB c = false := by simp only [badB, hA, hWl, Bool.not_true, hE2, Bool.or_self, Bool.and_false, hH, Bool.false_and]
            repeat (refine W.seq ?_)
            refine W.reg0 ?_
            simp only [go_sem, g1, hn, Nat.reduceLT, reduceIte, loadA, loadC, p1, ofCells, Nat.reduceEqDiff, eL, p2, eWl, Bool.not_true, hszl, hE, eH]
            exact ⟨trivial, trivial, by first | trivial | exact g1, by rw [hsp]⟩
          | true =>
            rw [hH] at eH
            cases hWo : wholeB c.on with
            | true =>
              rw [hWo] at eWo
              have hsp : badB c = false := by simp only [badB, hA, hWl, Bool.not_true, hE2, Bool.or_self, Bool.and_false, hH, hWo]
              repeat (refine W.seq ?_)
              refine W.reg0 ?_
              simp only [go_sem, g1, hn, Nat.reduceLT, reduceIte, loadA, loadC, p1, ofCells, Nat.reduceEqDiff, eL, p2, eWl, Bool.not_true, hszl, hE, eH, p3, eWo]
              exact ⟨trivial, trivial, by first | trivial | exact g1, by rw [hsp]⟩
            | false =>
              rw [hWo] at eWo
              have hsp : badB c = true := by simp only [go_sem, badB, hA, hWl, Bool.not_true, hE2, Bool.or_self, Bool.and_false, hH, hWo, Bool.not_false, Bool.or_true]
              repeat (refine W.seq ?_)
              refine W.reg0 ?_
              simp only [go_sem, g1, hn, Nat.reduceLT, reduceIte, loadA, loadC, p1, ofCells, Nat.reduceEqDiff, eL, p2, eWl, Bool.not_true, hszl, hE, eH, p3, eWo, Bool.not_false]
              exact ⟨trivial, trivial, by first | trivial | exact g1, by rw [hsp]⟩
  clear g1 g53 hn a
  intro a hy ⟨hn, hyy, g1, g79⟩
  subst hyy
  cases hbB : badB c with
  | true =>
    rw [hbB] at g79
    repeat (refine W.seq ?_)
    refine W.cond2 ?_
    simp only [go_sem, g79]
    refine ⟨fun _ => ?_, fun hc => (by simp at hc)⟩
    repeat (refine W.seq ?_)
    refine W.reg0 ?_
    simp only [go_sem, hn, Nat.reduceLT]
    repeat (refine W.seq ?_)
    refine W.ret ?_
    simp only [go_sem, outW, resultA, resA, Nat.reduceEqDiff, reduceIte]
    have hno : lineOK c = false := by rw [lineOK_eq hop12, hbB]; simp
    rw [hno]
    exact ⟨trivial, _, rfl, hg1.trans hg2, rfl⟩
  | false =>
  rw [hbB] at g79
  have hok : lineOK c = stOK c := by rw [lineOK_eq hop12, hbA, hbB]; simp
  repeat (refine W.seq ?_)
  refine W.cond2 ?_
  simp only [go_sem, g79]
  refine ⟨fun hc => (by simp at hc), fun _ => ?_⟩
  repeat (refine W.seq ?_)
  refine W.skip ?_
  simp only [go_sem]
  obtain ⟨_, h3, e3, hg3, rfl⟩ := x_wordOf px c.op hop12 hy
  have hg13 : Grows h1 h3 := hg2.trans hg3
  clear eL eH eWl eWo p2 p3 hszl
  have hfw := form_w c.op hop12
  have hlb := hB.label
  have hob := hB.on
  repeat (refine W.seq ?_)
  refine W.reg0 ?_
  simp only [go_sem, g1, hn, Nat.reduceLT, reduceIte, loadA, loadC, p1, ofCells, Nat.reduceEqDiff, e3]
  have p1 := rc hg13 1 _ rfl
  have p2 := rc hg13 2 _ rfl
  have p3 := rc hg13 3 _ rfl
  have p5 := rc hg13 5 _ rfl
  have p4 := rc hg13 4 _ rfl
  have eL : callS (EX X) 70 [.int .u8 (Int.ofNat c.op)] h3 = some (.bool (hasL c.op), h3) := x_label px c.op h3
  have eH : callS (EX X) 71 [.int .u8 (Int.ofNat c.op)] h3 = some (.bool (hasH c.op), h3) := x_named px c.op h3
  have j1 : ∀ w : List UInt8, joinL [w] = w := fun w => by simp [joinL]
  have j2 : ∀ w x : List UInt8, joinL [w, x] = (w ++ [32]) ++ x := fun w x => by simp [joinL]
  refine W.cut (fun a hh => a.n = 135 ∧ hh = h3 ∧ a.m.get 1 = some (.pointer (some ⟨h.next, 0, none⟩)) ∧ a.m.get 4 = some (.string (bsOf (joinL (formW.getD c.op [] :: (if hasL c.op then [c.label] else [])))))) ?_ ?_
  · cases hL : hasL c.op with
    | true =>
      rw [hL] at eL
      have s1 := str_cat (bsOf (formW.getD c.op [])) ⟨#[32]⟩ (by rw [bsOf_list]; show _ + 1 ≤ _; omega)
      have s2 := str_cat (bsOf (formW.getD c.op [] ++ [32])) (bsOf c.label) (by rw [bsOf_list, bsOf_list, List.length_append]; show _ + 1 + _ ≤ _; omega)
      simp only [go_sem] at s1 s2
      repeat (refine W.seq ?_)
      refine W.reg0 ?_
      simp only [go_sem, Nat.reduceEqDiff, g1, reduceIte, Nat.reduceLT, loadA, loadC, p1, ofCells, eL]
      repeat (refine W.seq ?_)
      refine W.cond2 ?_
      simp only [go_sem, Nat.reduceEqDiff, reduceIte]
      refine ⟨fun _ => ?_, fun hc => (by simp at hc)⟩
      repeat (refine W.seq ?_)
      refine W.reg0 ?_
      simp only [go_sem, Nat.reduceEqDiff, reduceIte, Nat.reduceLT, s1, g1, loadA, loadC, p2, ofCells, s2]
      exact ⟨trivial, trivial, by first | trivial | exact g1, by rw [j2]⟩
    | false =>
      rw [hL] at eL
      repeat (refine W.seq ?_)
      refine W.reg0 ?_
      simp only [go_sem, Nat.reduceEqDiff, g1, reduceIte, Nat.reduceLT, loadA, loadC, p1, ofCells, eL]
      repeat (refine W.seq ?_)
      refine W.cond2 ?_
      simp only [go_sem, Nat.reduceEqDiff, reduceIte]
      refine ⟨fun hc => (by simp at hc), fun _ => ?_⟩
      repeat (refine W.seq ?_)
      refine W.skip ?_
      simp only [go_sem, Nat.reduceEqDiff, reduceIte]
      exact ⟨trivial, trivial, by first | trivial | exact g1, by rw [if_neg (by simp), j1]⟩
  clear hn g1 a g79
  intro a hx ⟨hn, hxx, g1, g4⟩
  subst hxx
  have hWl : ∀ w ∈ (formW.getD c.op [] :: (if hasL c.op then [c.label] else [])), w.length ≤ 100000 := by
    intro w hw
    simp only [List.mem_cons] at hw
    rcases hw with rfl | hw
    · omega
    · split at hw
      · simp only [List.mem_cons, List.not_mem_nil, or_false] at hw; subst hw; omega
      · simp at hw
  have hWj := joinL_len _ hWl
  have hWn : (formW.getD c.op [] :: (if hasL c.op then [c.label] else [])).length ≤ 2 := by split <;> simp
  have hW : (joinL (formW.getD c.op [] :: (if hasL c.op then [c.label] else []))).length ≤ 200002 := Nat.le_trans hWj (Nat.mul_le_mul_right 100001 hWn)
  have hHd : headW c = (formW.getD c.op [] :: (if hasL c.op then [c.label] else [])) ++ (if hasH c.op then [c.on] else []) := rfl
  refine W.cut (fun a hh => a.n = 135 ∧ hh = hx ∧ a.m.get 1 = some (.pointer (some ⟨h.next, 0, none⟩)) ∧ a.m.get 4 = some (.string (bsOf (joinL (headW c))))) ?_ ?_
  · rw [hHd]
    generalize hws : (if hasL c.op then [c.label] else []) = ws at hW g4
    cases hH : hasH c.op with
    | true =>
      rw [hH] at eH
      have s1 := str_cat (bsOf (joinL (formW.getD c.op [] :: ws))) ⟨#[32]⟩ (by rw [bsOf_list]; show _ + 1 ≤ _; omega)
      have s2 := str_cat (bsOf (joinL (formW.getD c.op [] :: ws) ++ [32])) (bsOf c.on) (by rw [bsOf_list, bsOf_list, List.length_append]; show _ + 1 + _ ≤ _; omega)
      simp only [go_sem] at s1 s2
      repeat (refine W.seq ?_)
      refine W.reg0 ?_
      simp only [go_sem, g1, hn, Nat.reduceLT, reduceIte, loadA, loadC, p1, ofCells, Nat.reduceEqDiff, eH]
      repeat (refine W.seq ?_)
      refine W.cond2 ?_
      simp only [go_sem, Nat.reduceEqDiff, reduceIte]
      refine ⟨fun _ => ?_, fun hc => (by simp at hc)⟩
      repeat (refine W.seq ?_)
      refine W.reg0 ?_
      simp only [go_sem, Nat.reduceEqDiff, g4, reduceIte, Nat.reduceLT, s1, g1, loadA, loadC, p3, ofCells, s2]
      exact ⟨trivial, trivial, by first | trivial | exact g1, by rw [← List.cons_append, joinL_snoc]⟩
    | false =>
      rw [hH] at eH
      repeat (refine W.seq ?_)
      refine W.reg0 ?_
      simp only [go_sem, g1, hn, Nat.reduceLT, reduceIte, loadA, loadC, p1, ofCells, Nat.reduceEqDiff, eH]
      repeat (refine W.seq ?_)
      refine W.cond2 ?_
      simp only [go_sem, Nat.reduceEqDiff, reduceIte]
      refine ⟨fun hc => (by simp at hc), fun _ => ?_⟩
      repeat (refine W.seq ?_)
      refine W.skip ?_
      simp only [go_sem, Nat.reduceEqDiff, reduceIte]
      exact ⟨trivial, trivial, by first | trivial | exact g1, by rw [if_neg (by simp), List.append_nil]; first | trivial | exact g4⟩
  clear hn g1 g4 a
  intro a hx2 ⟨hn, hxx, g1, g4⟩
  subst hxx
  have hHl : (joinL (headW c)).length ≤ 400000 := by
    have h1 : ∀ w ∈ headW c, w.length ≤ 100000 := by
      intro w hw
      rw [hHd] at hw
      rcases List.mem_append.1 hw with hw | hw
      · exact hWl w hw
      · split at hw
        · simp only [List.mem_cons, List.not_mem_nil, or_false] at hw; subst hw; omega
        · simp at hw
    have h2 : (headW c).length ≤ 3 := by unfold headW; split <;> split <;> simp
    have h3 := Nat.mul_le_mul_right 100001 h2
    have h4 := joinL_len _ h1
    omega
  refine W.cut (fun a hh => a.n = 135 ∧ Grows h1 hh ∧ a.m.get 1 = some (.pointer (some ⟨h.next, 0, none⟩)) ∧ a.m.get 4 = some (.string (bsOf (joinL (headW c) ++ catL (c.st.map stN)))) ∧ stOK c = true) ?_ ?_
  · repeat (refine W.seq ?_)
    refine W.reg0 ?_
    simp only [go_sem, g1, hn, Nat.reduceLT, reduceIte, loadA, loadC, p5, ofCells, Nat.reduceEqDiff]
    repeat (refine W.seq ?_)
    refine W.block ?_
    refine W.loop_inv (fun k a hh => ∃ i T, k = c.st.length - i ∧ i ≤ c.st.length ∧ a.n = 135 ∧ Grows h1 hh ∧ a.m.get 1 = some (.pointer (some ⟨h.next, 0, none⟩)) ∧ a.m.get 4 = some (.string (bsOf T)) ∧
      a.m.get 100 = some (.slice pS c.st.length sS) ∧ a.m.get 101 = some (.int .i64 (.ofNat c.st.length)) ∧ a.m.get 102 = some (.int .i64 (.ofNat i)) ∧ T = joinL (headW c) ++ catL ((c.st.take i).map stN) ∧ T.length ≤ 400000 + i * 100001 ∧ (c.st.take i).all (fun s => decide (1 ≤ s ∧ s ≤ 3)) = true) ?_ c.st.length _ _ ?_
    · clear g1 g4 hn a
      intro k a hh ⟨i, T, hk, hi, hn, hg, g1, g4, g100, g101, g102, hT, hTl, hall⟩
      repeat (refine W.seq ?_)
      refine W.reg0 ?_
      simp only [go_sem, g102, g101, hn, Nat.reduceLT]
      repeat (refine W.seq ?_)
      refine W.cond2 ?_
      simp only [go_sem, reduceIte]
      refine ⟨fun hlt => ?_, fun hge => ?_⟩
      · obtain ⟨rfl, o, off, rfl, hrd⟩ := (hS.grows (hg1.trans hg)).at (u8C_at hlt)
        have hmem : c.st[i] ∈ c.st := List.getElem_mem hlt
        have hs256 := hB.st _ hmem
        have hts : c.st.take (i + 1) = c.st.take i ++ [c.st[i]] := by rw [List.take_add_one, List.getElem?_eq_getElem hlt]; rfl
        have hbad : ¬ (1 ≤ c.st[i] ∧ c.st[i] ≤ 3) → lineOK c = false := fun hnb => by
          have : stOK c = false := by
            unfold stOK
            rw [List.all_eq_false]
            exact ⟨_, hmem, by simpa using hnb⟩
          rw [hok, this]
        generalize c.st[i] = s at hrd hs256 hts hbad
        repeat (refine W.seq ?_)
        refine W.skip ?_
        simp only [go_sem]
        repeat (refine W.seq ?_)
        refine W.block ?_
        repeat (refine W.seq ?_)
        refine W.reg0 ?_
        simp only [go_sem, hlt, Nat.reduceEqDiff, g100, reduceIte, g102, Nat.reduceLT, loadA, loadC, hrd, ofCells]
        by_cases h1' : s < 1
        · repeat (refine W.seq ?_)
          refine W.reg0 ?_
          simp only [go_sem, Nat.reduceEqDiff, reduceIte, Nat.reduceLT, h1']
          repeat (refine W.seq ?_)
          refine W.cond2 ?_
          simp only [go_sem, Nat.reduceEqDiff, reduceIte]
          refine ⟨fun _ => ?_, fun hc => (by simp at hc)⟩
          repeat (refine W.seq ?_)
          refine W.reg0 ?_
          simp only [go_sem, Nat.reduceLT]
          repeat (refine W.seq ?_)
          refine W.ret ?_
          simp only [go_sem, outW, resultA, resA, Nat.reduceEqDiff, reduceIte]
          rw [hbad (by omega)]
          exact ⟨trivial, _, rfl, hg1.trans hg, rfl⟩
        by_cases h3' : 3 < s
        · repeat (refine W.seq ?_)
          refine W.reg0 ?_
          simp only [go_sem, Nat.reduceEqDiff, reduceIte, Nat.reduceLT, h1', h3']
          repeat (refine W.seq ?_)
          refine W.cond2 ?_
          simp only [go_sem, Nat.reduceEqDiff, reduceIte]
          refine ⟨fun _ => ?_, fun hc => (by simp at hc)⟩
          repeat (refine W.seq ?_)
          refine W.reg0 ?_
          simp only [go_sem, Nat.reduceLT]
          repeat (refine W.seq ?_)
          refine W.ret ?_
          simp only [go_sem, outW, resultA, resA, Nat.reduceEqDiff, reduceIte]
          rw [hbad (by omega)]
          exact ⟨trivial, _, rfl, hg1.trans hg, rfl⟩
        repeat (refine W.seq ?_)
        refine W.reg0 ?_
        simp only [go_sem, Nat.reduceEqDiff, reduceIte, Nat.reduceLT, h1', h3']
        repeat (refine W.seq ?_)
        refine W.cond2 ?_
        simp only [go_sem, Nat.reduceEqDiff, reduceIte]
        refine ⟨fun hc => (by simp at hc), fun _ => ?_⟩
        repeat (refine W.seq ?_)
        refine W.skip ?_
        simp only [go_sem]
        have hs4 : s < 4 := by omega
        have hs0 : ∀ x, x < 4 → 1 ≤ x → ([.string ⟨#[]⟩, .string ⟨#[114, 117, 110, 110, 97, 98, 108, 101]⟩, .string ⟨#[108, 105, 110, 103, 101, 114, 105, 110, 103]⟩, .string ⟨#[115, 108, 101, 101, 112, 105, 110, 103]⟩] : List Value)[x]? = some (.string (bsOf (stN x))) := by
          intro x hx hx1
          have : x = 1 ∨ x = 2 ∨ x = 3 := by omega
          rcases this with rfl | rfl | rfl <;> rfl
        have hgx : Grows hh (hh.new (.cells [.string ⟨#[]⟩, .string ⟨#[114, 117, 110, 110, 97, 98, 108, 101]⟩, .string ⟨#[108, 105, 110, 103, 101, 114, 105, 110, 103]⟩, .string ⟨#[115, 108, 101, 101, 112, 105, 110, 103]⟩] 9)) := (Grows.refl hh).new _
        have hrs : rd (hh.new (.cells [.string ⟨#[]⟩, .string ⟨#[114, 117, 110, 110, 97, 98, 108, 101]⟩, .string ⟨#[108, 105, 110, 103, 101, 114, 105, 110, 103]⟩, .string ⟨#[115, 108, 101, 101, 112, 105, 110, 103]⟩] 9)) hh.next s 1 = some [.string (bsOf (stN s))] := by
          refine rd_get (H.get_new' _ _) (seg_one _ _ _ (hs0 s hs4 (by omega)))
        have hstl := hB.stl
        have hwl : (stN s).length ≤ 90000 := by
          have := st_w (s - 1) (by omega)
          exact this
        have s1 := str_cat (bsOf T) ⟨#[32]⟩ (by rw [bsOf_list]; show _ + 1 ≤ _; omega)
        have s2 := str_cat (bsOf (T ++ [32])) (bsOf (stN s)) (by rw [bsOf_list, bsOf_list, List.length_append]; show _ + 1 + _ ≤ _; omega)
        simp only [go_sem] at s1 s2
        repeat (refine W.seq ?_)
        refine W.reg0 ?_
        simp only [go_sem, Nat.reduceEqDiff, g4, reduceIte, Nat.reduceLT, s1, Nat.reduceLeDiff, hs4, loadA, loadC, hrs, ofCells, s2]
        repeat (refine W.seq ?_)
        refine W.reg0 ?_
        simp only [go_sem, Nat.reduceEqDiff, g102, reduceIte, inc_nat (show i + 1 ≤ 9223372036854775807 by omega), Nat.reduceLT]
        refine ⟨c.st.length - (i + 1), by omega, i + 1, (T ++ [32]) ++ stN s, rfl, by omega, ?_⟩
        simp only [g1, g100, g101]
        refine ⟨trivial, hg.trans hgx, trivial, trivial, trivial, trivial, trivial, ?_, ?_, ?_⟩
        · rw [hts, List.map_append, List.map_cons, List.map_nil, catL_snoc, hT]; simp only [List.append_assoc]
        · rw [List.length_append, List.length_append]; show _ + 1 + _ ≤ _; omega
        · rw [hts, List.all_append, hall]; simp; omega
      · have hi' : i = c.st.length := by omega
        subst hi'
        rw [List.take_of_length_le (Nat.le_refl _)] at hT hall
        repeat (refine W.seq ?_)
        refine W.exit ?_
        simp only [go_sem, Nat.reduceEqDiff, reduceIte]
        exact ⟨by first | trivial | exact hn, hg, by first | trivial | exact g1, by first | (rw [g4, hT]) | (rw [hT]), hall⟩
    · simp only [go_sem, Nat.reduceEqDiff, g1, reduceIte, g4]
      refine ⟨0, _, rfl, Nat.zero_le _, trivial, hg13, (by first | trivial | rfl), rfl, (by first | trivial | rfl), (by first | trivial | rfl), (by first | trivial | rfl), by simp [catL], by omega, rfl⟩
  clear g1 g4 hn a
  intro a h5 ⟨hn, hg5, g1, g4, hst⟩
  have p4 := rc hg5 4 _ rfl
  rw [hst] at hok
  have hlT : lineT c = (joinL (headW c) ++ catL (c.st.map stN) ++ catL (c.n.map decL)) ++ [10] := by
    have e : joinL (headW c ++ c.st.map stN) = joinL (headW c) ++ catL (c.st.map stN) := joinL_append _ _ (headW_ne c)
    have e2 : wordsP c = (headW c ++ c.st.map stN) ++ c.n.map decL := rfl
    unfold lineT
    rw [e2, joinL_append _ _ (by simp [headW_ne c]), e]
  have hstl := hB.stl
  have hS5 : (joinL (headW c) ++ catL (c.st.map stN)).length ≤ 100500000 := by
    rw [List.length_append]
    have : ∀ l : List Nat, (∀ x ∈ l, x ≤ 3) → (catL (l.map stN)).length ≤ l.length * 90001 := by
      intro l
      induction l with
      | nil => intro _; simp [catL]
      | cons x xs ih =>
        intro hx
        have h1 := ih fun y hy => hx y (List.mem_cons_of_mem _ hy)
        have h2 := st_w (x - 1) (by have := hx x (List.mem_cons_self ..); omega)
        have h3 : (stN x).length ≤ 90000 := h2
        unfold catL at h1 ⊢
        rw [List.map_cons, List.flatMap_cons, List.length_append, List.length_cons, List.length_cons]
        omega
    have h6 := this c.st fun x hx => by
      have h1 := List.all_eq_true.1 hst x hx
      have h2 : 1 ≤ x ∧ x ≤ 3 := by simpa using h1
      exact h2.2
    omega
  generalize joinL (headW c) ++ catL (c.st.map stN) = T5 at g4 hlT hS5
  refine W.cut (fun a hh => a.n = 135 ∧ Grows h1 hh ∧ a.m.get 4 = some (.string (bsOf (T5 ++ catL (c.n.map decL))))) ?_ ?_
  · repeat (refine W.seq ?_)
    refine W.reg0 ?_
    simp only [go_sem, g1, hn, Nat.reduceLT, reduceIte, loadA, loadC, p4, ofCells, Nat.reduceEqDiff]
    repeat (refine W.seq ?_)
    refine W.block ?_
    refine W.loop_inv (fun k a hh => ∃ i T, k = c.n.length - i ∧ i ≤ c.n.length ∧ a.n = 135 ∧ Grows h1 hh ∧ a.m.get 4 = some (.string (bsOf T)) ∧
      a.m.get 121 = some (.slice pN c.n.length sN) ∧ a.m.get 122 = some (.int .i64 (.ofNat c.n.length)) ∧ a.m.get 123 = some (.int .i64 (.ofNat i)) ∧ T = T5 ++ catL ((c.n.take i).map decL) ∧ T.length ≤ 100500000 + i * 100001) ?_ c.n.length _ _ ?_
    · clear g1 g4 hn a
      intro k a hh ⟨i, T, hk, hi, hn, hg, g4, g121, g122, g123, hT, hTl⟩
      repeat (refine W.seq ?_)
      refine W.reg0 ?_
      simp only [go_sem, g123, g122, hn, Nat.reduceLT]
      repeat (refine W.seq ?_)
      refine W.cond2 ?_
      simp only [go_sem, reduceIte]
      refine ⟨fun hlt => ?_, fun hge => ?_⟩
      · obtain ⟨rfl, o, off, rfl, hrd⟩ := (hN.grows (hg1.trans hg)).at (u64C_at hlt)
        have hmem : c.n[i] ∈ c.n := List.getElem_mem hlt
        have hx64 := hB.n _ hmem
        have hts : c.n.take (i + 1) = c.n.take i ++ [c.n[i]] := by rw [List.take_add_one, List.getElem?_eq_getElem hlt]; rfl
        generalize c.n[i] = x at hrd hx64 hts
        have hnl := hB.nl
        have hdl := decL_len x hx64
        have ed := x_dec pp x hx64 hh (ht.g (hg1.trans hg))
        have s1 := str_cat (bsOf T) ⟨#[32]⟩ (by rw [bsOf_list]; show _ + 1 ≤ _; omega)
        have s2 := str_cat (bsOf (T ++ [32])) (bsOf (decL x)) (by rw [bsOf_list, bsOf_list, List.length_append]; show _ + 1 + _ ≤ _; omega)
        simp only [go_sem] at s1 s2
        repeat (refine W.seq ?_)
        refine W.skip ?_
        simp only [go_sem]
        repeat (refine W.seq ?_)
        refine W.block ?_
        repeat (refine W.seq ?_)
        refine W.reg0 ?_
        simp only [go_sem, hlt, Nat.reduceEqDiff, g121, reduceIte, g123, Nat.reduceLT, loadA, loadC, hrd, ofCells]
        repeat (refine W.seq ?_)
        refine W.reg0 ?_
        simp only [go_sem, Nat.reduceEqDiff, g4, reduceIte, Nat.reduceLT, s1, ed, s2]
        repeat (refine W.seq ?_)
        refine W.reg0 ?_
        simp only [go_sem, Nat.reduceEqDiff, g123, reduceIte, inc_nat (show i + 1 ≤ 9223372036854775807 by omega), Nat.reduceLT]
        refine ⟨c.n.length - (i + 1), by omega, i + 1, (T ++ [32]) ++ decL x, rfl, by omega, ?_⟩
        simp only [g121, g122]
        refine ⟨trivial, hg, trivial, trivial, trivial, trivial, ?_, ?_⟩
        · rw [hts, List.map_append, List.map_cons, List.map_nil, catL_snoc, hT]; simp only [List.append_assoc]
        · rw [List.length_append, List.length_append]; show _ + 1 + _ ≤ _; omega
      · have hi' : i = c.n.length := by omega
        subst hi'
        rw [List.take_of_length_le (Nat.le_refl _)] at hT
        repeat (refine W.seq ?_)
        refine W.exit ?_
        simp only [go_sem, Nat.reduceEqDiff, reduceIte]
        exact ⟨by first | trivial | exact hn, hg, by first | (rw [g4, hT]) | (rw [hT])⟩
    · simp only [go_sem, Nat.reduceEqDiff, g4, reduceIte]
      refine ⟨0, _, rfl, Nat.zero_le _, trivial, hg5, rfl, (by first | trivial | rfl), (by first | trivial | rfl), (by first | trivial | rfl), by simp [catL], by omega⟩
  clear g1 g4 hn a
  intro a h6 ⟨hn, hg6, g4⟩
  have hbig : (T5 ++ catL (c.n.map decL)).length ≤ 300000000 := by
    rw [List.length_append]
    have : ∀ l : List Nat, (∀ x ∈ l, x ≤ 18446744073709551615) → (catL (l.map decL)).length ≤ l.length * 21 := by
      intro l
      induction l with
      | nil => intro _; simp [catL]
      | cons x xs ih =>
        intro hx
        have h1 := ih fun y hy => hx y (List.mem_cons_of_mem _ hy)
        have h2 := decL_len x (hx x (List.mem_cons_self ..))
        unfold catL at h1 ⊢
        rw [List.map_cons, List.flatMap_cons, List.length_append, List.length_cons, List.length_cons]
        omega
    have h6 := this c.n hB.n
    have := hB.nl
    omega
  have s1 := str_cat (bsOf (T5 ++ catL (c.n.map decL))) ⟨#[10]⟩ (by rw [bsOf_list]; show _ + 1 ≤ _; omega)
  simp only [go_sem] at s1
  repeat (refine W.seq ?_)
  refine W.reg0 ?_
  simp only [go_sem, g4, hn, Nat.reduceLT, reduceIte, s1, Nat.reduceEqDiff]
  repeat (refine W.seq ?_)
  refine W.ret ?_
  simp only [go_sem, outW, resultA, resA, Nat.reduceEqDiff, reduceIte]
  rw [hok, if_pos rfl, hlT]
  exact ⟨trivial, _, rfl, hg1.trans hg6, rfl⟩
end Go.Proofs.YtkoccbggjfbgaaaGreatDoor
