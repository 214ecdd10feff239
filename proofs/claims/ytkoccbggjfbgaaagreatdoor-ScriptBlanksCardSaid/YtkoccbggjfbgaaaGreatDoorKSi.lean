/-
  Plain laws on scripts: blanks, lines that don't count, a thousand commands and more. The script seat: the law on blanks.
-/
import Derived.Test.YtkoccbggjfbgaaaGreatDoorKSc
import Derived.Test.YtkoccbggjfbgaaaGreatDoorKSd
import Derived.Test.YtkoccbggjfbgaaaGreatDoorKEq
import Derived.Lib.SmallJoins
set_option linter.all false

section
open Go.Eng
set_option maxRecDepth 100000
set_option linter.unusedSimpArgs false
set_option linter.unusedVariables false
namespace Go.Proofs.YtkoccbggjfbgaaaGreatDoor

theorem consHd_app (x : UInt8) {L M : List (List UInt8)} (h : L ≠ []) : consHd x (L ++ M) = consHd x L ++ M := by
  cases L with
  | nil => exact absurd rfl h
  | cons l ls => rfl
theorem pieces_app (c : UInt8) : ∀ (p a : List UInt8), piecesL c (p ++ c :: a) = piecesL c p ++ piecesL c a
  | [], a => by rw [List.nil_append, piecesL_eq]; rfl
  | x :: r, a => by
    by_cases h : x = c
    · subst h; rw [List.cons_append, piecesL_eq, piecesL_eq, pieces_app x r a]; rfl
    · rw [List.cons_append, piecesL_ne h, piecesL_ne h, pieces_app c r a, consHd_app x (piecesL_ne_nil c r)]
theorem words_app (p a : List UInt8) : wordsL (p ++ 32 :: a) = wordsL p ++ wordsL a := by
  unfold wordsL; rw [pieces_app, List.filter_append]

/-- alike under any beginning -/
def Alike (a b : List UInt8) : Prop := ∀ p, wordsL (p ++ a) = wordsL (p ++ b)
theorem Alike.refl (a : List UInt8) : Alike a a := fun _ => rfl
theorem Alike.words {a b : List UInt8} (h : Alike a b) : wordsL a = wordsL b := h []
theorem Alike.cons {a b : List UInt8} (h : Alike a b) (x : UInt8) : Alike (x :: a) (x :: b) := fun p => by
  have := h (p ++ [x]); simpa using this
theorem Alike.sp3 {a b : List UInt8} (h : Alike a b) : Alike (32 :: a) (32 :: 32 :: 32 :: b) := fun p => by
  rw [words_app, words_app, wordsL_sp, wordsL_sp, h.words]
theorem Alike.last : Alike [] [32] := fun p => by rw [words_app, wordsL_nil, List.append_nil, List.append_nil]

theorem replB_eq (c : UInt8) (new r : List UInt8) : replB c new (c :: r) = new ++ replB c new r := by
  have : Nat.beq c.toNat c.toNat = true := Nat.beq_refl _
  simp [replB, this]
theorem replB_ne {c x : UInt8} (h : x ≠ c) (new r : List UInt8) : replB c new (x :: r) = x :: replB c new r := by
  have : Nat.beq x.toNat c.toNat = false := by
    cases hb : Nat.beq x.toNat c.toNat with
    | false => rfl
    | true => exact absurd (UInt8.toNat_inj.1 (Nat.eq_of_beq_eq_true hb)) h
  simp [replB, this]

/-- more blanks, behind and ahead and between -/
def blankL (t : List UInt8) : List UInt8 := replB 10 [32, 10, 32, 32] (replB 32 [32, 32, 32] t)
theorem blankL_nil : blankL [] = [] := rfl
theorem blankL_sp (r : List UInt8) : blankL (32 :: r) = 32 :: 32 :: 32 :: blankL r := by
  unfold blankL
  rw [replB_eq]
  simp only [List.cons_append, List.nil_append]
  rw [replB_ne (by decide), replB_ne (by decide), replB_ne (by decide)]
theorem blankL_nl (r : List UInt8) : blankL (10 :: r) = 32 :: 10 :: 32 :: 32 :: blankL r := by
  unfold blankL
  rw [replB_ne (by decide), replB_eq]
  rfl
theorem blankL_ne {x : UInt8} (h1 : x ≠ 32) (h2 : x ≠ 10) (r : List UInt8) : blankL (x :: r) = x :: blankL r := by
  unfold blankL
  rw [replB_ne h1, replB_ne h2]
theorem blankL_len : ∀ t : List UInt8, (blankL t).length ≤ 4 * t.length
  | [] => by simp [blankL_nil]
  | x :: r => by
    have := blankL_len r
    by_cases h1 : x = 32
    · subst h1; rw [blankL_sp]; simp only [List.length_cons]; omega
    · by_cases h2 : x = 10
      · subst h2; rw [blankL_nl]; simp only [List.length_cons]; omega
      · rw [blankL_ne h1 h2]; simp only [List.length_cons]; omega

theorem lines_alike : ∀ t : List UInt8, ∃ a ls b ms, piecesL 10 t = a :: ls ∧ piecesL 10 (blankL t) = b :: ms ∧ Alike a b ∧ ls.map wordsL = ms.map wordsL
  | [] => ⟨[], [], [], [], rfl, rfl, Alike.refl _, rfl⟩
  | x :: r => by
    obtain ⟨a, ls, b, ms, e1, e2, h1, h2⟩ := lines_alike r
    by_cases hs : x = 32
    · subst hs
      rw [blankL_sp, piecesL_ne (by decide), piecesL_ne (by decide), piecesL_ne (by decide), piecesL_ne (by decide), e1, e2]
      exact ⟨32 :: a, ls, 32 :: 32 :: 32 :: b, ms, rfl, rfl, h1.sp3, h2⟩
    · by_cases hn : x = 10
      · subst hn
        rw [blankL_nl, piecesL_eq, piecesL_ne (show (32 : UInt8) ≠ 10 by decide), piecesL_eq, piecesL_ne (show (32 : UInt8) ≠ 10 by decide), piecesL_ne (show (32 : UInt8) ≠ 10 by decide), e1, e2]
        refine ⟨[], a :: ls, [32], (32 :: 32 :: b) :: ms, rfl, rfl, Alike.last, ?_⟩
        simp only [List.map_cons, wordsL_sp, h1.words, h2]
      · rw [blankL_ne hs hn, piecesL_ne hn, piecesL_ne hn, e1, e2]
        exact ⟨x :: a, ls, x :: b, ms, rfl, rfl, h1.cons x, h2⟩

theorem blank_words (t : List UInt8) : (piecesL 10 (32 :: blankL t)).map wordsL = (piecesL 10 t).map wordsL := by
  obtain ⟨a, ls, b, ms, e1, e2, h1, h2⟩ := lines_alike t
  rw [piecesL_ne (show (32 : UInt8) ≠ 10 by decide), e1, e2]
  show wordsL (32 :: b) :: ms.map wordsL = wordsL a :: ls.map wordsL
  rw [wordsL_sp, h1.words, h2]

theorem loopS_congr : ∀ (ls ms : List (List UInt8)) (i : Nat) (b : Bool) (c : Cfg) (out : List Cmd), ls.map wordsL = ms.map wordsL → loopS i ls b c out = loopS i ms b c out
  | [], [], _, _, _, _, _ => rfl
  | [], _ :: _, _, _, _, _, h => by simp at h
  | _ :: _, [], _, _, _, _, h => by simp at h
  | l :: ls, m :: ms, i, b, c, out, h => by
    simp only [List.map_cons, List.cons.injEq] at h
    have ih : ∀ i b c out, loopS i ls b c out = loopS i ms b c out := fun i b c out => loopS_congr ls ms i b c out h.2
    simp only [loopS, h.1, ih]

theorem loopS_none : ∀ (ex : List (List UInt8)) (i : Nat) (b : Bool) (c : Cfg) (out : List Cmd), (∀ l ∈ ex, lineW (wordsL l) = []) → loopS i ex b c out = loopS i [] b c out
  | [], _, _, _, _, _ => rfl
  | l :: ls, i, b, c, out, h => by
    have h1 := h l (by simp)
    have ih := loopS_none ls (i + 1) b c out fun x hx => h x (by simp [hx])
    rw [loopS, h1]
    show loopS (i + 1) ls b c out = _
    rw [ih]
    cases b <;> rfl
theorem loopS_drop : ∀ (ls ex : List (List UInt8)) (i : Nat) (b : Bool) (c : Cfg) (out : List Cmd), (∀ l ∈ ex, lineW (wordsL l) = []) → loopS i (ls ++ ex) b c out = loopS i ls b c out
  | [], ex, i, b, c, out, h => loopS_none ex i b c out h
  | l :: ls, ex, i, b, c, out, h => by
    have ih : ∀ i b c out, loopS i (ls ++ ex) b c out = loopS i ls b c out := fun i b c out => loopS_drop ls ex i b c out h
    simp only [List.cons_append, loopS, ih]

/-- blanks change nothing -/
theorem parse_blank (t : List UInt8) (ht : t.length ≤ 8000) : parseS (32 :: blankL t ++ [10, 32, 32, 35, 32, 120, 10, 32, 32, 32]) = parseS t := by
  have hl := blankL_len t
  unfold parseS
  rw [if_neg (by simp only [List.length_append, List.length_cons, List.length_nil]; omega), if_neg (by omega)]
  rw [pieces_app 10 (32 :: blankL t) [32, 32, 35, 32, 120, 10, 32, 32, 32]]
  rw [loopS_drop _ _ _ _ _ _ (by
    intro l hl
    have : piecesL 10 [32, 32, 35, 32, 120, 10, 32, 32, 32] = [[32, 32, 35, 32, 120], [32, 32, 32]] := by decide
    rw [this] at hl
    simp only [List.mem_cons, List.not_mem_nil, or_false] at hl
    rcases hl with rfl | rfl <;> decide)]
  exact loopS_congr _ _ _ _ _ _ (blank_words t)

/-! ### A thousand commands -/
def sysL : List UInt8 := [115, 121, 115, 116, 101, 109, 32, 49, 32, 49, 32, 49, 32, 49, 32, 49]
def runsL : List UInt8 := [114, 117, 110, 115, 10]
theorem runs_len (n : Nat) : (repl runsL n).length = 5 * n := by
  induction n with
  | zero => rfl
  | succ n ih => simp only [repl, List.length_append, ih]; simp [runsL]; omega
theorem runs_pieces (n : Nat) : piecesL 10 (repl runsL n) = List.replicate n [114, 117, 110, 115] ++ [[]] := by
  induction n with
  | zero => rfl
  | succ n ih =>
    have : repl runsL (n + 1) = [114, 117, 110, 115] ++ 10 :: repl runsL n := rfl
    rw [this, pieces_app, ih, List.replicate_succ]
    rfl

theorem runs_words : wordsL [114, 117, 110, 115] = [[114, 117, 110, 115]] := by decide
theorem runs_cmd (i : Nat) : cmdS i [[114, 117, 110, 115]] = (⟨i, 11, [], [], [], []⟩, 0) := rfl

theorem loop_runs (c : Cfg) : ∀ (n i : Nat) (out : List Cmd), out.length ≤ 1000 →
    loopS i (List.replicate n [114, 117, 110, 115] ++ [[]]) true c out = (if out.length + n ≤ 1000 then ⟨c, out ++ (List.range n).map fun k => ⟨i + k + 1, 11, [], [], [], []⟩, 0, 0⟩ else ⟨Cfg.zero, [], i + (1000 - out.length) + 1, 10⟩)
  | 0, i, out, h => by
    rw [if_pos (by omega)]
    simp only [List.replicate_zero, List.nil_append, List.range_zero, List.map_nil, List.append_nil]
    exact loopS_none [[]] i true c out (by intro l hl; simp only [List.mem_singleton] at hl; subst hl; decide)
  | n + 1, i, out, h => by
    rw [List.replicate_succ, List.cons_append, loopS, runs_words]
    show (if 1000 ≤ out.length then _ else if (cmdS (i + 1) [[114, 117, 110, 115]]).2 = 0 then _ else _) = _
    by_cases h2 : 1000 ≤ out.length
    · rw [if_pos h2, if_neg (by omega)]
      have : i + (1000 - out.length) + 1 = i + 1 := by omega
      rw [this]
    · rw [if_neg h2, runs_cmd, if_pos rfl, loop_runs c n (i + 1) _ (by simp; omega)]
      by_cases h3 : out.length + (n + 1) ≤ 1000
      · rw [if_pos h3, if_pos (by simp; omega)]
        congr 1
        rw [List.append_assoc]
        congr 1
        rw [List.range_succ_eq_map, List.map_cons, List.map_map]
        simp only [List.singleton_append, Nat.add_zero, List.cons.injEq, true_and]
        refine List.map_congr_left fun k _ => ?_
        simp only [Function.comp, Cmd.mk.injEq, and_true]
        omega
      · rw [if_neg h3, if_neg (by simp; omega)]
        congr 1
        simp only [List.length_append, List.length_cons, List.length_nil]
        omega

def oneCfg : Cfg := ⟨1, 1, 1, 1, 1⟩
theorem sys_words : wordsL sysL = [[115, 121, 115, 116, 101, 109], [49], [49], [49], [49], [49]] := by decide
theorem sys_one : sysS [[115, 121, 115, 116, 101, 109], [49], [49], [49], [49], [49]] = (oneCfg, 0) := rfl

/-- the 1001st command is one too many -/
theorem parse_runs (n : Nat) (hn : n ≤ 1155) : parseS (sysL ++ 10 :: repl runsL n) = (if n ≤ 1000 then ⟨oneCfg, (List.range n).map fun k => ⟨1 + k + 1, 11, [], [], [], []⟩, 0, 0⟩ else ⟨Cfg.zero, [], 1002, 10⟩) := by
  unfold parseS
  rw [if_neg (by rw [List.length_append, List.length_cons, runs_len]; simp [sysL]; omega), pieces_app, runs_pieces]
  have : piecesL 10 sysL = [sysL] := by decide
  rw [this, List.singleton_append, loopS, sys_words]
  show (if (sysS [[115, 121, 115, 116, 101, 109], [49], [49], [49], [49], [49]]).2 = 0 then _ else _) = _
  rw [sys_one, if_pos rfl]
  show loopS (0 + 1) _ true oneCfg [] = _
  rw [loop_runs oneCfg n (0 + 1) [] (by simp)]
  simp

theorem parse_long (t : List UInt8) (h : 65536 < t.length) : parseS t = ⟨Cfg.zero, [], 0, 11⟩ := by unfold parseS; rw [if_pos h]

end Go.Proofs.YtkoccbggjfbgaaaGreatDoor
end

section
open Go.Eng
set_option maxRecDepth 100000
set_option linter.unusedSimpArgs false
set_option linter.unusedVariables false
namespace Go.Proofs.YtkoccbggjfbgaaaGreatDoor
variable {X : Tr Nat}

theorem gf4 (X : Tr Nat) : (EX X).F.get 4 = some Tryz.f4 := by kernel_rfl
/-- the functions that the machine answers by itself beside -/
structure PB (X : Tr Nat) : Prop where
  n4 : X.get 4 = none
  rep : X.get 13 = some 32
  all : X.get 11 = some 48

theorem str_add (a b : ByteArray) (h : a.data.toList.length + b.data.toList.length ≤ 9223372036854775807) : pureRun (Op.stringOp .add a b) = some (.string (bsOf (a.data.toList ++ b.data.toList))) := by
  have hs : ¬ ((a.size + b.size : Nat) : Int) > IntKind.i64.max := by
    rw [Lib.size_eq, Lib.size_eq]
    show ¬ ((a.data.toList.length + b.data.toList.length : Nat) : Int) > 9223372036854775807
    omega
  simp only [Op.stringOp, if_neg hs]
  show some (Value.string (a ++ b)) = _
  have e : a ++ b = bsOf (a.data.toList ++ b.data.toList) := by rw [← Go.Joins.data_append]; rfl
  rw [e]

/-- the object 1 is the variable internal/bytealg.MaxLen -/
def HM (h : H) : Prop := 1 < h.next ∧ intA 1 0 h = true
theorem HM.g {h h' : H} (a : HM h) (g : Grows h h') : HM h' := by
  refine ⟨Nat.lt_of_lt_of_le a.1 g.next, ?_⟩
  have := a.2
  unfold intA at this ⊢
  rw [g.get 1 a.1]; exact this

theorem x_rep (pb : PB X) (s : ByteArray) (n : Nat) (h : H) (h1 : s.data.toList.length * n ≤ 16777216) (h2 : n ≤ 16777216) :
    callS (EX X) 13 [.string s, .int .i64 (Int.ofNat n)] h = some (.string (bsOf (repl s.data.toList n)), h) := by
  rw [call_hook (show (EX X).X.get 13 = some 32 from pb.rep), hook_repeat_eq (by decide) (by decide) (by decide)]
  unfold hRepeat
  simp only [Nat.ble_eq_true_of_le h1, Nat.ble_eq_true_of_le h2]

theorem x_all (pb : PB X) (s new : ByteArray) (c : UInt8) (h : H) (h1 : s.data.toList.length * (new.data.toList.length + 1) ≤ 16777216) (hm : HM h) :
    callS (EX X) 11 [.string s, .string ⟨#[c]⟩, .string new] h = some (.string (bsOf (replB c new.data.toList s.data.toList)), h) := by
  rw [call_hook (show (EX X).X.get 11 = some 48 from pb.all), hook_replace_eq (b := 0) (by decide) (by decide) (by decide) (by decide)]
  unfold hReplace
  have : (ByteArray.mk #[c]).data.toList = [c] := rfl
  simp only [Nat.ble_eq_true_of_le h1, hm.2]

theorem repl_one_len (x : UInt8) (n : Nat) : (repl [x] n).length = n := by
  induction n with
  | zero => rfl
  | succ n ih => simp only [repl, List.length_append, List.length_cons, List.length_nil, ih]; omega

theorem x_law4 (px : PX X) (pb : PB X) (h7 : X.get 7 = some 10) (t : List UInt8) (m : Nat) (hm8 : m < 256) (h : H) (hok : HOk h) (hm : HM h) :
    ∃ r h', callS (EX X) 4 [.string (bsOf t), .int .u8 (Int.ofNat m)] h = some (r, h') ∧ (Grows h h' ∧ r = .bool true) := by
  refine call_of pb.n4 (gf4 X) rfl (rs := [.tmp 4]) rfl (m := 119) rfl ?_
  have hsz : (bsOf t).size = t.length := bsOf_size t
  have haw : callS (EX X) 7 [] h = some (.bool true, h) := (call_hook h7).trans rfl
  repeat (refine W.seq ?_)
  refine W.reg0 ?_
  simp only [opsA, oneA, wantedA, List.length_cons, List.length_nil, Nat.zero_add, Nat.reduceAdd, Nat.reduceSub, enterT, opnds, evs, ev, plain, opA, cls, pureA, putT, blt_iff, Nat.reduceLT, decide_true, litI, regW_some, thenW_normal]
  repeat (refine W.seq ?_)
  refine W.reg0 ?_
  simp only [opsA, oneA, wantedA, opnds, evs, ev, opA, cls, List.append_nil, haw, putT, blt_iff, Nat.reduceLT, decide_true, Tr.get_set, Nat.reduceEqDiff, succ0, Tr.get_nil, reduceIte, pureA, regW_some, thenW_normal]
  repeat (refine W.seq ?_)
  refine W.cond2 ?_
  simp only [ev, Tr.get_set, Nat.reduceEqDiff, succ0, Tr.get_nil, reduceIte, condW_bool]
  refine ⟨fun hc => (by simp at hc), fun _ => ?_⟩
  repeat (refine W.seq ?_)
  refine W.skip ?_
  simp only [thenW_normal]
  repeat (refine W.seq ?_)
  refine W.reg0 ?_
  simp only [opsA, oneA, wantedA, opnds, evs, ev, Tr.get_set, Nat.reduceEqDiff, Tr.get_nil, reduceIte, opA, cls, pureA, putT, blt_iff, Nat.reduceLT, decide_true, succ0, und9, hsz, castI, goInt_nat, plain, abin2, abin, dlt, regW_some, thenW_normal]
  repeat (refine W.seq ?_)
  refine W.cond2 ?_
  simp only [ev, Tr.get_set, Nat.reduceEqDiff, succ0, Tr.get_nil, reduceIte, condW_bool, decide_eq_true_eq, decide_eq_false_iff_not]
  refine ⟨fun _ => ?_, fun hle => ?_⟩
  · repeat (refine W.seq ?_)
    refine W.reg0 ?_
    simp only [opsA, oneA, wantedA, opnds, evs, ev, plain, opA, cls, pureA, putT, blt_iff, Nat.reduceLT, decide_true, regW_some, thenW_normal]
    repeat (refine W.seq ?_)
    refine W.ret ?_
    simp only [thenW_ret, outW, resultA, resA, Tr.get_set, Nat.reduceEqDiff, succ0, Tr.get_nil, reduceIte]
    exact ⟨trivial, _, rfl, Grows.refl _, rfl⟩
  have hle : t.length ≤ 8000 := by omega
  obtain ⟨r1, h1, e1, hg1, v1, rfl, hc1⟩ := x_parseText px t (by omega) h hok
  obtain ⟨hlen, hmem⟩ := parseS_len t
  have hK : Grows h1 ((h1.new (.cells Cfg.zero.cells 25)).set h1.next (.cells (parseS t).cfg.cells 25)) := ((Grows.refl h1).new _).set (Nat.le_refl _) _
  have hx1 : ((h1.new (.cells Cfg.zero.cells 25)).set h1.next (.cells (parseS t).cfg.cells 25)).get h1.next = some (.cells (parseS t).cfg.cells 25) := by rw [H.get_set, if_pos rfl]
  have hn1 : ((h1.new (.cells Cfg.zero.cells 25)).set h1.next (.cells (parseS t).cfg.cells 25)).next = h1.next + 1 := rfl
  simp only [Cfg.cells, Cfg.zero] at hK hx1 hn1
  repeat (refine W.seq ?_)
  refine W.skip ?_
  simp only [thenW_normal]
  repeat (refine W.seq ?_)
  refine W.reg0 ?_
  simp only [opsA, oneA, wantedA, opnds, evs, ev, Tr.get_set, Nat.reduceEqDiff, Tr.get_nil, reduceIte, ite_self, opA, cls, pureA, putT, blt_iff, Nat.reduceLT, decide_true, succ0, List.nil_append, List.append_nil, e1, Cfg.val, Cfg.cells, List.getElem?_cons_zero, List.getElem?_cons_succ, newA, btX, beq_iff, decide_false, zero25, litI, plain, List.all_cons, List.all_nil, Bool.and_self, cellsL_agg, mk, effA, size25, cellsN_agg, List.size_toArray, List.length_cons, List.length_nil, Nat.zero_add, Nat.reduceAdd, wr, H.get_new, cellv, splice, undef, regW_some, thenW_normal]
  generalize (h1.new (.cells [Value.int .i64 (Int.ofNat 0), .int .i64 (Int.ofNat 0), .int .u64 (Int.ofNat 0), .int .u64 (Int.ofNat 0), .int .u64 (Int.ofNat 0)] 25)).set h1.next (.cells [Value.int .i64 (Int.ofNat (parseS t).cfg.cores), .int .i64 (Int.ofNat (parseS t).cfg.tasks), .int .u64 (Int.ofNat (parseS t).cfg.tick), .int .u64 (Int.ofNat (parseS t).cfg.slice), .int .u64 (Int.ofNat (parseS t).cfg.origin)] 25) = h2 at hK hx1 hn1 ⊢
  have hg2 := hg1.trans hK
  -- the text with more blanks
  have hb1 := blankL_len t
  have ha1 := x_all pb (bsOf t) ⟨#[32, 32, 32]⟩ 32 h2 (by rw [bsOf_list]; show t.length * 4 ≤ _; omega) (hm.g hg2)
  have hr1 : (replB 32 [32, 32, 32] t).length ≤ 4 * t.length := by
    have : ∀ t : List UInt8, (replB 32 [32, 32, 32] t).length ≤ 4 * t.length := by
      intro t
      induction t with
      | nil => simp [replB]
      | cons x r ih =>
        by_cases hx : x = 32
        · subst hx; rw [Go.Eng.replB_hit]; simp only [List.length_append, List.length_cons, List.length_nil]; omega
        · rw [Go.Eng.replB_miss hx]; simp only [List.length_cons]; omega
    exact this t
  have ha2 := x_all pb (bsOf (replB 32 [32, 32, 32] t)) ⟨#[32, 10, 32, 32]⟩ 10 h2 (by rw [bsOf_list]; show (replB 32 [32, 32, 32] t).length * 5 ≤ _; omega) (hm.g hg2)
  simp only [bsOf_list] at ha1 ha2
  have hT : parseS (32 :: (replB 10 [32, 10, 32, 32] (replB 32 [32, 32, 32] t) ++ [10, 32, 32, 35, 32, 120, 10, 32, 32, 32])) = parseS t := parse_blank t hle
  have hTl : (32 :: (replB 10 [32, 10, 32, 32] (replB 32 [32, 32, 32] t) ++ [10, 32, 32, 35, 32, 120, 10, 32, 32, 32])).length ≤ 800000 := by
    have : (replB 10 [32, 10, 32, 32] (replB 32 [32, 32, 32] t)).length ≤ 4 * t.length := hb1
    simp only [List.length_cons, List.length_append, List.length_nil]; omega
  have hb2 : (replB 10 [32, 10, 32, 32] (replB 32 [32, 32, 32] t)).length ≤ 4 * t.length := hb1
  have s1 := str_add ⟨#[32]⟩ (bsOf (replB 10 [32, 10, 32, 32] (replB 32 [32, 32, 32] t))) (by rw [bsOf_list]; show 1 + _ ≤ _; omega)
  have s2 := str_add (bsOf (32 :: replB 10 [32, 10, 32, 32] (replB 32 [32, 32, 32] t))) ⟨#[10, 32, 32, 35, 32, 120, 10, 32, 32, 32]⟩ (by rw [bsOf_list, List.length_cons]; show _ + 10 ≤ _; omega)
  obtain ⟨r3, h3, e3, hg3, v3, rfl, hc3⟩ := x_parseText px _ hTl h2 (hok.g hg2)
  rw [hT] at e3 hc3
  have hK4 : Grows h3 ((h3.new (.cells Cfg.zero.cells 25)).set h3.next (.cells (parseS t).cfg.cells 25)) := ((Grows.refl h3).new _).set (Nat.le_refl _) _
  have hx4 : ((h3.new (.cells Cfg.zero.cells 25)).set h3.next (.cells (parseS t).cfg.cells 25)).get h3.next = some (.cells (parseS t).cfg.cells 25) := by rw [H.get_set, if_pos rfl]
  simp only [Cfg.cells, Cfg.zero] at hK4 hx4
  repeat (refine W.seq ?_)
  refine W.reg0 ?_
  simp only [opsA, oneA, wantedA, opnds, evs, ev, Tr.get_set, Nat.reduceEqDiff, Tr.get_nil, reduceIte, ite_self, opA, cls, pureA, putT, blt_iff, Nat.reduceLT, decide_true, succ0, plain, List.nil_append, List.append_nil, ha1, ha2, abin2, abin, s1, bsOf_list, List.cons_append, s2, e3, Cfg.val, Cfg.cells, List.getElem?_cons_zero, List.getElem?_cons_succ, newA, btX, beq_iff, decide_false, zero25, litI, List.all_cons, List.all_nil, Bool.and_self, cellsL_agg, mk, effA, size25, cellsN_agg, List.size_toArray, List.length_cons, List.length_nil, Nat.zero_add, Nat.reduceAdd, wr, H.get_new, cellv, splice, undef, regW_some, thenW_normal]
  generalize (h3.new (.cells [Value.int .i64 (Int.ofNat 0), .int .i64 (Int.ofNat 0), .int .u64 (Int.ofNat 0), .int .u64 (Int.ofNat 0), .int .u64 (Int.ofNat 0)] 25)).set h3.next (.cells [Value.int .i64 (Int.ofNat (parseS t).cfg.cores), .int .i64 (Int.ofNat (parseS t).cfg.tasks), .int .u64 (Int.ofNat (parseS t).cfg.tick), .int .u64 (Int.ofNat (parseS t).cfg.slice), .int .u64 (Int.ofNat (parseS t).cfg.origin)] 25) = h4 at hK4 hx4 ⊢
  have hg34 := hg3.trans hK4
  have hx14 := (hg34.get h1.next (by omega)).trans hx1
  have hg14 := (hK.trans hg34)
  have hg4 := hg1.trans hg14
  obtain ⟨cs1, hr1', hcc1⟩ := hc1
  obtain ⟨cs3, hr3, hcc3⟩ := hc3
  obtain ⟨v5, h5, e5, hg5, hr5⟩ := x_of px (parseS t).cmds 0 v3 cs3 h4 hlen ((hr3.weaken (Nat.zero_le _)).grows hK4) (CmdsC.weaken (Nat.zero_le _) (hcc3.keepN (KeepN.of_grows hK4)))
  obtain ⟨r6, h6, e6, hg6, rfl⟩ := x_same px (parseS t).cmds 0 v1 v5 h5 hlen (fun c hc => by have := hmem c hc; omega) ⟨cs1, (hr1'.weaken (Nat.zero_le _)).grows (hg14.trans hg5), CmdsC.weaken (Nat.zero_le _) (hcc1.keepN (KeepN.of_grows (hg14.trans hg5)))⟩ ⟨cs3, hr5.weaken (Nat.zero_le _), CmdsC.weaken (Nat.zero_le _) (hcc3.keepN (KeepN.of_grows (hK4.trans hg5)))⟩
  repeat (refine W.seq ?_)
  refine W.reg0 ?_
  simp only [opsA, oneA, wantedA, opnds, evs, ev, Tr.get_set, Nat.reduceEqDiff, succ0, Tr.get_nil, reduceIte, opA, cls, loadA, agg25, loadC, size25, rd, hx14, seg, ofCells, putT, blt_iff, Nat.reduceLT, decide_true, hx4, ite_self, pureA, abin2, abin, isEq, aeq_cfg2, beqTF, List.getElem?_cons_succ, List.getElem?_cons_zero, beqFF, dne, ne_eq, not_true_eq_false, decide_false, plain, List.nil_append, List.append_nil, e5, e6, regW_some, thenW_normal]
  repeat (refine W.seq ?_)
  refine W.cond2 ?_
  simp only [ev, Tr.get_set, Nat.reduceEqDiff, succ0, Tr.get_nil, reduceIte, condW_bool]
  refine ⟨fun hc => (by simp at hc), fun _ => ?_⟩
  repeat (refine W.seq ?_)
  refine W.skip ?_
  simp only [thenW_normal]
  -- a thousand commands
  have hg16 := (hg4.trans hg5).trans hg6
  have hrl := runs_len (900 + m)
  have hR1 := x_rep pb ⟨#[114, 117, 110, 115, 10]⟩ (900 + m) h6 (by show 5 * (900 + m) ≤ _; omega) (by omega)
  simp only [] at hR1
  have hP : parseS (115 :: 121 :: 115 :: 116 :: 101 :: 109 :: 32 :: 49 :: 32 :: 49 :: 32 :: 49 :: 32 :: 49 :: 32 :: 49 :: 10 :: repl [114, 117, 110, 115, 10] (900 + m)) = _ := parse_runs (900 + m) (by omega)
  have hPl : ((115 : UInt8) :: 121 :: 115 :: 116 :: 101 :: 109 :: 32 :: 49 :: 32 :: 49 :: 32 :: 49 :: 32 :: 49 :: 32 :: 49 :: 10 :: repl [114, 117, 110, 115, 10] (900 + m)).length ≤ 800000 := by
    have : (repl ([114, 117, 110, 115, 10] : List UInt8) (900 + m)).length = 5 * (900 + m) := hrl
    simp only [List.length_cons]; omega
  have hrl' : (repl ([114, 117, 110, 115, 10] : List UInt8) (900 + m)).length = 5 * (900 + m) := hrl
  have s3 := str_add ⟨#[115, 121, 115, 116, 101, 109, 32, 49, 32, 49, 32, 49, 32, 49, 32, 49, 10]⟩ (bsOf (repl ([114, 117, 110, 115, 10] : List UInt8) (900 + m))) (by rw [bsOf_list, hrl']; show 17 + _ ≤ _; omega)
  obtain ⟨r7, h7', e7, hg7, v7, rfl, hc7⟩ := x_parseText px _ hPl h6 (hok.g hg16)
  obtain ⟨R, hR⟩ : ∃ R, R = parseS (115 :: 121 :: 115 :: 116 :: 101 :: 109 :: 32 :: 49 :: 32 :: 49 :: 32 :: 49 :: 32 :: 49 :: 32 :: 49 :: 10 :: repl [114, 117, 110, 115, 10] (900 + m)) := ⟨_, rfl⟩
  rw [← hR] at e7 hc7 hP
  obtain ⟨cs7, hr7, _⟩ := hc7
  obtain ⟨p7, s7, rfl⟩ := hr7.form
  have hK8 : Grows h7' ((h7'.new (.cells Cfg.zero.cells 25)).set h7'.next (.cells R.cfg.cells 25)) := ((Grows.refl h7').new _).set (Nat.le_refl _) _
  simp only [Cfg.cells, Cfg.zero] at hK8
  repeat (refine W.seq ?_)
  refine W.reg0 ?_
  simp only [opsA, oneA, wantedA, opnds, evs, ev, Tr.get_set, Nat.reduceEqDiff, succ0, Tr.get_nil, reduceIte, opA, cls, pureA, putT, blt_iff, Nat.reduceLT, decide_true, und5, und3, wrapN (show m ≤ 9223372036854775807 by omega), plain, abin2, abin, add_nat (show 900 + m ≤ 9223372036854775807 by omega), List.nil_append, List.append_nil, hR1, s3, bsOf_list, List.cons_append, e7, Cfg.val, Cfg.cells, List.getElem?_cons_zero, List.getElem?_cons_succ, newA, btX, beq_iff, decide_false, zero25, litI, List.all_cons, List.all_nil, Bool.and_self, cellsL_agg, mk, effA, size25, cellsN_agg, List.size_toArray, List.length_cons, List.length_nil, Nat.zero_add, Nat.reduceAdd, wr, H.get_new, cellv, splice, undef, regW_some, thenW_normal]
  generalize (h7'.new (.cells [Value.int .i64 (Int.ofNat 0), .int .i64 (Int.ofNat 0), .int .u64 (Int.ofNat 0), .int .u64 (Int.ofNat 0), .int .u64 (Int.ofNat 0)] 25)).set h7'.next (.cells [Value.int .i64 (Int.ofNat R.cfg.cores), .int .i64 (Int.ofNat R.cfg.tasks), .int .u64 (Int.ofNat R.cfg.tick), .int .u64 (Int.ofNat R.cfg.slice), .int .u64 (Int.ofNat R.cfg.origin)] 25) = h8 at hK8 ⊢
  have hg18 := (hg16.trans hg7).trans hK8
  -- too long
  have hR2 := x_rep pb ⟨#[120]⟩ (65536 + m) h8 (by show 1 * (65536 + m) ≤ _; omega) (by omega)
  simp only [] at hR2
  have hol := repl_one_len 120 (65536 + m)
  have s4 := str_add ⟨#[35]⟩ (bsOf (repl ([120] : List UInt8) (65536 + m))) (by rw [bsOf_list, hol]; show 1 + _ ≤ _; omega)
  have hQ : parseS (35 :: repl [120] (65536 + m)) = _ := parse_long _ (by simp only [List.length_cons, hol]; omega)
  obtain ⟨r9, h9, e9, hg9, v9, rfl, hc9⟩ := x_parseText px (35 :: repl [120] (65536 + m)) (by simp only [List.length_cons, hol]; omega) h8 (hok.g hg18)
  rw [hQ] at e9 hc9
  dsimp only at e9 hc9
  have hK10 : Grows h9 ((h9.new (.cells Cfg.zero.cells 25)).set h9.next (.cells Cfg.zero.cells 25)) := ((Grows.refl h9).new _).set (Nat.le_refl _) _
  simp only [Cfg.cells, Cfg.zero] at hK10
  repeat (refine W.seq ?_)
  refine W.reg0 ?_
  simp only [opsA, oneA, wantedA, opnds, evs, ev, Tr.get_set, Nat.reduceEqDiff, succ0, Tr.get_nil, reduceIte, ite_self, opA, cls, pureA, putT, blt_iff, Nat.reduceLT, decide_true, und5, und3, wrapN (show m ≤ 9223372036854775807 by omega), plain, abin2, abin, add_nat (show 65536 + m ≤ 9223372036854775807 by omega), List.nil_append, List.append_nil, hR2, s4, bsOf_list, List.cons_append, e9, Cfg.val, Cfg.cells, Cfg.zero, List.getElem?_cons_zero, List.getElem?_cons_succ, newA, btX, beq_iff, decide_false, zero25, litI, List.all_cons, List.all_nil, Bool.and_self, cellsL_agg, mk, effA, size25, cellsN_agg, List.size_toArray, List.length_cons, List.length_nil, Nat.zero_add, Nat.reduceAdd, wr, H.get_new, cellv, splice, undef, regW_some, thenW_normal]
  generalize (h9.new (.cells [Value.int .i64 (Int.ofNat 0), .int .i64 (Int.ofNat 0), .int .u64 (Int.ofNat 0), .int .u64 (Int.ofNat 0), .int .u64 (Int.ofNat 0)] 25)).set h9.next (.cells [Value.int .i64 (Int.ofNat 0), .int .i64 (Int.ofNat 0), .int .u64 (Int.ofNat 0), .int .u64 (Int.ofNat 0), .int .u64 (Int.ofNat 0)] 25) = h10 at hK10 ⊢
  have hgF := (hg18.trans hg9).trans hK10
  repeat (refine W.seq ?_)
  refine W.reg0 ?_
  simp only [opsA, oneA, wantedA, opnds, evs, ev, Tr.get_set, Nat.reduceEqDiff, succ0, Tr.get_nil, reduceIte, opA, cls, pureA, putT, blt_iff, Nat.reduceLT, decide_true, plain, abin2, abin, dne, ne_eq, not_true_eq_false, decide_false, List.getElem?_cons_succ, List.getElem?_cons_zero, beqFF, ite_self, regW_some, thenW_normal]
  repeat (refine W.seq ?_)
  refine W.cond2 ?_
  simp only [ev, Tr.get_set, Nat.reduceEqDiff, succ0, Tr.get_nil, reduceIte, condW_bool]
  refine ⟨fun hc => (by simp at hc), fun _ => ?_⟩
  repeat (refine W.seq ?_)
  refine W.skip ?_
  simp only [thenW_normal]
  repeat (refine W.seq ?_)
  refine W.reg0 ?_
  simp only [opsA, oneA, wantedA, opnds, evs, ev, Tr.get_set, Nat.reduceEqDiff, succ0, Tr.get_nil, reduceIte, ite_self, opA, cls, pureA, putT, blt_iff, Nat.reduceLT, decide_true, plain, abin2, abin, dle, regW_some, thenW_normal]
  repeat (refine W.seq ?_)
  refine W.cond2 ?_
  simp only [ev, Tr.get_set, Nat.reduceEqDiff, succ0, Tr.get_nil, reduceIte, condW_bool, decide_eq_true_eq, decide_eq_false_iff_not]
  refine ⟨fun hle100 => ?_, fun hgt => ?_⟩
  · rw [if_pos (by omega)] at hP
    rw [hP]
    have hcl : ((List.range (900 + m)).map fun k => (⟨1 + k + 1, 11, [], [], [], []⟩ : Cmd)).length = 900 + m := by simp
    repeat (refine W.seq ?_)
    refine W.reg0 ?_
    simp only [opsA, oneA, wantedA, hcl, opnds, evs, ev, Tr.get_set, Nat.reduceEqDiff, succ0, Tr.get_nil, reduceIte, ite_self, opA, cls, pureA, putT, blt_iff, Nat.reduceLT, decide_true, plain, abin2, abin, deq, List.getElem?_cons_succ, List.getElem?_cons_zero, beqTT, und26, castI, goInt_nat, und5, und3, wrapN (show m ≤ 9223372036854775807 by omega), add_nat (show 900 + m ≤ 9223372036854775807 by omega), regW_some, thenW_normal]
    repeat (refine W.seq ?_)
    refine W.ret ?_
    simp only [thenW_ret, outW, resultA, resA, Tr.get_set, Nat.reduceEqDiff, succ0, Tr.get_nil, reduceIte, ite_self]
    exact ⟨trivial, _, rfl, hgF, rfl⟩
  · rw [if_neg (by omega)] at hP
    rw [hP]
    repeat (refine W.seq ?_)
    refine W.skip ?_
    simp only [List.length_nil, thenW_normal]
    repeat (refine W.seq ?_)
    refine W.reg0 ?_
    simp only [opsA, oneA, wantedA, opnds, evs, ev, Tr.get_set, Nat.reduceEqDiff, succ0, Tr.get_nil, reduceIte, opA, cls, pureA, putT, blt_iff, Nat.reduceLT, decide_true, plain, abin2, abin, deq, List.getElem?_cons_succ, List.getElem?_cons_zero, beqTT, ite_self, und26, castI, goInt_nat, regW_some, thenW_normal]
    repeat (refine W.seq ?_)
    refine W.ret ?_
    simp only [outW, resultA, resA, Tr.get_set, Nat.reduceEqDiff, succ0, Tr.get_nil, reduceIte, ite_self]
    exact ⟨trivial, _, rfl, hgF, rfl⟩
end Go.Proofs.YtkoccbggjfbgaaaGreatDoor
end
