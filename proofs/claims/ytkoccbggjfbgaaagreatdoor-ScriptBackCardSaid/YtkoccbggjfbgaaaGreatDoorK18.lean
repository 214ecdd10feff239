/-
  The script seat: the document's Print, walked. The script seat: Of over a row wherever it lies, Light, the law of printing.
-/
import Derived.Test.YtkoccbggjfbgaaaGreatDoorK10
import Derived.Test.YtkoccbggjfbgaaaGreatDoorK17
import Derived.Test.YtkoccbggjfbgaaaGreatDoorK12
set_option linter.all false

section
open Go.Eng
set_option maxRecDepth 100000
set_option linter.unusedSimpArgs false
set_option linter.unusedVariables false
namespace Go.Proofs.YtkoccbggjfbgaaaGreatDoor
variable {X : Tr Nat}

set_option maxHeartbeats 4000000 in
theorem x_rprint (px : PX X) (pp : PP X) (cores tasks : Int) (tick slice origin : Nat) (l : List Cmd) (v : Value) (h : H) (hT : tick ≤ 18446744073709551615 ∧ slice ≤ 18446744073709551615 ∧ origin ≤ 18446744073709551615) (hB : ∀ c ∈ l, CmdB c) (ht : HT h) (hv : CmdsV h v l) :
    ∃ r h', callS (EX X) 16 [.agg #[.int .i64 cores, .int .i64 tasks, .int .u64 (Int.ofNat tick), .int .u64 (Int.ofNat slice), .int .u64 (Int.ofNat origin)], v] h = some (r, h') ∧
      (Grows h h' ∧ r = .tuple #[.string (bsOf (printS cores tasks tick slice origin l).1), .int .i64 (Int.ofNat (printS cores tasks tick slice origin l).2)]) := by
  refine call_of pp.n16 (gf16 X) rfl (rs := [.tmp 4, .tmp 5]) rfl (m := 78) rfl ?_
  obtain ⟨el, hrow, hels⟩ := hv
  obtain ⟨p, s, e⟩ := hrow.len
  subst e
  repeat (refine W.seq ?_)
  refine W.reg0 ?_
  simp only [go_sem, Nat.reduceEqDiff, reduceIte, Nat.reduceAdd, Nat.reduceSub, Nat.reduceMul, Nat.reduceLT, Nat.reduceLeDiff, List.all_cons, List.all_nil]
  have hg1 : Grows h (h.new (.cells [.int .i64 cores, .int .i64 tasks, .int .u64 (Int.ofNat tick), .int .u64 (Int.ofNat slice), .int .u64 (Int.ofNat origin)] 30)) := (Grows.refl h).new _
  have ha1 : (h.new (.cells [.int .i64 cores, .int .i64 tasks, .int .u64 (Int.ofNat tick), .int .u64 (Int.ofNat slice), .int .u64 (Int.ofNat origin)] 30)).get h.next = some (.cells [.int .i64 cores, .int .i64 tasks, .int .u64 (Int.ofNat tick), .int .u64 (Int.ofNat slice), .int .u64 (Int.ofNat origin)] 30) := H.get_new' _ _
  have hn1 : (h.new (.cells [.int .i64 cores, .int .i64 tasks, .int .u64 (Int.ofNat tick), .int .u64 (Int.ofNat slice), .int .u64 (Int.ofNat origin)] 30)).next = h.next + 1 := rfl
  generalize h.new (.cells [.int .i64 cores, .int .i64 tasks, .int .u64 (Int.ofNat tick), .int .u64 (Int.ofNat slice), .int .u64 (Int.ofNat origin)] 30) = h1 at hg1 ha1 hn1 ⊢
  have c0 : rd h1 h.next 0 1 = some [.int .i64 cores] := rd_get ha1 rfl
  have c1 : rd h1 h.next 1 1 = some [.int .i64 tasks] := rd_get ha1 rfl
  have c2 : rd h1 h.next 2 1 = some [.int .u64 (Int.ofNat tick)] := rd_get ha1 rfl
  have c3 : rd h1 h.next 3 1 = some [.int .u64 (Int.ofNat slice)] := rd_get ha1 rfl
  have c4 : rd h1 h.next 4 1 = some [.int .u64 (Int.ofNat origin)] := rd_get ha1 rfl
  have hpre : ¬ 1000 < l.length → ¬ (0 ≤ cores ∧ cores ≤ 1073741824 ∧ 0 ≤ tasks ∧ tasks ≤ 1073741824) → printS cores tasks tick slice origin l = ([], 9) := fun hfew hn => by unfold printS; rw [if_neg hfew, if_pos hn]
  repeat (refine W.seq ?_)
  refine W.reg0 ?_
  simp only [go_sem, Nat.reduceEqDiff, reduceIte, Nat.reduceAdd, Nat.reduceSub, Nat.reduceMul, Nat.reduceLT, Nat.reduceLeDiff]
  repeat (refine W.seq ?_)
  refine W.cond2 ?_
  simp only [go_sem, Nat.reduceEqDiff, reduceIte, Nat.reduceAdd, Nat.reduceSub, Nat.reduceMul, Nat.reduceLT, Nat.reduceLeDiff]
  refine ⟨fun hmany => ?_, fun hfew => ?_⟩
  · repeat (refine W.seq ?_)
    refine W.reg0 ?_
    simp only [go_sem, Nat.reduceEqDiff, reduceIte, Nat.reduceAdd, Nat.reduceSub, Nat.reduceMul, Nat.reduceLT, Nat.reduceLeDiff]
    repeat (refine W.seq ?_)
    refine W.ret ?_
    simp only [outW, resultA, resA, loadA, loadC, rd, ofCells, go_sem, Nat.reduceEqDiff, reduceIte, Nat.reduceAdd, Nat.reduceSub, Nat.reduceMul, Nat.reduceLT, Nat.reduceLeDiff]
    have hp : printS cores tasks tick slice origin l = ([], 10) := by unfold printS; rw [if_pos hmany]
    rw [hp]
    exact ⟨trivial, _, rfl, hg1, rfl⟩
  repeat (refine W.seq ?_)
  refine W.skip ?_
  simp only [go_sem, Nat.reduceEqDiff, reduceIte, Nat.reduceAdd, Nat.reduceSub, Nat.reduceMul, Nat.reduceLT, Nat.reduceLeDiff]
  refine W.seq ?_
  refine W.cut (fun a hh => hh = h1 ∧ a.n = 78 ∧ a.m.get 1 = some (.slice p l.length s) ∧ a.m.get 2 = some (.pointer (some ⟨h.next, 0, none⟩)) ∧ (a.m.get 31 = some (.bool (decide (¬ (0 ≤ cores ∧ cores ≤ 1073741824 ∧ 0 ≤ tasks ∧ tasks ≤ 1073741824))))) ) ?_ ?_
  · by_cases k1 : cores < 0
    · repeat (refine W.seq ?_)
      refine W.reg0 ?_
      simp only [go_sem, Nat.reduceEqDiff, reduceIte, Nat.reduceAdd, Nat.reduceSub, Nat.reduceMul, Nat.reduceLT, Nat.reduceLeDiff, loadA, loadC, ofCells, c0, c1, show decide (cores < Int.ofNat 0) = true from decide_eq_true k1]
      exact ⟨trivial, trivial, by first | trivial | rfl, by first | trivial | rfl, by rw [decide_eq_true (by omega)]⟩
    have k1' : decide (cores < Int.ofNat 0) = false := decide_eq_false k1
    by_cases k2 : cores > 1073741824
    · repeat (refine W.seq ?_)
      refine W.reg0 ?_
      simp only [go_sem, Nat.reduceEqDiff, reduceIte, Nat.reduceAdd, Nat.reduceSub, Nat.reduceMul, Nat.reduceLT, Nat.reduceLeDiff, loadA, loadC, ofCells, c0, c1, k1', show decide (cores > Int.ofNat 1073741824) = true from decide_eq_true k2]
      exact ⟨trivial, trivial, by first | trivial | rfl, by first | trivial | rfl, by rw [decide_eq_true (by omega)]⟩
    have k2' : decide (cores > Int.ofNat 1073741824) = false := decide_eq_false k2
    by_cases k3 : tasks < 0
    · repeat (refine W.seq ?_)
      refine W.reg0 ?_
      simp only [go_sem, Nat.reduceEqDiff, reduceIte, Nat.reduceAdd, Nat.reduceSub, Nat.reduceMul, Nat.reduceLT, Nat.reduceLeDiff, loadA, loadC, ofCells, c0, c1, k1', k2', show decide (tasks < Int.ofNat 0) = true from decide_eq_true k3]
      exact ⟨trivial, trivial, by first | trivial | rfl, by first | trivial | rfl, by rw [decide_eq_true (by omega)]⟩
    have k3' : decide (tasks < Int.ofNat 0) = false := decide_eq_false k3
    by_cases k4 : tasks > 1073741824
    · repeat (refine W.seq ?_)
      refine W.reg0 ?_
      simp only [go_sem, Nat.reduceEqDiff, reduceIte, Nat.reduceAdd, Nat.reduceSub, Nat.reduceMul, Nat.reduceLT, Nat.reduceLeDiff, loadA, loadC, ofCells, c0, c1, k1', k2', k3', show decide (tasks > Int.ofNat 1073741824) = true from decide_eq_true k4]
      exact ⟨trivial, trivial, by first | trivial | rfl, by first | trivial | rfl, by rw [decide_eq_true (by omega)]⟩
    have k4' : decide (tasks > Int.ofNat 1073741824) = false := decide_eq_false k4
    repeat (refine W.seq ?_)
    refine W.reg0 ?_
    simp only [go_sem, Nat.reduceEqDiff, reduceIte, Nat.reduceAdd, Nat.reduceSub, Nat.reduceMul, Nat.reduceLT, Nat.reduceLeDiff, loadA, loadC, ofCells, c0, c1, k1', k2', k3', k4']
    exact ⟨trivial, trivial, by first | trivial | rfl, by first | trivial | rfl, by rw [decide_eq_false (by omega)]⟩
  intro a hh ⟨hh1, hn, g1, g2, g31⟩
  subst hh1
  by_cases hrng : 0 ≤ cores ∧ cores ≤ 1073741824 ∧ 0 ≤ tasks ∧ tasks ≤ 1073741824
  rotate_left
  · rw [decide_eq_true hrng] at g31
    repeat (refine W.seq ?_)
    refine W.cond2 ?_
    simp only [go_sem, Nat.reduceEqDiff, reduceIte, Nat.reduceAdd, Nat.reduceSub, Nat.reduceMul, Nat.reduceLT, Nat.reduceLeDiff, g31]
    refine ⟨fun _ => ?_, fun hc => (by simp at hc)⟩
    repeat (refine W.seq ?_)
    refine W.reg0 ?_
    simp only [go_sem, Nat.reduceEqDiff, reduceIte, Nat.reduceAdd, Nat.reduceSub, Nat.reduceMul, Nat.reduceLT, Nat.reduceLeDiff, hn]
    repeat (refine W.seq ?_)
    refine W.ret ?_
    simp only [outW, resultA, resA, loadA, loadC, rd, ofCells, go_sem, Nat.reduceEqDiff, reduceIte, Nat.reduceAdd, Nat.reduceSub, Nat.reduceMul, Nat.reduceLT, Nat.reduceLeDiff]
    rw [hpre hfew hrng]
    exact ⟨trivial, _, rfl, hg1, rfl⟩
  rw [decide_eq_false (not_not_intro hrng)] at g31
  repeat (refine W.seq ?_)
  refine W.cond2 ?_
  simp only [go_sem, Nat.reduceEqDiff, reduceIte, Nat.reduceAdd, Nat.reduceSub, Nat.reduceMul, Nat.reduceLT, Nat.reduceLeDiff, g31]
  refine ⟨fun hc => (by simp at hc), fun _ => ?_⟩
  repeat (refine W.seq ?_)
  refine W.skip ?_
  simp only [go_sem, Nat.reduceEqDiff, reduceIte, Nat.reduceAdd, Nat.reduceSub, Nat.reduceMul, Nat.reduceLT, Nat.reduceLeDiff]
  obtain ⟨cn, rfl⟩ : ∃ n : Nat, cores = Int.ofNat n := ⟨cores.toNat, by show cores = ((cores.toNat : Nat) : Int); omega⟩
  obtain ⟨tn, rfl⟩ : ∃ n : Nat, tasks = Int.ofNat n := ⟨tasks.toNat, by show tasks = ((tasks.toNat : Nat) : Int); omega⟩
  have hcn : cn ≤ 1073741824 := by have : (cn : Int) ≤ 1073741824 := hrng.2.1; omega
  have htn : tn ≤ 1073741824 := by have : (tn : Int) ≤ 1073741824 := hrng.2.2.2; omega
  have hPS : printS (Int.ofNat cn) (Int.ofNat tn) tick slice origin l = (if l.all lineOK = true then (if 65536 < (sysT cn tn tick slice origin ++ bodyT l).length then ([], 11) else (sysT cn tn tick slice origin ++ bodyT l, 0)) else ([], 9)) := by
    unfold printS
    rw [if_neg (by omega), if_neg (not_not_intro hrng)]
    rfl
  have ht1 : HT hh := ht.g hg1
  have d0 := x_itoa pp cn (by omega) hh ht1
  have d1 := x_itoa pp tn (by omega) hh ht1
  have d2 := x_dec pp tick hT.1 hh ht1
  have d3 := x_dec pp slice hT.2.1 hh ht1
  have d4 := x_dec pp origin hT.2.2 hh ht1
  have n0 := decL_len cn (by omega)
  have n1 := decL_len tn (by omega)
  have n2 := decL_len tick hT.1
  have n3 := decL_len slice hT.2.1
  have n4 := decL_len origin hT.2.2
  have hsys : (((((((((([115, 121, 115, 116, 101, 109, 32] ++ decL cn) ++ [32]) ++ decL tn) ++ [32]) ++ decL tick) ++ [32]) ++ decL slice) ++ [32]) ++ decL origin) ++ [10]) = sysT cn tn tick slice origin := by
    unfold sysT
    simp only [List.map_cons, List.map_nil, joinL, List.flatMap_cons, List.flatMap_nil, List.append_assoc, List.cons_append, List.nil_append, List.append_nil]
  have hsl : (sysT cn tn tick slice origin).length ≤ 600000 := by
    rw [← hsys]
    simp only [List.length_append, List.length_cons, List.length_nil]
    omega
  generalize decL cn = w0 at d0 n0 hsys
  generalize decL tn = w1 at d1 n1 hsys
  generalize decL tick = w2 at d2 n2 hsys
  generalize decL slice = w3 at d3 n3 hsys
  generalize decL origin = w4 at d4 n4 hsys
  have s0 := str_cat ⟨#[115, 121, 115, 116, 101, 109, 32]⟩ (bsOf w0) (by rw [bsOf_list]; show 7 + _ ≤ _; omega)
  have s1 := str_cat (bsOf ([115, 121, 115, 116, 101, 109, 32] ++ w0)) ⟨#[32]⟩ (by rw [bsOf_list, List.length_append]; show 7 + _ + 1 ≤ _; omega)
  have s2 := str_cat (bsOf (([115, 121, 115, 116, 101, 109, 32] ++ w0) ++ [32])) (bsOf w1) (by simp only [bsOf_list, List.length_append, List.length_cons, List.length_nil]; omega)
  have s3 := str_cat (bsOf ((([115, 121, 115, 116, 101, 109, 32] ++ w0) ++ [32]) ++ w1)) ⟨#[32]⟩ (by rw [bsOf_list]; simp only [List.length_append, List.length_cons, List.length_nil]; show _ + 1 ≤ _; omega)
  have s4 := str_cat (bsOf (((([115, 121, 115, 116, 101, 109, 32] ++ w0) ++ [32]) ++ w1) ++ [32])) (bsOf w2) (by simp only [bsOf_list, List.length_append, List.length_cons, List.length_nil]; omega)
  have s5 := str_cat (bsOf ((((([115, 121, 115, 116, 101, 109, 32] ++ w0) ++ [32]) ++ w1) ++ [32]) ++ w2)) ⟨#[32]⟩ (by rw [bsOf_list]; simp only [List.length_append, List.length_cons, List.length_nil]; show _ + 1 ≤ _; omega)
  have s6 := str_cat (bsOf (((((([115, 121, 115, 116, 101, 109, 32] ++ w0) ++ [32]) ++ w1) ++ [32]) ++ w2) ++ [32])) (bsOf w3) (by simp only [bsOf_list, List.length_append, List.length_cons, List.length_nil]; omega)
  have s7 := str_cat (bsOf ((((((([115, 121, 115, 116, 101, 109, 32] ++ w0) ++ [32]) ++ w1) ++ [32]) ++ w2) ++ [32]) ++ w3)) ⟨#[32]⟩ (by rw [bsOf_list]; simp only [List.length_append, List.length_cons, List.length_nil]; show _ + 1 ≤ _; omega)
  have s8 := str_cat (bsOf (((((((([115, 121, 115, 116, 101, 109, 32] ++ w0) ++ [32]) ++ w1) ++ [32]) ++ w2) ++ [32]) ++ w3) ++ [32])) (bsOf w4) (by simp only [bsOf_list, List.length_append, List.length_cons, List.length_nil]; omega)
  have s9 := str_cat (bsOf ((((((((([115, 121, 115, 116, 101, 109, 32] ++ w0) ++ [32]) ++ w1) ++ [32]) ++ w2) ++ [32]) ++ w3) ++ [32]) ++ w4)) ⟨#[10]⟩ (by rw [bsOf_list]; simp only [List.length_append, List.length_cons, List.length_nil]; show _ + 1 ≤ _; omega)
  simp only [List.toList_toArray, bsOf_list] at s0 s1 s2 s3 s4 s5 s6 s7 s8 s9
  rw [hsys] at s9
  simp only [List.cons_append, List.nil_append] at s0 s1 s2 s3 s4 s5 s6 s7 s8 s9
  repeat (refine W.seq ?_)
  refine W.plan (st := [(0, 0, false), (1, 1, false), (2, 3, true), (5, 0, false), (6, 32, false), (7, 103, true), (10, 0, false), (11, 1024, false), (12, 3303, true), (15, 0, false), (16, 32768, false), (17, 105703, true), (20, 0, false), (21, 1048576, false), (22, 3382503, true), (3, 7, false), (4, 15, false), (8, 255, false), (9, 511, false), (13, 8191, false), (14, 16383, false), (18, 262143, false), (19, 524287, false), (23, 8388607, false), (24, 16777215, false), (25, 33554431, true)]) (by kernel_rfl) ?_
  simp only [goP, stableD, stab_cons, stab_nil, sameL_refl, cell1, all1_nil, all1_cons, Bool.or_true, loadA, loadC, ofCells, go_sem, Nat.reduceEqDiff, reduceIte, Nat.reduceAdd, Nat.reduceSub, Nat.reduceMul, Nat.reduceLT, Nat.reduceLeDiff, hn, g1, g2, c0, c1, c2, c3, c4, effA, d0, d1, d2, d3, d4, s0, s1, s2, s3, s4, s5, s6, s7, s8, s9]
  repeat (refine W.seq ?_)
  refine W.reg0 ?_
  simp only [go_sem, Nat.reduceEqDiff, reduceIte, Nat.reduceAdd, Nat.reduceSub, Nat.reduceMul, Nat.reduceLT, Nat.reduceLeDiff, hn, g1]
  repeat (refine W.seq ?_)
  refine W.block ?_
  refine W.loop_inv (fun k a h7 => ∃ i T, k = l.length - i ∧ i ≤ l.length ∧ a.n = 78 ∧ Grows hh h7 ∧ a.m.get 6 = some (.string (bsOf T)) ∧ a.m.get 57 = some (.slice p l.length s) ∧ a.m.get 58 = some (.int .i64 (.ofNat l.length)) ∧ a.m.get 59 = some (.int .i64 (.ofNat i)) ∧
    T = sysT cn tn tick slice origin ++ bodyT (l.take i) ∧ (l.take i).all lineOK = true) ?_ l.length _ _ ?_
  · intro k a h7 ⟨i, T, hk, hi, hn, hG7, g6, g57, g58, g59, hTt, hok⟩
    repeat (refine W.seq ?_)
    refine W.reg0 ?_
    simp only [go_sem, Nat.reduceEqDiff, reduceIte, Nat.reduceAdd, Nat.reduceSub, Nat.reduceMul, Nat.reduceLT, Nat.reduceLeDiff, hn, g57, g58, g59]
    repeat (refine W.seq ?_)
    refine W.cond2 ?_
    simp only [go_sem, Nat.reduceEqDiff, reduceIte, Nat.reduceAdd, Nat.reduceSub, Nat.reduceMul, Nat.reduceLT, Nat.reduceLeDiff]
    refine ⟨fun hlt => ?_, fun hge => ?_⟩
    · obtain ⟨rfl, o, off, rfl, hrd⟩ := (hrow.grows (hg1.trans hG7)).at hlt
      have hts : l.take (i + 1) = l.take i ++ [l[i]] := by rw [List.take_add_one, List.getElem?_eq_getElem hlt]; rfl
      have hmem : l[i] ∈ l := List.getElem_mem hlt
      have hcv := (hels i hlt).grows (hg1.trans hG7)
      have hcB := hB _ hmem
      have hbad : lineOK l[i] = false → l.all lineOK = false := fun hf => by
        rw [List.all_eq_false]; exact ⟨_, hmem, by rw [hf]; simp⟩
      have hbl := bodyT_len (l.take i) (fun c hc => hB c (List.mem_of_mem_take hc)) hok
      have hbl2 : (bodyT (l.take i)).length ≤ 200002001000 := by
        have : (l.take i).length ≤ 1000 := by rw [List.length_take]; omega
        exact Nat.le_trans hbl (Nat.mul_le_mul_right 200002001 this)
      have hTl : T.length ≤ 300002001000 := by rw [hTt, List.length_append]; omega
      generalize l[i] = c at hts hmem hcv hcB hbad
      obtain ⟨z, vN, vS, hel, hN, hS⟩ := hcv
      obtain ⟨pN, sN, eN⟩ := hN.len
      obtain ⟨pS, sS, eS⟩ := hS.len
      subst eN; subst eS
      have hcv2 : CmdV h7 (el i) c := ⟨z, _, _, hel, hN, hS⟩
      have hG8 : Grows h7 ((h7.new (.cells cmdZ 61)).set h7.next (.cells (el i) 61)) := ((Grows.refl h7).new _).set (Nat.le_refl _) _
      have ha8 : ((h7.new (.cells cmdZ 61)).set h7.next (.cells (el i) 61)).get h7.next = some (.cells (el i) 61) := by rw [H.get_set, if_pos rfl]
      obtain ⟨rv, h9, e9, hG9, rfl⟩ := x_rline px pp c (el i) ((h7.new (.cells cmdZ 61)).set h7.next (.cells (el i) 61)) hcB (ht.g ((hg1.trans hG7).trans hG8)) (hcv2.grows hG8)
      have hG79 : Grows hh h9 := (hG7.trans hG8).trans hG9
      have hrself : rd ((h7.new (.cells cmdZ 61)).set h7.next (.cells (el i) 61)) h7.next 0 6 = some (el i) := by
        unfold rd
        rw [ha8]
        exact seg_all _ (by rw [hel]; rfl)
      rw [hel] at e9 hrself hrd
      simp only [cmdZ, hel] at e9 hrself
      repeat (refine W.seq ?_)
      refine W.skip ?_
      simp only [go_sem, Nat.reduceEqDiff, reduceIte, Nat.reduceAdd, Nat.reduceSub, Nat.reduceMul, Nat.reduceLT, Nat.reduceLeDiff]
      repeat (refine W.seq ?_)
      refine W.block ?_
      repeat (refine W.seq ?_)
      refine W.reg0 ?_
      simp only [go_sem, Nat.reduceEqDiff, reduceIte, Nat.reduceAdd, Nat.reduceSub, Nat.reduceMul, Nat.reduceLT, Nat.reduceLeDiff, hn, g57, g59, hlt, loadA, loadC, ofCells, hrd, effA, List.all_cons, List.all_nil, bs_nil]
      repeat (refine W.seq ?_)
      refine W.reg0 ?_
      simp only [go_sem, Nat.reduceEqDiff, reduceIte, Nat.reduceAdd, Nat.reduceSub, Nat.reduceMul, Nat.reduceLT, Nat.reduceLeDiff, hn, loadA, loadC, ofCells, hrself, effA, e9]
      cases hl : lineOK c with
      | false =>
        rw [hl] at e9
        repeat (refine W.seq ?_)
        refine W.reg0 ?_
        simp only [go_sem, Nat.reduceEqDiff, reduceIte, Nat.reduceAdd, Nat.reduceSub, Nat.reduceMul, Nat.reduceLT, Nat.reduceLeDiff, hn, hl, Bool.not_false, Bool.not_true]
        repeat (refine W.seq ?_)
        refine W.cond2 ?_
        simp only [go_sem, Nat.reduceEqDiff, reduceIte, Nat.reduceAdd, Nat.reduceSub, Nat.reduceMul, Nat.reduceLT, Nat.reduceLeDiff]
        refine ⟨fun _ => ?_, fun hc => (by simp at hc)⟩
        repeat (refine W.seq ?_)
        refine W.reg0 ?_
        simp only [go_sem, Nat.reduceEqDiff, reduceIte, Nat.reduceAdd, Nat.reduceSub, Nat.reduceMul, Nat.reduceLT, Nat.reduceLeDiff, hn]
        repeat (refine W.seq ?_)
        refine W.ret ?_
        simp only [outW, resultA, resA, loadA, loadC, rd, ofCells, go_sem, Nat.reduceEqDiff, reduceIte, Nat.reduceAdd, Nat.reduceSub, Nat.reduceMul, Nat.reduceLT, Nat.reduceLeDiff]
        rw [hPS, hbad hl]
        exact ⟨trivial, _, rfl, hg1.trans hG79, rfl⟩
      | true =>
        rw [hl] at e9
        have hll := lineT_len hcB hl
        have s1 := str_cat (bsOf T) (bsOf (lineT c)) (by rw [bsOf_list, bsOf_list]; omega)
        simp only [List.toList_toArray, bsOf_list] at s1
        repeat (refine W.seq ?_)
        refine W.reg0 ?_
        simp only [go_sem, Nat.reduceEqDiff, reduceIte, Nat.reduceAdd, Nat.reduceSub, Nat.reduceMul, Nat.reduceLT, Nat.reduceLeDiff, hn, hl, Bool.not_false, Bool.not_true]
        repeat (refine W.seq ?_)
        refine W.cond2 ?_
        simp only [go_sem, Nat.reduceEqDiff, reduceIte, Nat.reduceAdd, Nat.reduceSub, Nat.reduceMul, Nat.reduceLT, Nat.reduceLeDiff]
        refine ⟨fun hc => (by simp at hc), fun _ => ?_⟩
        repeat (refine W.seq ?_)
        refine W.skip ?_
        simp only [go_sem, Nat.reduceEqDiff, reduceIte, Nat.reduceAdd, Nat.reduceSub, Nat.reduceMul, Nat.reduceLT, Nat.reduceLeDiff]
        repeat (refine W.seq ?_)
        refine W.reg0 ?_
        simp only [go_sem, Nat.reduceEqDiff, reduceIte, Nat.reduceAdd, Nat.reduceSub, Nat.reduceMul, Nat.reduceLT, Nat.reduceLeDiff, hn, g6, s1]
        repeat (refine W.seq ?_)
        refine W.reg0 ?_
        simp only [go_sem, Nat.reduceEqDiff, reduceIte, Nat.reduceAdd, Nat.reduceSub, Nat.reduceMul, Nat.reduceLT, Nat.reduceLeDiff, hn, inc_nat (show i + 1 ≤ 9223372036854775807 by omega), g59]
        refine ⟨l.length - (i + 1), by omega, i + 1, T ++ lineT c, rfl, by omega, ?_⟩
        simp only [go_sem, Nat.reduceEqDiff, reduceIte, Nat.reduceAdd, Nat.reduceSub, Nat.reduceMul, Nat.reduceLT, Nat.reduceLeDiff, hn, g57, g58, g59]
        refine ⟨trivial, hG79, trivial, trivial, trivial, trivial, ?_, ?_⟩
        · rw [hts, bodyT_snoc, hTt, List.append_assoc]
        · rw [hts, List.all_append, hok]
          simp [hl]
    · have hi' : i = l.length := by omega
      subst hi'
      rw [List.take_of_length_le (Nat.le_refl _)] at hTt hok
      rw [if_pos hok, ← hTt] at hPS
      have hsz := bsOf_size T
      repeat (refine W.seq ?_)
      refine W.exit ?_
      simp only [go_sem, Nat.reduceEqDiff, reduceIte, Nat.reduceAdd, Nat.reduceSub, Nat.reduceMul, Nat.reduceLT, Nat.reduceLeDiff]
      by_cases hbig : 65536 < T.length
      · repeat (refine W.seq ?_)
        refine W.reg0 ?_
        simp only [go_sem, Nat.reduceEqDiff, reduceIte, Nat.reduceAdd, Nat.reduceSub, Nat.reduceMul, Nat.reduceLT, Nat.reduceLeDiff, hn, g6, hsz, hbig]
        repeat (refine W.seq ?_)
        refine W.cond2 ?_
        simp only [go_sem, Nat.reduceEqDiff, reduceIte, Nat.reduceAdd, Nat.reduceSub, Nat.reduceMul, Nat.reduceLT, Nat.reduceLeDiff]
        refine ⟨fun _ => ?_, fun hc => (by simp at hc)⟩
        repeat (refine W.seq ?_)
        refine W.reg0 ?_
        simp only [go_sem, Nat.reduceEqDiff, reduceIte, Nat.reduceAdd, Nat.reduceSub, Nat.reduceMul, Nat.reduceLT, Nat.reduceLeDiff, hn]
        repeat (refine W.seq ?_)
        refine W.ret ?_
        simp only [outW, resultA, resA, loadA, loadC, rd, ofCells, go_sem, Nat.reduceEqDiff, reduceIte, Nat.reduceAdd, Nat.reduceSub, Nat.reduceMul, Nat.reduceLT, Nat.reduceLeDiff]
        rw [hPS, if_pos hbig]
        exact ⟨trivial, _, rfl, hg1.trans hG7, rfl⟩
      · repeat (refine W.seq ?_)
        refine W.reg0 ?_
        simp only [go_sem, Nat.reduceEqDiff, reduceIte, Nat.reduceAdd, Nat.reduceSub, Nat.reduceMul, Nat.reduceLT, Nat.reduceLeDiff, hn, g6, hsz, hbig]
        repeat (refine W.seq ?_)
        refine W.cond2 ?_
        simp only [go_sem, Nat.reduceEqDiff, reduceIte, Nat.reduceAdd, Nat.reduceSub, Nat.reduceMul, Nat.reduceLT, Nat.reduceLeDiff]
        refine ⟨fun hc => (by simp at hc), fun _ => ?_⟩
        repeat (refine W.seq ?_)
        refine W.skip ?_
        simp only [go_sem, Nat.reduceEqDiff, reduceIte, Nat.reduceAdd, Nat.reduceSub, Nat.reduceMul, Nat.reduceLT, Nat.reduceLeDiff]
        repeat (refine W.seq ?_)
        refine W.reg0 ?_
        simp only [go_sem, Nat.reduceEqDiff, reduceIte, Nat.reduceAdd, Nat.reduceSub, Nat.reduceMul, Nat.reduceLT, Nat.reduceLeDiff, hn, g6]
        repeat (refine W.seq ?_)
        refine W.ret ?_
        simp only [outW, resultA, resA, loadA, loadC, rd, ofCells, go_sem, Nat.reduceEqDiff, reduceIte, Nat.reduceAdd, Nat.reduceSub, Nat.reduceMul, Nat.reduceLT, Nat.reduceLeDiff]
        rw [hPS, if_neg hbig]
        exact ⟨trivial, _, rfl, hg1.trans hG7, rfl⟩
  · simp only [go_sem, Nat.reduceEqDiff, reduceIte, Nat.reduceAdd, Nat.reduceSub, Nat.reduceMul, Nat.reduceLT, Nat.reduceLeDiff]
    refine ⟨0, sysT cn tn tick slice origin, rfl, Nat.zero_le _, (by first | trivial | exact hn), Grows.refl _, (by first | trivial | rfl), (by first | trivial | rfl), (by first | trivial | rfl), (by first | trivial | rfl), by simp [bodyT], rfl⟩
end Go.Proofs.YtkoccbggjfbgaaaGreatDoor
end

section
open Go.Eng
set_option maxRecDepth 100000
set_option linter.unusedSimpArgs false
set_option linter.unusedVariables false
namespace Go.Proofs.YtkoccbggjfbgaaaGreatDoor
variable {X : Tr Nat}

theorem rrow_new {t b : Nat} {h : H} {v : Value} {n sz : Nat} {cs : List Value} {el : Nat → List Value} (a : NewRow t b h v n sz cs) (hs : ∀ j, j < n → seg cs (j * sz) sz = some (el j)) : RRow sz h v n el := by
  rcases a with ⟨rfl, rfl, rfl⟩ | ⟨o, _, h2, rfl, h4, h5⟩
  · exact ⟨none, 0, rfl, fun i hi => absurd hi (Nat.not_lt_zero _)⟩
  · refine ⟨_, sz, rfl, fun i hi => ⟨rfl, o, 0, rfl, h2, ?_⟩⟩
    unfold rd
    rw [h4, Nat.zero_add]
    exact hs i hi

set_option maxHeartbeats 4000000 in
theorem x_ofv (px : PX X) (l : List Cmd) (v : Value) (h : H) (hl : l.length ≤ 2000) (hv : CmdsV h v l) :
    ∃ r h', callS (EX X) 12 [v] h = some (r, h') ∧ (Grows h h' ∧ CmdsV h' r l) := by
  refine call_of px.n12 (gf12 X) rfl (rs := [.tmp 2]) rfl (m := 18) rfl ?_
  obtain ⟨el, hrow, hels⟩ := hv
  obtain ⟨pv, sv, e⟩ := hrow.len
  subst e
  repeat (refine W.seq ?_)
  refine W.reg0 ?_
  simp only [go_sem, Nat.reduceSub, Nat.reduceAdd, Nat.reduceLT]
  repeat (refine W.seq ?_)
  refine W.reg0 ?_
  simp only [go_sem, Nat.reduceLT]
  repeat (refine W.seq ?_)
  refine W.reg0 ?_
  simp only [go_sem, Nat.reduceEqDiff, reduceIte, Nat.reduceLT]
  repeat (refine W.seq ?_)
  refine W.block ?_
  refine W.loop_inv (fun k a hh => ∃ i w cs, k = l.length - i ∧ i ≤ l.length ∧ a.n = 18 ∧ Grows h hh ∧ a.m.get 3 = some w ∧ a.m.get 6 = some (.slice pv l.length sv) ∧ a.m.get 7 = some (.int .i64 (.ofNat l.length)) ∧ a.m.get 8 = some (.int .i64 (.ofNat i)) ∧ NewRow 61 h.next hh w i 6 cs ∧ cs.length = i * 6 ∧ (∀ j, j < i → seg cs (j * 6) 6 = some (el j))) ?_ l.length _ _ ?_
  · intro k a hh ⟨i, w, cs, hk, hi, hn, hg, g3, g6, g7, g8, hw, hcl, hsg⟩
    obtain ⟨pw, sw, rfl⟩ := hw.form
    repeat (refine W.seq ?_)
    refine W.reg0 ?_
    simp only [go_sem, g8, g7, hn, Nat.reduceLT]
    repeat (refine W.seq ?_)
    refine W.cond2 ?_
    simp only [go_sem, reduceIte]
    refine ⟨fun hlt => ?_, fun hge => ?_⟩
    · obtain ⟨rfl, o, off, rfl, hrd⟩ := (hrow.grows hg).at hlt
      have hcv := hels i hlt
      generalize l[i] = c at hcv
      obtain ⟨z, vN, vS, hel, hN, hS⟩ := hcv
      obtain ⟨p1, s1, eN⟩ := hN.len
      obtain ⟨p2, s2, eS⟩ := hS.len
      subst eN; subst eS
      rw [hel] at hrd
      have hg2 : Grows hh ((hh.new (.cells cmdZ 50)).set hh.next (.cells (el i) 50)) := ((Grows.refl hh).new _).set (Nat.le_refl _) _
      have hx2 : ((hh.new (.cells cmdZ 50)).set hh.next (.cells (el i) 50)).get hh.next = some (.cells (el i) 50) := by rw [H.get_set, if_pos rfl]
      rw [hel] at hg2 hx2
      simp only [cmdZ] at hg2 hx2
      repeat (refine W.seq ?_)
      refine W.skip ?_
      simp only [go_sem]
      repeat (refine W.seq ?_)
      refine W.block ?_
      repeat (refine W.seq ?_)
      refine W.reg0 ?_
      simp only [go_sem, hlt, Nat.reduceEqDiff, g6, reduceIte, g8, Nat.reduceLT, loadA, loadC, hrd, ofCells, bs_nil, List.all_cons, List.all_nil, effA, Nat.reduceAdd]
      generalize hh2 : (hh.new (.cells [.int .i64 (Int.ofNat 0), .int .u8 (Int.ofNat 0), .string (bsOf []), .string (bsOf []), .slice none 0 0, .slice none 0 0] 50)).set hh.next (.cells [.int .i64 z, .int .u8 (Int.ofNat c.op), .string (bsOf c.label), .string (bsOf c.on), .slice p1 (u64C c.n).length s1, .slice p2 (u8C c.st).length s2] 50) = h2 at hg2 hx2 ⊢
      obtain ⟨v3, h3, e3, hw3, hle3, hlow3, hoth3⟩ := app_elem (sl31 X) (hw.grows hg2) (Nat.le_trans hg.next hg2.next) (new := [.int .i64 z, .int .u8 (Int.ofNat c.op), .string (bsOf c.label), .string (bsOf c.on), .slice p1 (u64C c.n).length s1, .slice p2 (u8C c.st).length s2]) rfl rfl (by omega)
      have hg3 : Grows h h3 := ⟨Nat.le_trans (Nat.le_trans hg.next hg2.next) hle3, fun o ho => (hlow3 o ho).trans ((hg.trans hg2).get o ho)⟩
      repeat (refine W.seq ?_)
      refine W.reg0 ?_
      simp only [go_sem, Nat.reduceEqDiff, g3, reduceIte, Nat.reduceLT, loadA, loadC, rd, hx2, seg, ofCells, List.all_cons, List.all_nil, Nat.reduceAdd, Nat.reduceMul, Nat.reduceLeDiff, effA, e3]
      repeat (refine W.seq ?_)
      refine W.reg0 ?_
      simp only [go_sem, Nat.reduceEqDiff, g8, reduceIte, inc_nat (show i + 1 ≤ 9223372036854775807 by omega), Nat.reduceLT]
      refine ⟨l.length - (i + 1), by omega, i + 1, v3, cs ++ [.int .i64 z, .int .u8 (Int.ofNat c.op), .string (bsOf c.label), .string (bsOf c.on), .slice p1 (u64C c.n).length s1, .slice p2 (u8C c.st).length s2], rfl, by omega, ?_⟩
      simp only [g6, g7]
      refine ⟨trivial, hg3, trivial, trivial, trivial, trivial, hw3, ?_, ?_⟩
      · rw [List.length_append, hcl]; show _ + 6 = _; omega
      · intro j hj
        by_cases hji : j < i
        · exact seg_left (hsg j hji)
        · have : j = i := by omega
          subst this
          rw [hel, ← hcl]
          exact seg_right _ _
    · have : i = l.length := by omega
      subst this
      repeat (refine W.seq ?_)
      refine W.exit ?_
      simp only [go_sem, reduceIte]
      repeat (refine W.seq ?_)
      refine W.reg0 ?_
      simp only [go_sem, Nat.reduceEqDiff, g3, reduceIte, Nat.reduceLT]
      repeat (refine W.seq ?_)
      refine W.ret ?_
      simp only [go_sem, outW, resultA, resA, Nat.reduceEqDiff, reduceIte]
      exact ⟨trivial, _, rfl, hg, el, rrow_new hw hsg, fun i hi => (hels i hi).grows hg⟩
  · simp only [go_sem, Nat.reduceEqDiff, reduceIte]
    exact ⟨0, _, [], rfl, Nat.zero_le _, trivial, Grows.refl _, (by first | trivial | rfl), (by first | trivial | rfl), (by first | trivial | rfl), (by first | trivial | rfl), NewRow.nil 61 h.next h 6, rfl, fun j hj => absurd hj (Nat.not_lt_zero _)⟩

/-- is it light? -/
def lightC (c : Cmd) : Prop := c.label.length ≤ 300 ∧ c.on.length ≤ 300 ∧ c.n.length ≤ 9 ∧ c.st.length ≤ 9

set_option maxHeartbeats 4000000 in
theorem x_light (px : PX X) (pp : PP X) (l : List Cmd) (v : Value) (h : H) (hv : CmdsV h v l) :
    ∃ r h', callS (EX X) 14 [v] h = some (r, h') ∧ (Grows h h' ∧ ∃ b, r = .bool b ∧ (b = true → l.length ≤ 1001 ∧ ∀ c ∈ l, lightC c)) := by
  refine call_of pp.n14 (gf14 X) rfl (rs := [.tmp 2]) rfl (m := 39) rfl ?_
  obtain ⟨el, hrow, hels⟩ := hv
  obtain ⟨p, s, e⟩ := hrow.len
  subst e
  repeat (refine W.seq ?_)
  refine W.reg0 ?_
  simp only [go_sem, Nat.reduceSub, Nat.reduceAdd, Nat.reduceLT]
  repeat (refine W.seq ?_)
  refine W.reg0 ?_
  simp only [go_sem, Nat.reduceEqDiff, reduceIte, Nat.reduceLT]
  repeat (refine W.seq ?_)
  refine W.block ?_
  refine W.loop_inv (fun k a hh => ∃ i, k = l.length - i ∧ i ≤ l.length ∧ i ≤ 1001 ∧ a.n = 39 ∧ Grows h hh ∧ a.m.get 5 = some (.slice p l.length s) ∧ a.m.get 6 = some (.int .i64 (.ofNat l.length)) ∧ a.m.get 7 = some (.int .i64 (.ofNat i)) ∧ ∀ c ∈ l.take i, lightC c) ?_ l.length _ _ ?_
  · intro k a hh ⟨i, hk, hi, hi2, hn, hg, g5, g6, g7, hall⟩
    repeat (refine W.seq ?_)
    refine W.reg0 ?_
    simp only [go_sem, g7, g6, hn, Nat.reduceLT]
    repeat (refine W.seq ?_)
    refine W.cond2 ?_
    simp only [go_sem, reduceIte]
    refine ⟨fun hlt => ?_, fun hge => ?_⟩
    · obtain ⟨rfl, o, off, rfl, hrd⟩ := (hrow.grows hg).at hlt
      have hts : l.take (i + 1) = l.take i ++ [l[i]] := by rw [List.take_add_one, List.getElem?_eq_getElem hlt]; rfl
      obtain ⟨z, vN, vS, hel, hN, hS⟩ := hels i hlt
      obtain ⟨p1, s1, eN⟩ := hN.len
      obtain ⟨p2, s2, eS⟩ := hS.len
      rw [u64C_length] at eN
      rw [u8C_length] at eS
      subst eN; subst eS
      generalize l[i] = c at hts hel hN hS
      rw [hel] at hrd
      have hg2 : Grows hh ((hh.new (.cells cmdZ 50)).set hh.next (.cells (el i) 50)) := ((Grows.refl hh).new _).set (Nat.le_refl _) _
      have hx2 : ((hh.new (.cells cmdZ 50)).set hh.next (.cells (el i) 50)).get hh.next = some (.cells (el i) 50) := by rw [H.get_set, if_pos rfl]
      rw [hel] at hg2 hx2
      simp only [cmdZ] at hg2 hx2
      repeat (refine W.seq ?_)
      refine W.skip ?_
      simp only [go_sem]
      repeat (refine W.seq ?_)
      refine W.block ?_
      repeat (refine W.seq ?_)
      refine W.reg0 ?_
      simp only [go_sem, hlt, Nat.reduceEqDiff, g7, reduceIte, Nat.reduceLT, g5, loadA, loadC, hrd, ofCells, bs_nil, List.all_cons, List.all_nil, effA, Nat.reduceAdd]
      generalize (hh.new (.cells [.int .i64 (Int.ofNat 0), .int .u8 (Int.ofNat 0), .string (bsOf []), .string (bsOf []), .slice none 0 0, .slice none 0 0] 50)).set hh.next (.cells [.int .i64 z, .int .u8 (Int.ofNat c.op), .string (bsOf c.label), .string (bsOf c.on), .slice p1 c.n.length s1, .slice p2 c.st.length s2] 50) = h2 at hg2 hx2 ⊢
      have r2 : rd h2 hh.next 2 1 = some [.string (bsOf c.label)] := rd_get hx2 rfl
      have r3 : rd h2 hh.next 3 1 = some [.string (bsOf c.on)] := rd_get hx2 rfl
      have r4 : rd h2 hh.next 4 1 = some [.slice p1 c.n.length s1] := rd_get hx2 rfl
      have r5 : rd h2 hh.next 5 1 = some [.slice p2 c.st.length s2] := rd_get hx2 rfl
      have z1 := bsOf_size c.label
      have z2 := bsOf_size c.on
      by_cases b1 : 1001 ≤ i
      · repeat (refine W.seq ?_)
        refine W.reg0 ?_
        simp only [go_sem, Nat.reduceEqDiff, reduceIte, Nat.reduceLT, b1]
        repeat (refine W.seq ?_)
        refine W.cond2 ?_
        simp only [go_sem, Nat.reduceEqDiff, reduceIte]
        refine ⟨fun _ => ?_, fun hc => (by simp at hc)⟩
        repeat (refine W.seq ?_)
        refine W.reg0 ?_
        simp only [go_sem, Nat.reduceLT]
        repeat (refine W.seq ?_)
        refine W.ret ?_
        simp only [go_sem, outW, resultA, resA, Nat.reduceEqDiff, reduceIte]
        exact ⟨trivial, _, rfl, hg.trans hg2, _, rfl, fun hc => (by simp at hc)⟩
      by_cases b2 : 300 < c.label.length
      · repeat (refine W.seq ?_)
        refine W.reg0 ?_
        simp only [go_sem, Nat.reduceEqDiff, reduceIte, Nat.reduceLT, b1, loadA, loadC, r2, ofCells, z1, b2]
        repeat (refine W.seq ?_)
        refine W.cond2 ?_
        simp only [go_sem, Nat.reduceEqDiff, reduceIte]
        refine ⟨fun _ => ?_, fun hc => (by simp at hc)⟩
        repeat (refine W.seq ?_)
        refine W.reg0 ?_
        simp only [go_sem, Nat.reduceLT]
        repeat (refine W.seq ?_)
        refine W.ret ?_
        simp only [go_sem, outW, resultA, resA, Nat.reduceEqDiff, reduceIte]
        exact ⟨trivial, _, rfl, hg.trans hg2, _, rfl, fun hc => (by simp at hc)⟩
      by_cases b3 : 300 < c.on.length
      · repeat (refine W.seq ?_)
        refine W.reg0 ?_
        simp only [go_sem, Nat.reduceEqDiff, reduceIte, Nat.reduceLT, b1, loadA, loadC, r2, ofCells, z1, b2, r3, z2, b3]
        repeat (refine W.seq ?_)
        refine W.cond2 ?_
        simp only [go_sem, Nat.reduceEqDiff, reduceIte]
        refine ⟨fun _ => ?_, fun hc => (by simp at hc)⟩
        repeat (refine W.seq ?_)
        refine W.reg0 ?_
        simp only [go_sem, Nat.reduceLT]
        repeat (refine W.seq ?_)
        refine W.ret ?_
        simp only [go_sem, outW, resultA, resA, Nat.reduceEqDiff, reduceIte]
        exact ⟨trivial, _, rfl, hg.trans hg2, _, rfl, fun hc => (by simp at hc)⟩
      by_cases b4 : 9 < c.n.length
      · repeat (refine W.seq ?_)
        refine W.reg0 ?_
        simp only [go_sem, Nat.reduceEqDiff, reduceIte, Nat.reduceLT, b1, loadA, loadC, r2, ofCells, z1, b2, r3, z2, b3, r4, b4]
        repeat (refine W.seq ?_)
        refine W.cond2 ?_
        simp only [go_sem, Nat.reduceEqDiff, reduceIte]
        refine ⟨fun _ => ?_, fun hc => (by simp at hc)⟩
        repeat (refine W.seq ?_)
        refine W.reg0 ?_
        simp only [go_sem, Nat.reduceLT]
        repeat (refine W.seq ?_)
        refine W.ret ?_
        simp only [go_sem, outW, resultA, resA, Nat.reduceEqDiff, reduceIte]
        exact ⟨trivial, _, rfl, hg.trans hg2, _, rfl, fun hc => (by simp at hc)⟩
      by_cases b5 : 9 < c.st.length
      · repeat (refine W.seq ?_)
        refine W.reg0 ?_
        simp only [go_sem, Nat.reduceEqDiff, reduceIte, Nat.reduceLT, b1, loadA, loadC, r2, ofCells, z1, b2, r3, z2, b3, r4, b4, r5, b5]
        repeat (refine W.seq ?_)
        refine W.cond2 ?_
        simp only [go_sem, Nat.reduceEqDiff, reduceIte]
        refine ⟨fun _ => ?_, fun hc => (by simp at hc)⟩
        repeat (refine W.seq ?_)
        refine W.reg0 ?_
        simp only [go_sem, Nat.reduceLT]
        repeat (refine W.seq ?_)
        refine W.ret ?_
        simp only [go_sem, outW, resultA, resA, Nat.reduceEqDiff, reduceIte]
        exact ⟨trivial, _, rfl, hg.trans hg2, _, rfl, fun hc => (by simp at hc)⟩
      repeat (refine W.seq ?_)
      refine W.reg0 ?_
      simp only [go_sem, Nat.reduceEqDiff, reduceIte, Nat.reduceLT, b1, loadA, loadC, r2, ofCells, z1, b2, r3, z2, b3, r4, b4, r5, b5]
      repeat (refine W.seq ?_)
      refine W.cond2 ?_
      simp only [go_sem, Nat.reduceEqDiff, reduceIte]
      refine ⟨fun hc => (by simp at hc), fun _ => ?_⟩
      repeat (refine W.seq ?_)
      refine W.skip ?_
      simp only [go_sem]
      repeat (refine W.seq ?_)
      refine W.reg0 ?_
      simp only [go_sem, Nat.reduceEqDiff, g7, reduceIte, inc_nat (show i + 1 ≤ 9223372036854775807 by omega), Nat.reduceLT]
      refine ⟨l.length - (i + 1), by omega, i + 1, rfl, by omega, by omega, ?_⟩
      simp only [g5, g6]
      refine ⟨trivial, hg.trans hg2, trivial, trivial, trivial, ?_⟩
      rw [hts]
      intro x hx
      rcases List.mem_append.1 hx with hx | hx
      · exact hall x hx
      · simp only [List.mem_cons, List.not_mem_nil, or_false] at hx
        subst hx
        exact ⟨by omega, by omega, by omega, by omega⟩
    · have : i = l.length := by omega
      subst this
      rw [List.take_of_length_le (Nat.le_refl _)] at hall
      repeat (refine W.seq ?_)
      refine W.exit ?_
      simp only [go_sem, reduceIte]
      repeat (refine W.seq ?_)
      refine W.reg0 ?_
      simp only [go_sem, Nat.reduceLT]
      repeat (refine W.seq ?_)
      refine W.ret ?_
      simp only [go_sem, outW, resultA, resA, Nat.reduceEqDiff, reduceIte]
      exact ⟨trivial, _, rfl, hg, _, rfl, fun _ => ⟨hi2, hall⟩⟩
  · simp only [go_sem, Nat.reduceEqDiff, reduceIte]
    exact ⟨0, rfl, Nat.zero_le _, Nat.zero_le _, trivial, Grows.refl _, (by first | trivial | rfl), (by first | trivial | rfl), (by first | trivial | rfl), fun c hc => by simp at hc⟩

set_option maxHeartbeats 4000000 in
theorem x_law5 (px : PX X) (pp : PP X) (h7 : X.get 7 = some 10) (cores tasks : Int) (tick slice origin : Nat) (l : List Cmd) (v : Value) (h : H) (hT : tick ≤ 18446744073709551615 ∧ slice ≤ 18446744073709551615 ∧ origin ≤ 18446744073709551615)
    (hR : ∀ c ∈ l, c.op < 256 ∧ (∀ x ∈ c.n, x ≤ 18446744073709551615) ∧ (∀ x ∈ c.st, x < 256)) (ht : HT h) (hv : CmdsV h v l) :
    ∃ r h', callS (EX X) 5 [.agg #[.int .i64 cores, .int .i64 tasks, .int .u64 (Int.ofNat tick), .int .u64 (Int.ofNat slice), .int .u64 (Int.ofNat origin)], v] h = some (r, h') ∧ (Grows h h' ∧ r = .bool true) := by
  refine call_of pp.n5 (gf5 X) rfl (rs := [.tmp 4]) rfl (m := 35) rfl ?_
  have hvs := hv
  obtain ⟨el, hrow, hels⟩ := hv
  obtain ⟨p, s, e⟩ := hrow.len
  subst e
  repeat (refine W.seq ?_)
  refine W.reg0 ?_
  simp only [go_sem, Nat.reduceAdd, Nat.reduceSub, Nat.reduceEqDiff, reduceIte, Nat.reduceLT]
  have hg1 : Grows h (h.new (.cells [.int .i64 cores, .int .i64 tasks, .int .u64 (Int.ofNat tick), .int .u64 (Int.ofNat slice), .int .u64 (Int.ofNat origin)] 25)) := (Grows.refl h).new _
  have ha1 : (h.new (.cells [.int .i64 cores, .int .i64 tasks, .int .u64 (Int.ofNat tick), .int .u64 (Int.ofNat slice), .int .u64 (Int.ofNat origin)] 25)).get h.next = some (.cells [.int .i64 cores, .int .i64 tasks, .int .u64 (Int.ofNat tick), .int .u64 (Int.ofNat slice), .int .u64 (Int.ofNat origin)] 25) := H.get_new' _ _
  have hn1 : (h.new (.cells [.int .i64 cores, .int .i64 tasks, .int .u64 (Int.ofNat tick), .int .u64 (Int.ofNat slice), .int .u64 (Int.ofNat origin)] 25)).next = h.next + 1 := rfl
  generalize h.new (.cells [.int .i64 cores, .int .i64 tasks, .int .u64 (Int.ofNat tick), .int .u64 (Int.ofNat slice), .int .u64 (Int.ofNat origin)] 25) = h1 at hg1 ha1 hn1 ⊢
  have haw : callS (EX X) 7 [] h1 = some (.bool true, h1) := (call_hook h7).trans rfl
  have rc : ∀ {hh : H}, Grows h1 hh → rd hh h.next 0 5 = some [.int .i64 cores, .int .i64 tasks, .int .u64 (Int.ofNat tick), .int .u64 (Int.ofNat slice), .int .u64 (Int.ofNat origin)] := fun {hh} g => by
    rw [rd_kept g (by omega)]
    exact rd_get ha1 rfl
  repeat (refine W.seq ?_)
  refine W.reg0 ?_
  simp only [go_sem, haw, Nat.reduceLT, Nat.reduceEqDiff, reduceIte]
  repeat (refine W.seq ?_)
  refine W.cond2 ?_
  simp only [go_sem, Nat.reduceEqDiff, reduceIte]
  refine ⟨fun hc => (by simp at hc), fun _ => ?_⟩
  repeat (refine W.seq ?_)
  refine W.skip ?_
  simp only [go_sem]
  obtain ⟨_, h2, e2, hg2, lb, rfl, hlb⟩ := x_light px pp l _ h1 (hvs.grows hg1)
  repeat (refine W.seq ?_)
  refine W.reg0 ?_
  simp only [go_sem, Nat.reduceEqDiff, reduceIte, Nat.reduceLT, e2]
  cases lb with
  | false =>
    repeat (refine W.seq ?_)
    refine W.cond2 ?_
    simp only [go_sem, Nat.reduceEqDiff, reduceIte]
    refine ⟨fun _ => ?_, fun hc => (by simp at hc)⟩
    repeat (refine W.seq ?_)
    refine W.reg0 ?_
    simp only [go_sem, Nat.reduceLT]
    repeat (refine W.seq ?_)
    refine W.ret ?_
    simp only [go_sem, outW, resultA, resA, Nat.reduceEqDiff, reduceIte]
    exact ⟨trivial, _, rfl, hg1.trans hg2, rfl⟩
  | true =>
  obtain ⟨hlen, hlight⟩ := hlb rfl
  have hB : ∀ c ∈ l, CmdB c := fun c hc => by
    obtain ⟨r1, r2, r3⟩ := hR c hc
    obtain ⟨q1, q2, q3, q4⟩ := hlight c hc
    exact ⟨r1, by omega, by omega, by omega, by omega, r2, r3⟩
  repeat (refine W.seq ?_)
  refine W.cond2 ?_
  simp only [go_sem, Nat.reduceEqDiff, reduceIte]
  refine ⟨fun hc => (by simp at hc), fun _ => ?_⟩
  repeat (refine W.seq ?_)
  refine W.skip ?_
  simp only [go_sem]
  obtain ⟨_, h3, e3, hg3, rfl⟩ := x_print px pp cores tasks tick slice origin l _ h2 hT hB (ht.g (hg1.trans hg2)) (hvs.grows (hg1.trans hg2))
  have r2 := rc hg2
  repeat (refine W.seq ?_)
  refine W.reg0 ?_
  simp only [go_sem, Nat.reduceEqDiff, reduceIte, loadA, loadC, r2, ofCells, Nat.reduceLT, e3]
  obtain ⟨v4, h4, e4, hg4, hv4⟩ := x_ofv px l _ h3 (by omega) (hvs.grows ((hg1.trans hg2).trans hg3))
  obtain ⟨el4, hrow4, hels4⟩ := id hv4
  obtain ⟨p4, s4, e⟩ := hrow4.len
  subst e
  obtain ⟨_, h5, e5, hg5, rfl⟩ := x_rprint px pp cores tasks tick slice origin l _ h4 hT hB (ht.g (((hg1.trans hg2).trans hg3).trans hg4)) hv4
  have r3 := rc (hg2.trans hg3)
  have r4 := rc ((hg2.trans hg3).trans hg4)
  have r5 := rc (((hg2.trans hg3).trans hg4).trans hg5)
  repeat (refine W.seq ?_)
  refine W.plan (st := [(1, 0, false), (2, 2, true), (0, 0, false), (3, 7, true), (4, 15, false), (5, 31, false), (7, 63, true), (6, 31, false), (8, 255, true)]) (by kernel_rfl) ?_
  simp only [go_sem, goP, stableD, Nat.reduceEqDiff, reduceIte, Nat.reduceLT, e4, r4, Nat.reduceAdd, stab_cons, all1_cons, cell1, all1_nil, sameL_refl, r3, stab_nil, Bool.or_true, loadA, loadC, ofCells, e5]
  repeat (refine W.seq ?_)
  refine W.reg0 ?_
  simp only [go_sem, Nat.reduceEqDiff, reduceIte, Nat.reduceLT]
  repeat (refine W.seq ?_)
  refine W.ret ?_
  simp only [go_sem, outW, resultA, resA, Nat.reduceEqDiff, reduceIte]
  exact ⟨trivial, _, rfl, (((hg1.trans hg2).trans hg3).trans hg4).trans hg5, rfl⟩
end Go.Proofs.YtkoccbggjfbgaaaGreatDoor
end
