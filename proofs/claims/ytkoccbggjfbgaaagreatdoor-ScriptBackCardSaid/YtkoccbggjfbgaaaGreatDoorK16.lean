/-
  The script seat: the program's Print. The script seat: the program's Print, walked.
-/
import Derived.Test.YtkoccbggjfbgaaaGreatDoorK15
import Derived.Test.YtkoccbggjfbgaaaGreatDoorK10
set_option linter.all false

section
open Go.Eng
set_option maxRecDepth 100000
set_option linter.unusedSimpArgs false
set_option linter.unusedVariables false
namespace Go.Proofs.YtkoccbggjfbgaaaGreatDoor
variable {X : Tr Nat}

theorem str_cat (a b : ByteArray) (h : a.data.toList.length + b.data.toList.length ≤ 9223372036854775807) : pureRun (Op.stringOp .add a b) = some (.string (bsOf (a.data.toList ++ b.data.toList))) := by
  have hs : ¬ ((a.size + b.size : Nat) : Int) > IntKind.i64.max := by
    rw [Lib.size_eq, Lib.size_eq]
    show ¬ ((a.data.toList.length + b.data.toList.length : Nat) : Int) > 9223372036854775807
    omega
  simp only [Op.stringOp, if_neg hs]
  show some (Value.string (a ++ b)) = _
  have e : a ++ b = bsOf (a.data.toList ++ b.data.toList) := by rw [← Go.Joins.data_append]; rfl
  rw [e]

/-- commands in a row, wherever it lies -/
def CmdsV (h : H) (v : Value) (l : List Cmd) : Prop := ∃ el, RRow 6 h v l.length el ∧ ∀ i (hi : i < l.length), CmdV h (el i) l[i]
theorem CmdsV.grows {h h' : H} {v : Value} {l : List Cmd} (a : CmdsV h v l) (g : Grows h h') : CmdsV h' v l := by
  obtain ⟨el, h1, h2⟩ := a
  exact ⟨el, h1.grows g, fun i hi => (h2 i hi).grows g⟩

/-- the first line -/
def sysT (cores tasks tick slice origin : Nat) : List UInt8 := [115, 121, 115, 116, 101, 109, 32] ++ joinL ([cores, tasks, tick, slice, origin].map decL) ++ [10]
def lineT (c : Cmd) : List UInt8 := joinL (wordsP c) ++ [10]
def bodyT (l : List Cmd) : List UInt8 := l.flatMap lineT
/-- what is printed, and what is wrong -/
def printS (cores tasks : Int) (tick slice origin : Nat) (l : List Cmd) : List UInt8 × Nat :=
  if 1000 < l.length then ([], 10)
  else if ¬ (0 ≤ cores ∧ cores ≤ 1073741824 ∧ 0 ≤ tasks ∧ tasks ≤ 1073741824) then ([], 9)
  else if l.all lineOK = true then (if 65536 < (sysT cores.toNat tasks.toNat tick slice origin ++ bodyT l).length then ([], 11) else (sysT cores.toNat tasks.toNat tick slice origin ++ bodyT l, 0))
  else ([], 9)

theorem wordsP_small {c : Cmd} (hB : CmdB c) (hop : c.op < 12) (hst : stOK c = true) : (wordsP c).length ≤ 2000 ∧ ∀ w ∈ wordsP c, w.length ≤ 100000 := by
  have hnl := hB.nl
  have hstl := hB.stl
  have hhl : (headW c).length ≤ 3 := by unfold headW; split <;> split <;> simp
  refine ⟨by unfold wordsP; simp only [List.length_append, List.length_map]; omega, ?_⟩
  intro w hw
  unfold wordsP headW at hw
  simp only [List.mem_append, List.mem_cons, List.mem_map] at hw
  have hfw := form_w c.op hop
  rcases hw with (((rfl | hw) | hw) | ⟨x, hx, rfl⟩) | ⟨x, hx, rfl⟩
  · omega
  · split at hw
    · simp only [List.mem_cons, List.not_mem_nil, or_false] at hw
      subst hw
      have := hB.label; omega
    · simp at hw
  · split at hw
    · simp only [List.mem_cons, List.not_mem_nil, or_false] at hw
      subst hw
      have := hB.on; omega
    · simp at hw
  · have h1 := List.all_eq_true.1 hst x hx
    have h2 : 1 ≤ x ∧ x ≤ 3 := by simpa using h1
    have := st_w (x - 1) (by omega)
    unfold stN
    omega
  · have := decL_len x (hB.n x hx); omega
theorem lineOK_and {c : Cmd} (h : lineOK c = true) : c.op < 12 ∧ stOK c = true := by
  unfold lineOK at h
  simp only [Bool.and_eq_true, decide_eq_true_eq] at h
  exact ⟨h.1.1.1, h.1.1.2⟩
theorem lineT_len {c : Cmd} (hB : CmdB c) (h : lineOK c = true) : (lineT c).length ≤ 200002001 := by
  obtain ⟨h1, h2⟩ := lineOK_and h
  obtain ⟨h3, h4⟩ := wordsP_small hB h1 h2
  have h5 := joinL_len (wordsP c) h4
  have h6 : (wordsP c).length * 100001 ≤ 200002000 := Nat.mul_le_mul_right 100001 h3
  unfold lineT
  rw [List.length_append]
  simp only [List.length_cons, List.length_nil]
  exact Nat.succ_le_succ (Nat.le_trans h5 h6)
theorem bodyT_len : ∀ (l : List Cmd), (∀ c ∈ l, CmdB c) → l.all lineOK = true → (bodyT l).length ≤ l.length * 200002001
  | [], _, _ => by simp [bodyT]
  | c :: l, hB, h => by
    simp only [List.all_cons, Bool.and_eq_true] at h
    have h1 := lineT_len (hB c (by simp)) h.1
    have h2 := bodyT_len l (fun x hx => hB x (by simp [hx])) h.2
    unfold bodyT at h2 ⊢
    rw [List.flatMap_cons, List.length_append, List.length_cons, Nat.succ_mul]
    omega
theorem bodyT_snoc (l : List Cmd) (c : Cmd) : bodyT (l ++ [c]) = bodyT l ++ lineT c := by simp [bodyT, List.flatMap_append]

theorem convU {n : Nat} (h : n ≤ 18446744073709551615) : IntKind.wrap .u64 (Int.ofNat n) = Int.ofNat n := wrapU h
end Go.Proofs.YtkoccbggjfbgaaaGreatDoor
end

section
open Go.Eng
set_option maxRecDepth 100000
set_option linter.unusedSimpArgs false
set_option linter.unusedVariables false
namespace Go.Proofs.YtkoccbggjfbgaaaGreatDoor
variable {X : Tr Nat}

set_option maxHeartbeats 4000000 in
theorem x_print (px : PX X) (pp : PP X) (cores tasks : Int) (tick slice origin : Nat) (l : List Cmd) (v : Value) (h : H) (hT : tick ≤ 18446744073709551615 ∧ slice ≤ 18446744073709551615 ∧ origin ≤ 18446744073709551615) (hB : ∀ c ∈ l, CmdB c) (ht : HT h) (hv : CmdsV h v l) :
    ∃ r h', callS (EX X) 15 [.agg #[.int .i64 cores, .int .i64 tasks, .int .u64 (Int.ofNat tick), .int .u64 (Int.ofNat slice), .int .u64 (Int.ofNat origin)], v] h = some (r, h') ∧
      (Grows h h' ∧ r = .tuple #[.string (bsOf (printS cores tasks tick slice origin l).1), .int .i64 (Int.ofNat (printS cores tasks tick slice origin l).2)]) := by
  refine call_of pp.n15 (gf15 X) rfl (rs := [.tmp 4, .tmp 5]) rfl (m := 73) rfl ?_
  obtain ⟨el, hrow, hels⟩ := hv
  obtain ⟨p, s, e⟩ := hrow.len
  subst e
  repeat (refine W.seq ?_)
  refine W.reg0 ?_
  simp only [go_sem, Nat.reduceEqDiff, reduceIte, Nat.reduceAdd, Nat.reduceSub, Nat.reduceMul, Nat.reduceLT, Nat.reduceLeDiff, List.all_cons, List.all_nil]
  have hg1 : Grows h (h.new (.cells [.int .i64 cores, .int .i64 tasks, .int .u64 (Int.ofNat tick), .int .u64 (Int.ofNat slice), .int .u64 (Int.ofNat origin)] 25)) := (Grows.refl h).new _
  have ha1 : (h.new (.cells [.int .i64 cores, .int .i64 tasks, .int .u64 (Int.ofNat tick), .int .u64 (Int.ofNat slice), .int .u64 (Int.ofNat origin)] 25)).get h.next = some (.cells [.int .i64 cores, .int .i64 tasks, .int .u64 (Int.ofNat tick), .int .u64 (Int.ofNat slice), .int .u64 (Int.ofNat origin)] 25) := H.get_new' _ _
  have hn1 : (h.new (.cells [.int .i64 cores, .int .i64 tasks, .int .u64 (Int.ofNat tick), .int .u64 (Int.ofNat slice), .int .u64 (Int.ofNat origin)] 25)).next = h.next + 1 := rfl
  generalize h.new (.cells [.int .i64 cores, .int .i64 tasks, .int .u64 (Int.ofNat tick), .int .u64 (Int.ofNat slice), .int .u64 (Int.ofNat origin)] 25) = h1 at hg1 ha1 hn1 ⊢
  have c0 : rd h1 h.next 0 1 = some [.int .i64 cores] := rd_get ha1 rfl
  have c1 : rd h1 h.next 1 1 = some [.int .i64 tasks] := rd_get ha1 rfl
  have c2 : rd h1 h.next 2 1 = some [.int .u64 (Int.ofNat tick)] := rd_get ha1 rfl
  have c3 : rd h1 h.next 3 1 = some [.int .u64 (Int.ofNat slice)] := rd_get ha1 rfl
  have c4 : rd h1 h.next 4 1 = some [.int .u64 (Int.ofNat origin)] := rd_get ha1 rfl
  refine W.cut (fun a hh => hh = h1 ∧ a.n = 73 ∧ a.m.get 1 = some (.slice p l.length s) ∧ a.m.get 2 = some (.pointer (some ⟨h.next, 0, none⟩)) ∧ l.length ≤ 1000 ∧ (0 ≤ cores ∧ cores ≤ 1073741824 ∧ 0 ≤ tasks ∧ tasks ≤ 1073741824)) ?_ ?_
  · repeat (refine W.seq ?_)
    refine W.block ?_
    repeat (refine W.seq ?_)
    refine W.reg0 ?_
    simp only [go_sem, Nat.reduceEqDiff, reduceIte, Nat.reduceAdd, Nat.reduceSub, Nat.reduceMul, Nat.reduceLT, Nat.reduceLeDiff]
    repeat (refine W.seq ?_)
    refine W.cond2 ?_
    simp only [go_sem, Nat.reduceEqDiff, reduceIte, Nat.reduceAdd, Nat.reduceSub, Nat.reduceMul, Nat.reduceLT, Nat.reduceLeDiff]
    refine ⟨fun hmany => ?_, fun hfew => ?_⟩
    · repeat (refine W.seq ?_)
      refine W.reg0 ?_
      simp only [go_sem, Nat.reduceEqDiff, reduceIte, Nat.reduceAdd, Nat.reduceSub, Nat.reduceMul, Nat.reduceLT, Nat.reduceLeDiff]
      repeat (refine W.seq ?_)
      refine W.ret ?_
      simp only [outW, resultA, resA, loadA, loadC, rd, ofCells, go_sem, Nat.reduceEqDiff, reduceIte, Nat.reduceAdd, Nat.reduceSub, Nat.reduceMul, Nat.reduceLT, Nat.reduceLeDiff]
      have hp : printS cores tasks tick slice origin l = ([], 10) := by unfold printS; rw [if_pos hmany]
      rw [hp]
      exact ⟨trivial, _, rfl, hg1, rfl⟩
    have hpre : ¬ (0 ≤ cores ∧ cores ≤ 1073741824 ∧ 0 ≤ tasks ∧ tasks ≤ 1073741824) → printS cores tasks tick slice origin l = ([], 9) := fun hn => by unfold printS; rw [if_neg hfew, if_pos hn]
    by_cases k1 : cores < 0
    · repeat (refine W.seq ?_)
      refine W.reg0 ?_
      simp only [go_sem, Nat.reduceEqDiff, reduceIte, Nat.reduceAdd, Nat.reduceSub, Nat.reduceMul, Nat.reduceLT, Nat.reduceLeDiff, loadA, loadC, ofCells, c0, c1, show decide (cores < Int.ofNat 0) = true from decide_eq_true k1]
      repeat (refine W.seq ?_)
      refine W.cond2 ?_
      simp only [go_sem, Nat.reduceEqDiff, reduceIte, Nat.reduceAdd, Nat.reduceSub, Nat.reduceMul, Nat.reduceLT, Nat.reduceLeDiff]
      refine ⟨fun _ => ?_, fun hc => (by simp at hc)⟩
      repeat (refine W.seq ?_)
      refine W.reg0 ?_
      simp only [go_sem, Nat.reduceEqDiff, reduceIte, Nat.reduceAdd, Nat.reduceSub, Nat.reduceMul, Nat.reduceLT, Nat.reduceLeDiff]
      repeat (refine W.seq ?_)
      refine W.ret ?_
      simp only [outW, resultA, resA, loadA, loadC, rd, ofCells, go_sem, Nat.reduceEqDiff, reduceIte, Nat.reduceAdd, Nat.reduceSub, Nat.reduceMul, Nat.reduceLT, Nat.reduceLeDiff]
      rw [hpre (by omega)]
      exact ⟨trivial, _, rfl, hg1, rfl⟩
    have k1' : decide (cores < Int.ofNat 0) = false := decide_eq_false k1
    by_cases k2 : cores > 1073741824
    · repeat (refine W.seq ?_)
      refine W.reg0 ?_
      simp only [go_sem, Nat.reduceEqDiff, reduceIte, Nat.reduceAdd, Nat.reduceSub, Nat.reduceMul, Nat.reduceLT, Nat.reduceLeDiff, loadA, loadC, ofCells, c0, c1, k1', show decide (cores > Int.ofNat 1073741824) = true from decide_eq_true k2]
      repeat (refine W.seq ?_)
      refine W.cond2 ?_
      simp only [go_sem, Nat.reduceEqDiff, reduceIte, Nat.reduceAdd, Nat.reduceSub, Nat.reduceMul, Nat.reduceLT, Nat.reduceLeDiff]
      refine ⟨fun _ => ?_, fun hc => (by simp at hc)⟩
      repeat (refine W.seq ?_)
      refine W.reg0 ?_
      simp only [go_sem, Nat.reduceEqDiff, reduceIte, Nat.reduceAdd, Nat.reduceSub, Nat.reduceMul, Nat.reduceLT, Nat.reduceLeDiff]
      repeat (refine W.seq ?_)
      refine W.ret ?_
      simp only [outW, resultA, resA, loadA, loadC, rd, ofCells, go_sem, Nat.reduceEqDiff, reduceIte, Nat.reduceAdd, Nat.reduceSub, Nat.reduceMul, Nat.reduceLT, Nat.reduceLeDiff]
      rw [hpre (by omega)]
      exact ⟨trivial, _, rfl, hg1, rfl⟩
    have k2' : decide (cores > Int.ofNat 1073741824) = false := decide_eq_false k2
    by_cases k3 : tasks < 0
    · repeat (refine W.seq ?_)
      refine W.reg0 ?_
      simp only [go_sem, Nat.reduceEqDiff, reduceIte, Nat.reduceAdd, Nat.reduceSub, Nat.reduceMul, Nat.reduceLT, Nat.reduceLeDiff, loadA, loadC, ofCells, c0, c1, k1', k2', show decide (tasks < Int.ofNat 0) = true from decide_eq_true k3]
      repeat (refine W.seq ?_)
      refine W.cond2 ?_
      simp only [go_sem, Nat.reduceEqDiff, reduceIte, Nat.reduceAdd, Nat.reduceSub, Nat.reduceMul, Nat.reduceLT, Nat.reduceLeDiff]
      refine ⟨fun _ => ?_, fun hc => (by simp at hc)⟩
      repeat (refine W.seq ?_)
      refine W.reg0 ?_
      simp only [go_sem, Nat.reduceEqDiff, reduceIte, Nat.reduceAdd, Nat.reduceSub, Nat.reduceMul, Nat.reduceLT, Nat.reduceLeDiff]
      repeat (refine W.seq ?_)
      refine W.ret ?_
      simp only [outW, resultA, resA, loadA, loadC, rd, ofCells, go_sem, Nat.reduceEqDiff, reduceIte, Nat.reduceAdd, Nat.reduceSub, Nat.reduceMul, Nat.reduceLT, Nat.reduceLeDiff]
      rw [hpre (by omega)]
      exact ⟨trivial, _, rfl, hg1, rfl⟩
    have k3' : decide (tasks < Int.ofNat 0) = false := decide_eq_false k3
    by_cases k4 : tasks > 1073741824
    · repeat (refine W.seq ?_)
      refine W.reg0 ?_
      simp only [go_sem, Nat.reduceEqDiff, reduceIte, Nat.reduceAdd, Nat.reduceSub, Nat.reduceMul, Nat.reduceLT, Nat.reduceLeDiff, loadA, loadC, ofCells, c0, c1, k1', k2', k3', show decide (tasks > Int.ofNat 1073741824) = true from decide_eq_true k4]
      repeat (refine W.seq ?_)
      refine W.cond2 ?_
      simp only [go_sem, Nat.reduceEqDiff, reduceIte, Nat.reduceAdd, Nat.reduceSub, Nat.reduceMul, Nat.reduceLT, Nat.reduceLeDiff]
      refine ⟨fun _ => ?_, fun hc => (by simp at hc)⟩
      repeat (refine W.seq ?_)
      refine W.reg0 ?_
      simp only [go_sem, Nat.reduceEqDiff, reduceIte, Nat.reduceAdd, Nat.reduceSub, Nat.reduceMul, Nat.reduceLT, Nat.reduceLeDiff]
      repeat (refine W.seq ?_)
      refine W.ret ?_
      simp only [outW, resultA, resA, loadA, loadC, rd, ofCells, go_sem, Nat.reduceEqDiff, reduceIte, Nat.reduceAdd, Nat.reduceSub, Nat.reduceMul, Nat.reduceLT, Nat.reduceLeDiff]
      rw [hpre (by omega)]
      exact ⟨trivial, _, rfl, hg1, rfl⟩
    have k4' : decide (tasks > Int.ofNat 1073741824) = false := decide_eq_false k4
    repeat (refine W.seq ?_)
    refine W.reg0 ?_
    simp only [go_sem, Nat.reduceEqDiff, reduceIte, Nat.reduceAdd, Nat.reduceSub, Nat.reduceMul, Nat.reduceLT, Nat.reduceLeDiff, loadA, loadC, ofCells, c0, c1, k1', k2', k3', k4']
    repeat (refine W.seq ?_)
    refine W.cond2 ?_
    simp only [go_sem, Nat.reduceEqDiff, reduceIte, Nat.reduceAdd, Nat.reduceSub, Nat.reduceMul, Nat.reduceLT, Nat.reduceLeDiff]
    refine ⟨fun hc => (by simp at hc), fun _ => ?_⟩
    repeat (refine W.seq ?_)
    refine W.skip ?_
    simp only [go_sem, Nat.reduceEqDiff, reduceIte, Nat.reduceAdd, Nat.reduceSub, Nat.reduceMul, Nat.reduceLT, Nat.reduceLeDiff]
    exact ⟨trivial, trivial, by first | trivial | rfl, by first | trivial | rfl, by omega, by omega⟩
  intro a hh ⟨hh1, hn, g1, g2, hfew, hrng⟩
  subst hh1
  obtain ⟨cn, rfl⟩ : ∃ n : Nat, cores = Int.ofNat n := ⟨cores.toNat, by show cores = ((cores.toNat : Nat) : Int); omega⟩
  obtain ⟨tn, rfl⟩ : ∃ n : Nat, tasks = Int.ofNat n := ⟨tasks.toNat, by show tasks = ((tasks.toNat : Nat) : Int); omega⟩
  have hcn : cn ≤ 1073741824 := by have : (cn : Int) ≤ 1073741824 := hrng.2.1; omega
  have htn : tn ≤ 1073741824 := by have : (tn : Int) ≤ 1073741824 := hrng.2.2.2; omega
  have hPS : printS (Int.ofNat cn) (Int.ofNat tn) tick slice origin l = (if l.all lineOK = true then (if 65536 < (sysT cn tn tick slice origin ++ bodyT l).length then ([], 11) else (sysT cn tn tick slice origin ++ bodyT l, 0)) else ([], 9)) := by
    unfold printS
    rw [if_neg (by omega), if_neg (not_not_intro hrng)]
    rfl
  -- the builder, the first line
  have hG2 : Grows hh (hh.new (.bvar 72 false none)) := (Grows.refl hh).new _
  have hB2 : Bld 72 5 hh.next (hh.new (.bvar 72 false none)) hh.next [] := Bld.new (Nat.le_refl _) false
  have hn2 : (hh.new (.bvar 72 false none)).next = hh.next + 1 := rfl
  repeat (refine W.seq ?_)
  refine W.reg0 ?_
  simp only [go_sem, Nat.reduceEqDiff, reduceIte, Nat.reduceAdd, Nat.reduceSub, Nat.reduceMul, Nat.reduceLT, Nat.reduceLeDiff, hn, zero72]
  generalize hh.new (.bvar 72 false none) = h2 at hG2 hB2 hn2 ⊢
  have c0 := (rd_kept hG2 (o := h.next) (off := 0) (n := 1) (by omega)).trans c0
  have c1 := (rd_kept hG2 (o := h.next) (off := 1) (n := 1) (by omega)).trans c1
  have c2 := (rd_kept hG2 (o := h.next) (off := 2) (n := 1) (by omega)).trans c2
  have c3 := (rd_kept hG2 (o := h.next) (off := 3) (n := 1) (by omega)).trans c3
  have c4 := (rd_kept hG2 (o := h.next) (off := 4) (n := 1) (by omega)).trans c4
  have hG3 : Grows h2 (h2.new (.cells (u64C [cn, tn, tick, slice, origin]) 23)) := (Grows.refl h2).new _
  have hr3 : NewRow 23 h2.next (h2.new (.cells (u64C [cn, tn, tick, slice, origin]) 23)) (.slice (some ⟨h2.next, 0, none⟩) 5 1) 5 1 (u64C [cn, tn, tick, slice, origin]) := .inr ⟨h2.next, Nat.le_refl _, Nat.lt_succ_self _, rfl, H.get_new' _ _, rfl⟩
  have ht3 : HT (h2.new (.cells (u64C [cn, tn, tick, slice, origin]) 23)) := ht.g ((hg1.trans hG2).trans hG3)
  obtain ⟨v4, h4, e4, hG4, hv4⟩ := x_digits pp [cn, tn, tick, slice, origin] _ _ (by simp) (by intro x hx; simp only [List.mem_cons, List.not_mem_nil, or_false] at hx; rcases hx with rfl | rfl | rfl | rfl | rfl <;> omega) ht3 (NewRow.view hr3)
  have hsmall : ∀ w ∈ [cn, tn, tick, slice, origin].map decL, w.length ≤ 100000 := by
    intro w hw
    obtain ⟨x, hx, rfl⟩ := List.mem_map.1 hw
    have := decL_len x (by simp only [List.mem_cons, List.not_mem_nil, or_false] at hx; rcases hx with rfl | rfl | rfl | rfl | rfl <;> omega)
    omega
  obtain ⟨v5, h5, e5, hG5, rfl⟩ := x_join pp ([cn, tn, tick, slice, origin].map decL) v4 h4 (by simp) hsmall (NewStrs.view hv4)
  have hjl := joinL_len ([cn, tn, tick, slice, origin].map decL) hsmall
  simp only [List.length_map, List.length_cons, List.length_nil] at hjl
  have s1 := str_cat ⟨#[115, 121, 115, 116, 101, 109, 32]⟩ (bsOf (joinL ([cn, tn, tick, slice, origin].map decL))) (by rw [bsOf_list]; show 7 + _ ≤ _; omega)
  have s2 := str_cat (bsOf ([115, 121, 115, 116, 101, 109, 32] ++ joinL ([cn, tn, tick, slice, origin].map decL))) ⟨#[10]⟩ (by rw [bsOf_list, List.length_append]; show 7 + _ + 1 ≤ _; omega)
  have hsys : (bsOf (([115, 121, 115, 116, 101, 109, 32] ++ joinL ([cn, tn, tick, slice, origin].map decL)) ++ [10])).data.toList = sysT cn tn tick slice origin := rfl
  have hsl : (sysT cn tn tick slice origin).length ≤ 600000 := by
    unfold sysT
    rw [List.length_append, List.length_append]
    show 7 + _ + 1 ≤ _
    omega
  have hG25 : Grows h2 h5 := (hG3.trans hG4).trans hG5
  obtain ⟨h6, e6, hB6, hn6, hlow6⟩ := x_wr pp (hB2.grows hG25) (bsOf (([115, 121, 115, 116, 101, 109, 32] ++ joinL ([cn, tn, tick, slice, origin].map decL)) ++ [10])) (by rw [hsys]; simp only [List.length_nil]; omega)
  rw [hsys, List.nil_append] at hB6
  have hG6 : Grows hh h6 := ⟨Nat.le_trans (hG2.trans hG25).next hn6, fun x hx => by rw [hlow6 x hx]; exact (hG2.trans hG25).get x hx⟩
  simp only [List.toList_toArray, bsOf_list, List.cons_append, List.nil_append, List.map_cons, List.map_nil] at s1 s2 e6
  simp only [u64C, List.map_cons, List.map_nil] at e4
  repeat (refine W.seq ?_)
  refine W.reg0 ?_
  simp only [go_sem, Nat.reduceEqDiff, reduceIte, Nat.reduceAdd, Nat.reduceSub, Nat.reduceMul, Nat.reduceLT, Nat.reduceLeDiff, hn, g2, loadA, loadC, ofCells, c0, c1, c2, c3, c4, convU (show cn ≤ 18446744073709551615 by omega), convU (show tn ≤ 18446744073709551615 by omega), List.all_cons, List.all_nil, effA, e4, e5, s1, s2, e6]
  repeat (refine W.seq ?_)
  refine W.reg0 ?_
  simp only [go_sem, Nat.reduceEqDiff, reduceIte, Nat.reduceAdd, Nat.reduceSub, Nat.reduceMul, Nat.reduceLT, Nat.reduceLeDiff, hn, g1]
  repeat (refine W.seq ?_)
  refine W.block ?_
  refine W.loop_inv (fun k a h7 => ∃ i, k = l.length - i ∧ i ≤ l.length ∧ a.n = 73 ∧ Grows hh h7 ∧ a.m.get 6 = some (.pointer (some ⟨hh.next, 0, none⟩)) ∧ a.m.get 52 = some (.slice p l.length s) ∧ a.m.get 53 = some (.int .i64 (.ofNat l.length)) ∧ a.m.get 54 = some (.int .i64 (.ofNat i)) ∧
    Bld 72 5 hh.next h7 hh.next (sysT cn tn tick slice origin ++ bodyT (l.take i)) ∧ (l.take i).all lineOK = true) ?_ l.length _ _ ?_
  · intro k a h7 ⟨i, hk, hi, hn, hG7, g6, g52, g53, g54, hB7, hok⟩
    repeat (refine W.seq ?_)
    refine W.reg0 ?_
    simp only [go_sem, Nat.reduceEqDiff, reduceIte, Nat.reduceAdd, Nat.reduceSub, Nat.reduceMul, Nat.reduceLT, Nat.reduceLeDiff, hn, g52, g53, g54]
    repeat (refine W.seq ?_)
    refine W.cond2 ?_
    simp only [go_sem, Nat.reduceEqDiff, reduceIte, Nat.reduceAdd, Nat.reduceSub, Nat.reduceMul, Nat.reduceLT, Nat.reduceLeDiff]
    refine ⟨fun hlt => ?_, fun hge => ?_⟩
    · obtain ⟨rfl, o, off, rfl, hrd⟩ := (hrow.grows (hg1.trans hG7)).at hlt
      have hts : l.take (i + 1) = l.take i ++ [l[i]] := by rw [List.take_add_one, List.getElem?_eq_getElem hlt]; rfl
      have hmem : l[i] ∈ l := List.getElem_mem hlt
      have hcv := (hels i hlt).grows (hg1.trans hG7)
      have hcB := hB _ hmem
      have hbad : lineOK l[i] = false → l.all lineOK = false := fun hf => by
        rw [List.all_eq_false]; exact ⟨_, hmem, by rw [hf]; simp⟩
      have hbl := bodyT_len (l.take i) (fun c hc => hB c (List.mem_of_mem_take hc)) hok
      have hbl2 : (bodyT (l.take i)).length ≤ 200002001000 := by
        have : (l.take i).length ≤ 1000 := by rw [List.length_take]; omega
        exact Nat.le_trans hbl (Nat.mul_le_mul_right 200002001 this)
      generalize l[i] = c at hts hmem hcv hcB hbad
      obtain ⟨z, vN, vS, hel, hN, hS⟩ := hcv
      obtain ⟨pN, sN, eN⟩ := hN.len
      obtain ⟨pS, sS, eS⟩ := hS.len
      subst eN; subst eS
      have hcv2 : CmdV h7 (el i) c := ⟨z, _, _, hel, hN, hS⟩
      have hG8 : Grows h7 ((h7.new (.cells cmdZ 50)).set h7.next (.cells (el i) 50)) := ((Grows.refl h7).new _).set (Nat.le_refl _) _
      have ha8 : ((h7.new (.cells cmdZ 50)).set h7.next (.cells (el i) 50)).get h7.next = some (.cells (el i) 50) := by rw [H.get_set, if_pos rfl]
      obtain ⟨rv, h9, e9, hG9, vw, rfl, hvw⟩ := x_line px pp c (el i) ((h7.new (.cells cmdZ 50)).set h7.next (.cells (el i) 50)) hcB (ht.g ((hg1.trans hG7).trans hG8)) (hcv2.grows hG8)
      have hB9 := hB7.grows (hG8.trans hG9)
      have hG79 : Grows hh h9 := (hG7.trans hG8).trans hG9
      have hrself : rd ((h7.new (.cells cmdZ 50)).set h7.next (.cells (el i) 50)) h7.next 0 6 = some (el i) := by
        unfold rd
        rw [ha8]
        exact seg_all _ (by rw [hel]; rfl)
      rw [hel] at e9 hrself hrd
      simp only [cmdZ, hel] at e9 hrself
      repeat (refine W.seq ?_)
      refine W.skip ?_
      simp only [go_sem, Nat.reduceEqDiff, reduceIte, Nat.reduceAdd, Nat.reduceSub, Nat.reduceMul, Nat.reduceLT, Nat.reduceLeDiff]
      repeat (refine W.seq ?_)
      refine W.block ?_
      repeat (refine W.seq ?_)
      refine W.reg0 ?_
      simp only [go_sem, Nat.reduceEqDiff, reduceIte, Nat.reduceAdd, Nat.reduceSub, Nat.reduceMul, Nat.reduceLT, Nat.reduceLeDiff, hn, g52, g54, hlt, loadA, loadC, ofCells, hrd, effA, List.all_cons, List.all_nil, bs_nil]
      repeat (refine W.seq ?_)
      refine W.reg0 ?_
      simp only [go_sem, Nat.reduceEqDiff, reduceIte, Nat.reduceAdd, Nat.reduceSub, Nat.reduceMul, Nat.reduceLT, Nat.reduceLeDiff, hn, loadA, loadC, ofCells, hrself, effA, e9]
      cases hl : lineOK c with
      | false =>
        rw [hl] at e9
        repeat (refine W.seq ?_)
        refine W.reg0 ?_
        simp only [go_sem, Nat.reduceEqDiff, reduceIte, Nat.reduceAdd, Nat.reduceSub, Nat.reduceMul, Nat.reduceLT, Nat.reduceLeDiff, hn, hl, Bool.not_false, Bool.not_true]
        repeat (refine W.seq ?_)
        refine W.cond2 ?_
        simp only [go_sem, Nat.reduceEqDiff, reduceIte, Nat.reduceAdd, Nat.reduceSub, Nat.reduceMul, Nat.reduceLT, Nat.reduceLeDiff]
        refine ⟨fun _ => ?_, fun hc => (by simp at hc)⟩
        repeat (refine W.seq ?_)
        refine W.reg0 ?_
        simp only [go_sem, Nat.reduceEqDiff, reduceIte, Nat.reduceAdd, Nat.reduceSub, Nat.reduceMul, Nat.reduceLT, Nat.reduceLeDiff, hn]
        repeat (refine W.seq ?_)
        refine W.ret ?_
        simp only [outW, resultA, resA, loadA, loadC, rd, ofCells, go_sem, Nat.reduceEqDiff, reduceIte, Nat.reduceAdd, Nat.reduceSub, Nat.reduceMul, Nat.reduceLT, Nat.reduceLeDiff]
        rw [hPS, hbad hl]
        exact ⟨trivial, _, rfl, hg1.trans hG79, rfl⟩
      | true =>
        rw [hl] at e9
        obtain ⟨hop12, hst⟩ := lineOK_and hl
        obtain ⟨hw1, hw2⟩ := wordsP_small hcB hop12 hst
        obtain ⟨v10, h10, e10, hG10, rfl⟩ := x_join pp (wordsP c) vw h9 hw1 hw2 (NewStrs.view (hvw hl))
        have hll := lineT_len hcB hl
        have hlt0 : lineT c = joinL (wordsP c) ++ [10] := rfl
        have hll2 : (joinL (wordsP c)).length ≤ 200002001 := by rw [hlt0, List.length_append] at hll; omega
        have s3 := str_cat (bsOf (joinL (wordsP c))) ⟨#[10]⟩ (by rw [bsOf_list]; show _ + 1 ≤ _; omega)
        simp only [List.toList_toArray, bsOf_list] at s3
        obtain ⟨h11, e11, hB11, hn11, hlow11⟩ := x_wr pp (hB9.grows hG10) (bsOf (joinL (wordsP c) ++ [10])) (by rw [bsOf_list, List.length_append, List.length_append]; show _ + _ + (_ + 1) ≤ _; omega)
        rw [bsOf_list, List.append_assoc, ← hlt0, ← bodyT_snoc, ← hts] at hB11
        have hG11 : Grows hh h11 := ⟨Nat.le_trans (hG79.trans hG10).next hn11, fun x hx => by rw [hlow11 x hx]; exact (hG79.trans hG10).get x hx⟩
        repeat (refine W.seq ?_)
        refine W.reg0 ?_
        simp only [go_sem, Nat.reduceEqDiff, reduceIte, Nat.reduceAdd, Nat.reduceSub, Nat.reduceMul, Nat.reduceLT, Nat.reduceLeDiff, hn, hl, Bool.not_false, Bool.not_true]
        repeat (refine W.seq ?_)
        refine W.cond2 ?_
        simp only [go_sem, Nat.reduceEqDiff, reduceIte, Nat.reduceAdd, Nat.reduceSub, Nat.reduceMul, Nat.reduceLT, Nat.reduceLeDiff]
        refine ⟨fun hc => (by simp at hc), fun _ => ?_⟩
        repeat (refine W.seq ?_)
        refine W.skip ?_
        simp only [go_sem, Nat.reduceEqDiff, reduceIte, Nat.reduceAdd, Nat.reduceSub, Nat.reduceMul, Nat.reduceLT, Nat.reduceLeDiff]
        repeat (refine W.seq ?_)
        refine W.reg0 ?_
        simp only [go_sem, Nat.reduceEqDiff, reduceIte, Nat.reduceAdd, Nat.reduceSub, Nat.reduceMul, Nat.reduceLT, Nat.reduceLeDiff, hn, g6, effA, e10, s3, e11]
        repeat (refine W.seq ?_)
        refine W.reg0 ?_
        simp only [go_sem, Nat.reduceEqDiff, reduceIte, Nat.reduceAdd, Nat.reduceSub, Nat.reduceMul, Nat.reduceLT, Nat.reduceLeDiff, hn, inc_nat (show i + 1 ≤ 9223372036854775807 by omega), g54]
        refine ⟨l.length - (i + 1), by omega, i + 1, rfl, by omega, ?_⟩
        simp only [go_sem, Nat.reduceEqDiff, reduceIte, Nat.reduceAdd, Nat.reduceSub, Nat.reduceMul, Nat.reduceLT, Nat.reduceLeDiff, hn, g6, g52, g53, g54]
        refine ⟨trivial, hG11, trivial, trivial, trivial, trivial, hB11, ?_⟩
        rw [hts, List.all_append, hok]
        simp [hl]
    · have hi' : i = l.length := by omega
      subst hi'
      rw [List.take_of_length_le (Nat.le_refl _)] at hB7 hok
      have eb := x_blen pp hB7
      have es := x_bstr pp hB7
      rw [if_pos hok] at hPS
      repeat (refine W.seq ?_)
      refine W.exit ?_
      simp only [go_sem, Nat.reduceEqDiff, reduceIte, Nat.reduceAdd, Nat.reduceSub, Nat.reduceMul, Nat.reduceLT, Nat.reduceLeDiff]
      repeat (refine W.seq ?_)
      refine W.reg0 ?_
      simp only [go_sem, Nat.reduceEqDiff, reduceIte, Nat.reduceAdd, Nat.reduceSub, Nat.reduceMul, Nat.reduceLT, Nat.reduceLeDiff, hn, g6, effA, eb]
      repeat (refine W.seq ?_)
      refine W.cond2 ?_
      simp only [go_sem, Nat.reduceEqDiff, reduceIte, Nat.reduceAdd, Nat.reduceSub, Nat.reduceMul, Nat.reduceLT, Nat.reduceLeDiff]
      refine ⟨fun hbig => ?_, fun hsm => ?_⟩
      · repeat (refine W.seq ?_)
        refine W.reg0 ?_
        simp only [go_sem, Nat.reduceEqDiff, reduceIte, Nat.reduceAdd, Nat.reduceSub, Nat.reduceMul, Nat.reduceLT, Nat.reduceLeDiff, hn]
        repeat (refine W.seq ?_)
        refine W.ret ?_
        simp only [outW, resultA, resA, loadA, loadC, rd, ofCells, go_sem, Nat.reduceEqDiff, reduceIte, Nat.reduceAdd, Nat.reduceSub, Nat.reduceMul, Nat.reduceLT, Nat.reduceLeDiff]
        rw [hPS, if_pos hbig]
        exact ⟨trivial, _, rfl, hg1.trans hG7, rfl⟩
      · repeat (refine W.seq ?_)
        refine W.skip ?_
        simp only [go_sem, Nat.reduceEqDiff, reduceIte, Nat.reduceAdd, Nat.reduceSub, Nat.reduceMul, Nat.reduceLT, Nat.reduceLeDiff]
        repeat (refine W.seq ?_)
        refine W.reg0 ?_
        simp only [go_sem, Nat.reduceEqDiff, reduceIte, Nat.reduceAdd, Nat.reduceSub, Nat.reduceMul, Nat.reduceLT, Nat.reduceLeDiff, hn, g6, effA, es]
        repeat (refine W.seq ?_)
        refine W.ret ?_
        simp only [outW, resultA, resA, loadA, loadC, rd, ofCells, go_sem, Nat.reduceEqDiff, reduceIte, Nat.reduceAdd, Nat.reduceSub, Nat.reduceMul, Nat.reduceLT, Nat.reduceLeDiff]
        rw [hPS, if_neg hsm]
        exact ⟨trivial, _, rfl, hg1.trans hG7, rfl⟩
  · simp only [go_sem, Nat.reduceEqDiff, reduceIte, Nat.reduceAdd, Nat.reduceSub, Nat.reduceMul, Nat.reduceLT, Nat.reduceLeDiff]
    refine ⟨0, rfl, Nat.zero_le _, (by first | trivial | exact hn), hG6, (by first | trivial | rfl), (by first | trivial | rfl), (by first | trivial | rfl), (by first | trivial | rfl), ?_, rfl⟩
    simpa [bodyT] using hB6
end Go.Proofs.YtkoccbggjfbgaaaGreatDoor
end
