/-
  The script seat: numbers as words, words joined, words that can be written. The script seat: strings.Join with a blank. The script seat: words that can be written; what a row of words has. The script seat: the program's line of a command.
-/
import Derived.Test.YtkoccbggjfbgaaaGreatDoorK10
import Derived.Test.YtkoccbggjfbgaaaGreatDoorK12
import Derived.Test.YtkoccbggjfbgaaaGreatDoorK13
import Derived.Lib.SmallJoins
set_option linter.all false

section
open Go.Eng
set_option maxRecDepth 100000
set_option linter.unusedSimpArgs false
set_option linter.unusedVariables false
namespace Go.Proofs.YtkoccbggjfbgaaaGreatDoor
variable {X : Tr Nat}

theorem zero72 (X : Tr Nat) : (EX X).zero 72 = some (.agg #[.pointer none, .slice none 0 0]) := by kernel_rfl
theorem gf5 (X : Tr Nat) : (EX X).F.get 5 = some Tryz.f5 := by kernel_rfl
theorem gf14 (X : Tr Nat) : (EX X).F.get 14 = some Tryz.f14 := by kernel_rfl
theorem gf15 (X : Tr Nat) : (EX X).F.get 15 = some Tryz.f15 := by kernel_rfl
theorem gf16 (X : Tr Nat) : (EX X).F.get 16 = some Tryz.f16 := by kernel_rfl
theorem gf35 (X : Tr Nat) : (EX X).F.get 35 = some Tryz.f35 := by kernel_rfl
theorem gf36 (X : Tr Nat) : (EX X).F.get 36 = some Tryz.f36 := by kernel_rfl
theorem gf37 (X : Tr Nat) : (EX X).F.get 37 = some Tryz.f37 := by kernel_rfl
theorem gf40 (X : Tr Nat) : (EX X).F.get 40 = some Tryz.f40 := by kernel_rfl
theorem gf62 (X : Tr Nat) : (EX X).F.get 62 = some Tryz.f62 := by kernel_rfl
theorem gf64 (X : Tr Nat) : (EX X).F.get 64 = some Tryz.f64 := by kernel_rfl
theorem gf65 (X : Tr Nat) : (EX X).F.get 65 = some Tryz.f65 := by kernel_rfl
theorem gf66 (X : Tr Nat) : (EX X).F.get 66 = some Tryz.f66 := by kernel_rfl
theorem gf72 (X : Tr Nat) : (EX X).F.get 72 = some Tryz.f72 := by kernel_rfl
theorem gf94 (X : Tr Nat) : (EX X).F.get 94 = some Tryz.f94 := by kernel_rfl

/-- the functions of printing: which the machine walks, which it answers by itself -/
structure PP (X : Tr Nat) : Prop where
  n5 : X.get 5 = none
  n14 : X.get 14 = none
  n15 : X.get 15 = none
  n16 : X.get 16 = none
  n35 : X.get 35 = none
  n36 : X.get 36 = none
  n37 : X.get 37 = none
  n40 : X.get 40 = none
  n62 : X.get 62 = none
  n64 : X.get 64 = none
  n65 : X.get 65 = none
  n66 : X.get 66 = none
  n72 : X.get 72 = none
  n94 : X.get 94 = none
  dec : X.get 39 = some 5242932
  itoa : X.get 38 = some 5242943
  write : X.get 32 = some 75497559
  grow : X.get 31 = some 75497560
  blen : X.get 33 = some 75497561
  bstr : X.get 34 = some 75497563
  any : X.get 95 = some 64
  count : X.get 54 = some 80
  index : X.get 55 = some 96

/-- the object 5 is the table of ten's powers -/
def HT (h : H) : Prop := 5 < h.next ∧ tabA 5 3 h = true
theorem HT.g {h h' : H} (a : HT h) (g : Grows h h') : HT h' := by
  refine ⟨Nat.lt_of_lt_of_le a.1 g.next, ?_⟩
  have := a.2
  unfold tabA at this ⊢
  rw [g.get 5 a.1]; exact this

def decL (n : Nat) : List UInt8 := Lib.decDigits n
theorem x_dec (pp : PP X) (n : Nat) (hn : n ≤ 18446744073709551615) (h : H) (ht : HT h) : callS (EX X) 39 [.int .u64 (Int.ofNat n), .int .i64 (Int.ofNat 10)] h = some (.string (bsOf (decL n)), h) := by
  rw [call_hook (show (EX X).X.get 39 = some 5242932 from pp.dec), hook_dec_eq (o := 5) (b := 3) (by decide) (by decide) (by decide)]
  unfold hDec
  have h1 : decide ((Int.ofNat 10 : Int) = 10) = true := rfl
  simp only [h1, Nat.ble_eq_true_of_le hn, ht.2]
  cases Nat.blt n 100 <;> rfl
theorem x_itoa (pp : PP X) (n : Nat) (hn : n ≤ 9223372036854775807) (h : H) (ht : HT h) : callS (EX X) 38 [.int .i64 (Int.ofNat n)] h = some (.string (bsOf (decL n)), h) := by
  rw [call_hook (show (EX X).X.get 38 = some 5242943 from pp.itoa), hook_itoa_eq (o := 5) (b := 3) (by decide) (by decide) (by decide)]
  unfold hItoa
  have h1 : decide (-9223372036854775808 ≤ (Int.ofNat n : Int) ∧ (Int.ofNat n : Int) ≤ 9223372036854775807) = true := by
    refine decide_eq_true ⟨?_, ?_⟩
    · show (-9223372036854775808 : Int) ≤ (n : Int)
      omega
    · show (n : Int) ≤ 9223372036854775807
      omega
  simp only [h1, ht.2]
  rfl

/-! ### Numbers as words -/
theorem x_digits (pp : PP X) (ns : List Nat) (v : Value) (h : H) (hl : ns.length ≤ 1000) (hn : ∀ n ∈ ns, n ≤ 18446744073709551615) (ht : HT h) (hv : RView h v (u64C ns)) :
    ∃ r h', callS (EX X) 36 [v] h = some (r, h') ∧ (Grows h h' ∧ NewStrs 9 h.next h' r (ns.map decL)) := by
  refine call_of pp.n36 (gf36 X) rfl (rs := [.tmp 2]) rfl (m := 19) rfl ?_
  obtain ⟨p, s, e⟩ := hv.len
  rw [u64C_length] at e
  subst e
  repeat (refine W.seq ?_)
  refine W.reg0 ?_
  simp only [go_sem, Nat.reduceSub, Nat.reduceAdd, Nat.reduceLT]
  repeat (refine W.seq ?_)
  refine W.reg0 ?_
  simp only [go_sem, Nat.reduceLT]
  repeat (refine W.seq ?_)
  refine W.reg0 ?_
  simp only [go_sem, Nat.reduceEqDiff, reduceIte, Nat.reduceLT]
  repeat (refine W.seq ?_)
  refine W.block ?_
  refine W.loop_inv (fun k a h' => ∃ i w, k = ns.length - i ∧ i ≤ ns.length ∧ a.n = 19 ∧ Grows h h' ∧ a.m.get 6 = some (.slice p ns.length s) ∧ a.m.get 7 = some (.int .i64 (.ofNat ns.length)) ∧ a.m.get 8 = some (.int .i64 (.ofNat i)) ∧ a.m.get 3 = some w ∧
    NewStrs 9 h.next h' w ((ns.take i).map decL)) ?_ ns.length _ _ ?_
  · intro k a h' ⟨i, w, hk, hi, hn', hg, g6, g7, g8, g3, hw⟩
    repeat (refine W.seq ?_)
    refine W.reg0 ?_
    simp only [go_sem, g8, g7, hn', Nat.reduceLT]
    repeat (refine W.seq ?_)
    refine W.cond2 ?_
    simp only [go_sem, reduceIte]
    refine ⟨fun hlt => ?_, fun hge => ?_⟩
    · have hat : (u64C ns)[i]? = some (.int .u64 (Int.ofNat ns[i])) := by rw [u64C_at hlt]
      obtain ⟨rfl, o, off, rfl, hrd⟩ := (hv.grows hg).at hat
      have hd := x_dec pp ns[i] (hn _ (List.getElem_mem hlt)) h' (ht.g hg)
      obtain ⟨w', h2, e2, hw2, hg2⟩ := app_str (sl52 X) hw hg (decL ns[i]) (by simp; omega)
      repeat (refine W.seq ?_)
      refine W.skip ?_
      simp only [go_sem]
      repeat (refine W.seq ?_)
      refine W.block ?_
      repeat (refine W.seq ?_)
      refine W.reg0 ?_
      simp only [go_sem, hlt, Nat.reduceEqDiff, g6, reduceIte, g8, Nat.reduceLT, loadA, loadC, hrd, ofCells]
      repeat (refine W.seq ?_)
      refine W.reg0 ?_
      simp only [go_sem, Nat.reduceEqDiff, g3, reduceIte, Nat.reduceLT, hd, Nat.reduceLeDiff, effA, e2]
      repeat (refine W.seq ?_)
      refine W.reg0 ?_
      simp only [go_sem, Nat.reduceEqDiff, g8, reduceIte, inc_nat (show i + 1 ≤ 9223372036854775807 by omega), Nat.reduceLT]
      refine ⟨ns.length - (i + 1), by omega, i + 1, w', rfl, by omega, ?_⟩
      simp only [g6, g7]
      refine ⟨trivial, hg2, trivial, trivial, trivial, trivial, ?_⟩
      rw [List.take_add_one, List.getElem?_eq_getElem hlt]
      simp only [go_sem, List.map_append]
      exact hw2
    · repeat (refine W.seq ?_)
      refine W.exit ?_
      simp only [go_sem, reduceIte]
      repeat (refine W.seq ?_)
      refine W.reg0 ?_
      simp only [go_sem, Nat.reduceEqDiff, g3, reduceIte, Nat.reduceLT]
      repeat (refine W.seq ?_)
      refine W.ret ?_
      simp only [go_sem, outW, resultA, resA, Nat.reduceEqDiff, reduceIte]
      rw [List.take_of_length_le (by omega)] at hw
      exact ⟨trivial, _, rfl, hg, hw⟩
  · simp only [go_sem, Nat.reduceEqDiff, reduceIte]
    exact ⟨0, _, rfl, Nat.zero_le _, trivial, Grows.refl _, (by first | trivial | rfl), (by first | trivial | rfl), (by first | trivial | rfl), rfl, NewRow.nil _ _ _ _⟩
end Go.Proofs.YtkoccbggjfbgaaaGreatDoor
end

section
open Go.Eng
set_option maxRecDepth 100000
set_option linter.unusedSimpArgs false
set_option linter.unusedVariables false
namespace Go.Proofs.YtkoccbggjfbgaaaGreatDoor
variable {X : Tr Nat}

def joinL : List (List UInt8) → List UInt8
  | [] => []
  | x :: xs => x ++ xs.flatMap fun w => 32 :: w
theorem joinL_snoc (x : List UInt8) (xs : List (List UInt8)) (y : List UInt8) : joinL ((x :: xs) ++ [y]) = (joinL (x :: xs) ++ [32]) ++ y := by
  simp [joinL, List.flatMap_append]
theorem joinL_len : ∀ (l : List (List UInt8)), (∀ w ∈ l, w.length ≤ 100000) → (joinL l).length ≤ l.length * 100001
  | [], _ => by simp [joinL]
  | x :: xs, h => by
    have h1 := h x (by simp)
    have h2 : ∀ ys : List (List UInt8), (∀ w ∈ ys, w.length ≤ 100000) → (ys.flatMap fun w => 32 :: w).length ≤ ys.length * 100001 := by
      intro ys hy
      induction ys with
      | nil => simp
      | cons y ys ih =>
        have := ih fun w hw => hy w (by simp [hw])
        have := hy y (by simp)
        simp only [List.flatMap_cons, List.length_append, List.length_cons]
        omega
    have := h2 xs fun w hw => h w (by simp [hw])
    simp only [joinL, List.length_append, List.length_cons]
    omega
def sumL (l : List (List UInt8)) : Nat := (l.map List.length).sum
theorem sumL_snoc (l : List (List UInt8)) (x : List UInt8) : sumL (l ++ [x]) = sumL l + x.length := by simp [sumL]
theorem sumL_le (l : List (List UInt8)) (h : ∀ w ∈ l, w.length ≤ 100000) : sumL l ≤ l.length * 100000 := by
  induction l with
  | nil => simp [sumL]
  | cons x xs ih =>
    have := ih fun w hw => h w (by simp [hw])
    have := h x (by simp)
    simp only [sumL, List.map_cons, List.sum_cons, List.length_cons] at *
    omega

theorem x_wr (pp : PP X) {b : Nat} {h : H} {o : Nat} {l : List UInt8} (a : Bld 72 5 b h o l) (s : ByteArray) (hl : l.length + s.data.toList.length ≤ 140737488355328) :
    ∃ h', callS (EX X) 32 [.pointer (some ⟨o, 0, none⟩), .string s] h = some (.tuple #[.int .i64 (Int.ofNat s.data.toList.length), .nilIface], h') ∧ Bld 72 5 b h' o (l ++ s.data.toList) ∧ h.next ≤ h'.next ∧ ∀ x, x < b → h'.get x = h.get x := by
  rw [call_hook (show (EX X).X.get 32 = some 75497559 from pp.write), hook_write_eq (tb := 72) (e := 5) (by decide) (by decide) (by decide)]
  exact a.write s hl
theorem x_grow (pp : PP X) {b o : Nat} {h : H} (hb : b ≤ o) (ho : o < h.next) (hg : h.get o = some (.bvar 72 false none)) (n : Nat) (hn : n ≤ 281474976710656) :
    ∃ h', callS (EX X) 31 [.pointer (some ⟨o, 0, none⟩), .int .i64 (Int.ofNat n)] h = some (.tuple #[], h') ∧ Bld 72 5 b h' o [] ∧ h.next ≤ h'.next ∧ ∀ x, x < b → h'.get x = h.get x := by
  rw [call_hook (show (EX X).X.get 31 = some 75497560 from pp.grow), hook_grow_eq (tb := 72) (e := 5) (by decide) (by decide) (by decide)]
  exact grow_new hb ho hg n hn
theorem x_blen (pp : PP X) {b : Nat} {h : H} {o : Nat} {l : List UInt8} (a : Bld 72 5 b h o l) : callS (EX X) 33 [.pointer (some ⟨o, 0, none⟩)] h = some (.int .i64 (Int.ofNat l.length), h) := by
  rw [call_hook (show (EX X).X.get 33 = some 75497561 from pp.blen), hook_len_eq (tb := 72) (e := 5) (by decide) (by decide) (by decide)]
  exact a.len
theorem x_bstr (pp : PP X) {b : Nat} {h : H} {o : Nat} {l : List UInt8} (a : Bld 72 5 b h o l) : callS (EX X) 34 [.pointer (some ⟨o, 0, none⟩)] h = some (.string (bsOf l), h) := by
  rw [call_hook (show (EX X).X.get 34 = some 75497563 from pp.bstr), hook_str_eq (tb := 72) (e := 5) (by decide) (by decide) (by decide)]
  exact a.str

theorem x_join (pp : PP X) (l : List (List UInt8)) (v : Value) (h : H) (hl : l.length ≤ 2000) (hb : ∀ w ∈ l, w.length ≤ 100000) (hv : RView h v (strC l)) :
    ∃ r h', callS (EX X) 35 [v, .string ⟨#[32]⟩] h = some (r, h') ∧ (Grows h h' ∧ r = .string (bsOf (joinL l))) := by
  refine call_of pp.n35 (gf35 X) rfl (rs := [.tmp 4]) rfl (m := 75) rfl ?_
  have h32 : (ByteArray.mk #[32]).size = 1 := rfl
  match l, hl, hb, hv with
  | [], hl, hb, hv =>
    obtain ⟨p, s, e⟩ := hv.len
    have e : v = .slice p 0 s := e
    subst e
    repeat (refine W.seq ?_)
    refine W.reg0 ?_
    simp only [opsA, oneA, wantedA, List.length_cons, List.length_nil, Nat.zero_add, Nat.reduceAdd, Nat.reduceSub, enterT, opnds, evs, ev, plain, opA, cls, pureA, putT, blt_iff, Nat.reduceLT, decide_true, litI, regW_some, thenW_normal]
    repeat (refine W.seq ?_)
    refine W.reg0 ?_
    simp only [opsA, oneA, wantedA, opnds, evs, ev, Tr.get_set, Nat.reduceEqDiff, Tr.get_nil, reduceIte, opA, cls, pureA, putT, blt_iff, Nat.reduceLT, decide_true, succ0, und52, castI, goInt_nat, regW_some, thenW_normal]
    repeat (refine W.seq ?_)
    refine W.block ?_
    repeat (refine W.seq ?_)
    refine W.reg0 ?_
    simp only [opsA, oneA, wantedA, opnds, evs, ev, Tr.get_set, Nat.reduceEqDiff, succ0, Tr.get_nil, reduceIte, plain, opA, cls, pureA, abin2, abin, decide_true, deq, putT, blt_iff, Nat.reduceLT, regW_some, thenW_normal]
    repeat (refine W.seq ?_)
    refine W.cond2 ?_
    simp only [ev, Tr.get_set, Nat.reduceEqDiff, succ0, Tr.get_nil, reduceIte, condW_bool]
    refine ⟨fun _ => ?_, fun hc => (by simp at hc)⟩
    repeat (refine W.seq ?_)
    refine W.reg0 ?_
    simp only [opsA, oneA, wantedA, opnds, evs, ev, plain, opA, cls, pureA, putT, blt_iff, Nat.reduceLT, decide_true, regW_some, thenW_normal]
    repeat (refine W.seq ?_)
    refine W.ret ?_
    simp only [outB_ret, thenW_ret, outW, resultA, resA, Tr.get_set, Nat.reduceEqDiff, succ0, Tr.get_nil, reduceIte, ite_self]
    exact ⟨trivial, _, rfl, Grows.refl _, rfl⟩
  | [x], hl, hb, hv =>
    obtain ⟨p, s, e⟩ := hv.len
    have e : v = .slice p 1 s := e
    subst e
    obtain ⟨rfl, o, off, rfl, hrd⟩ := hv.at (i := 0) (x := .string (bsOf x)) rfl
    rw [Nat.add_zero] at hrd
    repeat (refine W.seq ?_)
    refine W.reg0 ?_
    simp only [opsA, oneA, wantedA, List.length_cons, List.length_nil, Nat.zero_add, Nat.reduceAdd, Nat.reduceSub, enterT, opnds, evs, ev, plain, opA, cls, pureA, putT, blt_iff, Nat.reduceLT, decide_true, litI, regW_some, thenW_normal]
    repeat (refine W.seq ?_)
    refine W.reg0 ?_
    simp only [opsA, oneA, wantedA, opnds, evs, ev, Tr.get_set, Nat.reduceEqDiff, Tr.get_nil, reduceIte, opA, cls, pureA, putT, blt_iff, Nat.reduceLT, decide_true, succ0, und52, castI, goInt_nat, regW_some, thenW_normal]
    repeat (refine W.seq ?_)
    refine W.block ?_
    repeat (refine W.seq ?_)
    refine W.reg0 ?_
    simp only [opsA, oneA, wantedA, opnds, evs, ev, Tr.get_set, Nat.reduceEqDiff, succ0, Tr.get_nil, reduceIte, plain, opA, cls, pureA, abin2, abin, decide_true, deq, decide_false, putT, blt_iff, Nat.reduceLT, regW_some, thenW_normal]
    repeat (refine W.seq ?_)
    refine W.cond2 ?_
    simp only [ev, Tr.get_set, Nat.reduceEqDiff, succ0, Tr.get_nil, reduceIte, condW_bool]
    refine ⟨fun hc => (by simp at hc), fun _ => ?_⟩
    repeat (refine W.seq ?_)
    refine W.reg0 ?_
    simp only [opsA, oneA, wantedA, opnds, evs, ev, Tr.get_set, Nat.reduceEqDiff, succ0, Tr.get_nil, reduceIte, plain, opA, cls, pureA, abin2, abin, decide_true, deq, putT, blt_iff, Nat.reduceLT, regW_some, thenW_normal]
    repeat (refine W.seq ?_)
    refine W.cond2 ?_
    simp only [ev, Tr.get_set, Nat.reduceEqDiff, succ0, Tr.get_nil, reduceIte, condW_bool]
    refine ⟨fun _ => ?_, fun hc => (by simp at hc)⟩
    repeat (refine W.seq ?_)
    refine W.reg0 ?_
    simp only [opsA, oneA, wantedA, opnds, evs, ev, Tr.get_set, Nat.reduceEqDiff, Tr.get_nil, reduceIte, ite_self, opA, cls, pureA, putT, blt_iff, Nat.reduceLT, decide_true, succ0, plain, und52, size9, pos1, Nat.mul_one, Nat.add_zero, loadA, agg9, loadC, hrd, ofCells, regW_some, thenW_normal]
    repeat (refine W.seq ?_)
    refine W.ret ?_
    simp only [outB_ret, thenW_ret, outW, resultA, resA, Tr.get_set, Nat.reduceEqDiff, succ0, Tr.get_nil, reduceIte]
    exact ⟨trivial, _, rfl, Grows.refl _, by simp [joinL]⟩
  | x :: y :: xs, hl, hb, hv =>
    obtain ⟨p, s, e⟩ := hv.len
    rw [strC_length] at e
    subst e
    obtain ⟨rfl, o, off, rfl, hrd0⟩ := hv.at (i := 0) (x := .string (bsOf x)) rfl
    rw [Nat.add_zero] at hrd0
    have hn0 : (x :: y :: xs).length = xs.length + 2 := rfl
    have hm : xs.length + 1 ≤ 2000 := by simp only [List.length_cons] at hl; omega
    have hq : ¬ 9223372036854775807 / (xs.length + 1) ≤ 1 := by
      have : 9223372036854775807 / 2000 ≤ 9223372036854775807 / (xs.length + 1) := Nat.div_le_div_left hm (by omega)
      omega
    have hs1 := sumL_le (x :: y :: xs) hb
    rw [hn0] at hv hl hs1
    repeat (refine W.seq ?_)
    refine W.reg0 ?_
    simp only [opsA, oneA, wantedA, hn0, List.length_cons, List.length_nil, Nat.zero_add, Nat.reduceAdd, Nat.reduceSub, enterT, opnds, evs, ev, plain, opA, cls, pureA, putT, blt_iff, Nat.reduceLT, decide_true, litI, regW_some, thenW_normal]
    repeat (refine W.seq ?_)
    refine W.reg0 ?_
    simp only [opsA, oneA, wantedA, opnds, evs, ev, Tr.get_set, Nat.reduceEqDiff, Tr.get_nil, reduceIte, opA, cls, pureA, putT, blt_iff, Nat.reduceLT, decide_true, succ0, und52, castI, goInt_nat, regW_some, thenW_normal]
    repeat (refine W.seq ?_)
    refine W.block ?_
    repeat (refine W.seq ?_)
    refine W.reg0 ?_
    simp only [opsA, oneA, wantedA, opnds, evs, ev, Tr.get_set, Nat.reduceEqDiff, succ0, Tr.get_nil, reduceIte, plain, opA, cls, pureA, abin2, abin, decide_true, deq, show ¬xs.length + 2 = 0 by omega, decide_false, putT, blt_iff, Nat.reduceLT, regW_some, thenW_normal]
    repeat (refine W.seq ?_)
    refine W.cond2 ?_
    simp only [ev, Tr.get_set, Nat.reduceEqDiff, succ0, Tr.get_nil, reduceIte, condW_bool]
    refine ⟨fun hc => (by simp at hc), fun _ => ?_⟩
    repeat (refine W.seq ?_)
    refine W.reg0 ?_
    simp only [opsA, oneA, wantedA, opnds, evs, ev, Tr.get_set, Nat.reduceEqDiff, succ0, Tr.get_nil, reduceIte, plain, opA, cls, pureA, abin2, abin, decide_true, deq, show ¬xs.length + 2 = 1 by omega, decide_false, putT, blt_iff, Nat.reduceLT, regW_some, thenW_normal]
    repeat (refine W.seq ?_)
    refine W.cond2 ?_
    simp only [ev, Tr.get_set, Nat.reduceEqDiff, succ0, Tr.get_nil, reduceIte, condW_bool]
    refine ⟨fun hc => (by simp at hc), fun _ => ?_⟩
    repeat (refine W.seq ?_)
    refine W.skip ?_
    simp only [outB_normal, thenW_normal]
    repeat (refine W.seq ?_)
    refine W.reg0 ?_
    simp only [opsA, oneA, wantedA, opnds, evs, ev, plain, opA, cls, pureA, putT, blt_iff, Nat.reduceLT, decide_true, regW_some, thenW_normal]
    repeat (refine W.seq ?_)
    refine W.reg0 ?_
    simp only [opsA, oneA, wantedA, opnds, evs, ev, Tr.get_set, Nat.reduceEqDiff, succ0, Tr.get_nil, reduceIte, opA, cls, pureA, putT, blt_iff, Nat.reduceLT, decide_true, und9, h32, castI, goInt_nat, plain, abin2, abin, dlt, pos1, regW_some, thenW_normal]
    repeat (refine W.seq ?_)
    refine W.cond2 ?_
    simp only [ev, Tr.get_set, Nat.reduceEqDiff, succ0, Tr.get_nil, reduceIte, condW_bool]
    refine ⟨fun _ => ?_, fun hc => (by simp at hc)⟩
    repeat (refine W.seq ?_)
    refine W.reg0 ?_
    simp only [opsA, oneA, wantedA, opnds, evs, ev, Tr.get_set, Nat.reduceEqDiff, succ0, Tr.get_nil, reduceIte, ite_self, opA, cls, pureA, putT, blt_iff, Nat.reduceLT, decide_true, und9, h32, castI, goInt_nat, und52, plain, abin2, abin, sub64i (show 1 ≤ xs.length + 2 by omega) (show xs.length + 2 ≤ 9223372036854775807 by omega), show xs.length + 2 - 1 = xs.length + 1 by omega, quo_nat (show xs.length + 1 ≠ 0 by omega) (Nat.le_refl 9223372036854775807), dle, hq, decide_false, regW_some, thenW_normal]
    repeat (refine W.seq ?_)
    refine W.cond2 ?_
    simp only [ev, Tr.get_set, Nat.reduceEqDiff, succ0, Tr.get_nil, reduceIte, condW_bool]
    refine ⟨fun hc => (by simp at hc), fun _ => ?_⟩
    repeat (refine W.seq ?_)
    refine W.skip ?_
    simp only [thenW_normal]
    repeat (refine W.seq ?_)
    refine W.reg0 ?_
    simp only [opsA, oneA, wantedA, opnds, evs, ev, Tr.get_set, Nat.reduceEqDiff, succ0, Tr.get_nil, reduceIte, opA, cls, pureA, putT, blt_iff, Nat.reduceLT, decide_true, ite_self, und9, h32, castI, goInt_nat, und52, plain, abin2, abin, sub64i (show 1 ≤ xs.length + 2 by omega) (show xs.length + 2 ≤ 9223372036854775807 by omega), show xs.length + 2 - 1 = xs.length + 1 by omega, mul_nat (show 1 * (xs.length + 1) ≤ 9223372036854775807 by omega), Nat.one_mul, add_nat (show 0 + (xs.length + 1) ≤ 9223372036854775807 by omega), Nat.zero_add, regW_some, thenW_normal]
    repeat (refine W.seq ?_)
    refine W.reg0 ?_
    simp only [opsA, oneA, wantedA, opnds, evs, ev, Tr.get_set, Nat.reduceEqDiff, Tr.get_nil, reduceIte, ite_self, opA, cls, pureA, putT, blt_iff, Nat.reduceLT, decide_true, succ0, und52, castI, goInt_nat, plain, regW_some, thenW_normal]
    repeat (refine W.seq ?_)
    refine W.block ?_
    refine W.loop_inv (fun k a h' => ∃ i, k = (xs.length + 2) - i ∧ i ≤ xs.length + 2 ∧ a.n = 75 ∧ h' = h ∧ a.m.get 0 = some (.slice (some ⟨o, off, none⟩) (xs.length + 2) 1) ∧ a.m.get 1 = some (.string ⟨#[32]⟩) ∧ a.m.get 39 = some (.slice (some ⟨o, off, none⟩) (xs.length + 2) 1) ∧
      a.m.get 40 = some (.int .i64 (.ofNat (xs.length + 2))) ∧ a.m.get 41 = some (.int .i64 (.ofNat i)) ∧ a.m.get 5 = some (.int .i64 (Int.ofNat (xs.length + 1 + sumL ((x :: y :: xs).take i))))) ?_ (xs.length + 2) _ _ ?_
    · intro k a h' ⟨i, hk, hi, hn, hh, g0, g1, g39, g40, g41, g5⟩
      subst hh
      repeat (refine W.seq ?_)
      refine W.reg0 ?_
      simp only [opsA, oneA, wantedA, opnds, evs, ev, g41, g40, opA, cls, pureA, abin2, abin, decide_true, dlt, putT, hn, blt_iff, Nat.reduceLT, regW_some, thenW_normal]
      repeat (refine W.seq ?_)
      refine W.cond2 ?_
      simp only [ev, Tr.get_set, reduceIte, condW_bool, decide_eq_true_eq, decide_eq_false_iff_not]
      refine ⟨fun hlt => ?_, fun hge => ?_⟩
      · have hlt' : i < (x :: y :: xs).length := hlt
        obtain ⟨_, o', off', e1, hrd⟩ := hv.at (show (strC (x :: y :: xs))[i]? = some (.string (bsOf ((x :: y :: xs)[i]'hlt'))) by unfold strC; rw [List.getElem?_map, List.getElem?_eq_getElem hlt']; rfl)
        simp only [Option.some.injEq, Addr.mk.injEq, and_true] at e1
        obtain ⟨rfl, rfl⟩ := e1
        have hwl := hb _ (List.getElem_mem hlt')
        have hsz := bsOf_size ((x :: y :: xs)[i]'hlt')
        have hs2 : sumL ((x :: y :: xs).take i) ≤ 200000000 := by
          have := sumL_le ((x :: y :: xs).take i) fun w hw => hb w (List.mem_of_mem_take hw)
          rw [List.length_take] at this
          have h3 : min i (x :: y :: xs).length ≤ 2000 := by rw [hn0]; omega
          have : min i (x :: y :: xs).length * 100000 ≤ 2000 * 100000 := Nat.mul_le_mul_right _ h3
          omega
        have hts : (x :: y :: xs).take (i + 1) = (x :: y :: xs).take i ++ [(x :: y :: xs)[i]'hlt'] := by rw [List.take_add_one, List.getElem?_eq_getElem hlt']; rfl
        generalize (x :: y :: xs)[i]'hlt' = w at hrd hwl hsz hts
        have hnb : ¬ 9223372036854775807 - (xs.length + 1 + sumL ((x :: y :: xs).take i)) < w.length := by omega
        repeat (refine W.seq ?_)
        refine W.skip ?_
        simp only [thenW_normal]
        repeat (refine W.seq ?_)
        refine W.block ?_
        repeat (refine W.seq ?_)
        refine W.reg0 ?_
        simp only [opsA, oneA, wantedA, hlt, decide_true, opnds, evs, ev, Tr.get_set, Nat.reduceEqDiff, g39, reduceIte, g41, opA, cls, pureA, und52, size9, blt_iff, Nat.mul_one, putT, Nat.reduceLT, loadA, agg9, loadC, hrd, ofCells, regW_some, thenW_normal]
        repeat (refine W.seq ?_)
        refine W.reg0 ?_
        simp only [opsA, oneA, wantedA, opnds, evs, ev, Tr.get_set, Nat.reduceEqDiff, reduceIte, opA, cls, pureA, putT, blt_iff, Nat.reduceLT, decide_true, und9, hsz, castI, goInt_nat, g5, plain, abin2, abin, sub64i (show xs.length + 1 + sumL ((x :: y :: xs).take i) ≤ 9223372036854775807 by omega) (Nat.le_refl 9223372036854775807), dlt, hnb, decide_false, regW_some, thenW_normal]
        repeat (refine W.seq ?_)
        refine W.cond2 ?_
        simp only [ev, Tr.get_set, Nat.reduceEqDiff, reduceIte, condW_bool]
        refine ⟨fun hc => (by simp at hc), fun _ => ?_⟩
        repeat (refine W.seq ?_)
        refine W.skip ?_
        simp only [thenW_normal]
        repeat (refine W.seq ?_)
        refine W.reg0 ?_
        simp only [opsA, oneA, wantedA, opnds, evs, ev, Tr.get_set, Nat.reduceEqDiff, g5, reduceIte, ite_self, opA, cls, pureA, putT, blt_iff, Nat.reduceLT, decide_true, und9, hsz, castI, goInt_nat, abin2, abin, add_nat (show xs.length + 1 + sumL ((x :: y :: xs).take i) + w.length ≤ 9223372036854775807 by omega), regW_some, outB_normal, thenW_normal]
        repeat (refine W.seq ?_)
        refine W.reg0 ?_
        simp only [opsA, oneA, wantedA, opnds, evs, ev, Tr.get_set, Nat.reduceEqDiff, g41, reduceIte, plain, opA, cls, pureA, abin2, abin, decide_true, inc_nat (show i + 1 ≤ 9223372036854775807 by omega), putT, blt_iff, Nat.reduceLT, regW_some, inv_normal]
        refine ⟨xs.length + 2 - (i + 1), by omega, i + 1, rfl, by omega, ?_⟩
        simp only [g0, g1, g39, g40]
        refine ⟨trivial, trivial, trivial, trivial, trivial, trivial, trivial, ?_⟩
        rw [hts, sumL_snoc, Nat.add_assoc]
      · have hi' : i = xs.length + 2 := by omega
        subst hi'
        have hfull : (x :: y :: xs).take (xs.length + 2) = x :: y :: xs := List.take_of_length_le (by simp)
        rw [hfull] at g5
        obtain ⟨h2, eg, hB, hn2, hlow2⟩ := x_grow pp (b := h'.next) (o := h'.next) (h := h'.new (.bvar 72 false none)) (Nat.le_refl _) (Nat.lt_succ_self _) (H.get_new' _ _) (xs.length + 1 + sumL (x :: y :: xs)) (by omega)
        have hg2 : Grows h' h2 := ⟨Nat.le_trans (Nat.le_succ _) hn2, fun z hz => by rw [hlow2 z hz, H.get_new, if_neg (by omega)]⟩
        have hx := hb x (by simp)
        obtain ⟨h3, ew, hB3, hn3, hlow3⟩ := x_wr pp hB (bsOf x) (by rw [bsOf_list]; simp only [List.length_nil]; omega)
        have hg3 : Grows h' h3 := ⟨Nat.le_trans hg2.next hn3, fun z hz => by rw [hlow3 z hz]; exact hg2.get z hz⟩
        rw [List.nil_append, bsOf_list] at hB3
        have hrd2 : rd h2 o off 1 = some [.string (bsOf x)] := by
          obtain ⟨_, o', off', e1, hr⟩ := (hv.grows hg2).at (i := 0) (x := .string (bsOf x)) rfl
          simp only [Option.some.injEq, Addr.mk.injEq, and_true] at e1
          obtain ⟨rfl, rfl⟩ := e1
          rwa [Nat.add_zero] at hr
        have hnx : h'.next = h'.next := rfl
        repeat (refine W.seq ?_)
        refine W.exit ?_
        simp only [thenW_exit, inv_exit, outB_exit, thenW_normal, reduceIte]
        repeat (refine W.seq ?_)
        refine W.reg0 ?_
        simp only [opsA, oneA, wantedA, opnds, evs, opA, cls, newA, btX, beq_iff, decide_true, zero72, mk, putT, blt_iff, Nat.reduceLT, regW_some, thenW_normal]
        repeat (refine W.seq ?_)
        refine W.reg0 ?_
        simp only [opsA, oneA, wantedA, opnds, evs, ev, Tr.get_set, Nat.reduceEqDiff, g5, reduceIte, opA, cls, pureA, putT, blt_iff, Nat.reduceLT, decide_true, List.nil_append, List.append_nil, eg, regW_some, thenW_normal]
        repeat (refine W.seq ?_)
        refine W.reg0 ?_
        simp only [opsA, oneA, wantedA, opnds, evs, ev, Tr.get_set, Nat.reduceEqDiff, g0, reduceIte, opA, cls, pureA, putT, blt_iff, Nat.reduceLT, decide_true, plain, und52, size9, pos1, Nat.mul_one, Nat.add_zero, loadA, agg9, loadC, hrd2, ofCells, List.nil_append, List.append_nil, ew, bsOf_list, regW_some, thenW_normal]
        have h1le : (1 : Nat) ≤ xs.length + 2 := by omega
        repeat (refine W.seq ?_)
        refine W.reg0 ?_
        simp only [opsA, oneA, wantedA, opnds, evs, ev, Tr.get_set, Nat.reduceEqDiff, g0, reduceIte, ite_self, opA, cls, pureA, putT, blt_iff, Nat.reduceLT, decide_true, Option.toList_some, Option.toList_none, List.append_nil, plain, bounds2, Option.isSome_some, Option.isSome_none, und52, size9, bound, ble_iff, h1le, Nat.mul_one, show xs.length + 2 - 1 = xs.length + 1 by omega, castI, goInt_nat, regW_some, thenW_normal]
        repeat (refine W.seq ?_)
        refine W.block ?_
        refine W.loop_inv (fun k a h4 => ∃ i, k = (xs.length + 1) - i ∧ i ≤ xs.length + 1 ∧ a.n = 75 ∧ Grows h' h4 ∧ Bld 72 5 h'.next h4 h'.next (joinL ((x :: y :: xs).take (i + 1))) ∧ a.m.get 1 = some (.string ⟨#[32]⟩) ∧ a.m.get 8 = some (.pointer (some ⟨h'.next, 0, none⟩)) ∧
          a.m.get 63 = some (.slice (some ⟨o, off + 1, none⟩) (xs.length + 1) 1) ∧ a.m.get 64 = some (.int .i64 (.ofNat (xs.length + 1))) ∧ a.m.get 65 = some (.int .i64 (.ofNat i))) ?_ (xs.length + 1) _ _ ?_
        · intro k a h4 ⟨i, hk, hi, hn, hg4, hB4, g1, g8, g63, g64, g65⟩
          repeat (refine W.seq ?_)
          refine W.reg0 ?_
          simp only [opsA, oneA, wantedA, opnds, evs, ev, g65, g64, opA, cls, pureA, abin2, abin, decide_true, dlt, putT, hn, blt_iff, Nat.reduceLT, regW_some, thenW_normal]
          repeat (refine W.seq ?_)
          refine W.cond2 ?_
          simp only [ev, Tr.get_set, reduceIte, condW_bool, decide_eq_true_eq, decide_eq_false_iff_not]
          refine ⟨fun hlt => ?_, fun hge => ?_⟩
          · have hlt' : i + 1 < (x :: y :: xs).length := by rw [hn0]; omega
            obtain ⟨_, o', off', e1, hrd⟩ := (hv.grows hg4).at (show (strC (x :: y :: xs))[i + 1]? = some (.string (bsOf ((x :: y :: xs)[i + 1]'hlt'))) by unfold strC; rw [List.getElem?_map, List.getElem?_eq_getElem hlt']; rfl)
            simp only [Option.some.injEq, Addr.mk.injEq, and_true] at e1
            obtain ⟨rfl, rfl⟩ := e1
            rw [show off + (i + 1) = off + 1 + i by omega] at hrd
            have hwl := hb _ (List.getElem_mem hlt')
            have hts : joinL ((x :: y :: xs).take (i + 1 + 1)) = (joinL ((x :: y :: xs).take (i + 1)) ++ [32]) ++ (x :: y :: xs)[i + 1]'hlt' := by
              rw [List.take_add_one (i := i + 1), List.getElem?_eq_getElem hlt', List.take_succ_cons]
              exact joinL_snoc _ _ _
            have hjl : (joinL ((x :: y :: xs).take (i + 1))).length ≤ 200002000 := by
              have h5 := joinL_len ((x :: y :: xs).take (i + 1)) fun w hw => hb w (List.mem_of_mem_take hw)
              have h6 : ((x :: y :: xs).take (i + 1)).length ≤ 2000 := by rw [List.length_take, hn0]; omega
              have h7 : ((x :: y :: xs).take (i + 1)).length * 100001 ≤ 200002000 := Nat.mul_le_mul_right 100001 h6
              exact Nat.le_trans h5 h7
            generalize (x :: y :: xs)[i + 1]'hlt' = w at hrd hwl hts
            obtain ⟨h5, e5, hB5, hn5, hlow5⟩ := x_wr pp hB4 ⟨#[32]⟩ (by show _ + 1 ≤ _; omega)
            obtain ⟨h6, e6, hB6, hn6, hlow6⟩ := x_wr pp hB5 (bsOf w) (by rw [bsOf_list, List.length_append]; show _ + 1 + _ ≤ _; omega)
            rw [bsOf_list] at hB6
            have hg6 : Grows h' h6 := ⟨Nat.le_trans (Nat.le_trans hg4.next hn5) hn6, fun z hz => by rw [hlow6 z hz, hlow5 z hz]; exact hg4.get z hz⟩
            repeat (refine W.seq ?_)
            refine W.skip ?_
            simp only [thenW_normal]
            repeat (refine W.seq ?_)
            refine W.block ?_
            repeat (refine W.seq ?_)
            refine W.reg0 ?_
            simp only [opsA, oneA, wantedA, hlt, decide_true, opnds, evs, ev, Tr.get_set, Nat.reduceEqDiff, g63, reduceIte, g65, opA, cls, pureA, und52, size9, blt_iff, Nat.mul_one, putT, Nat.reduceLT, loadA, agg9, loadC, hrd, ofCells, regW_some, thenW_normal]
            repeat (refine W.seq ?_)
            refine W.reg0 ?_
            simp only [opsA, oneA, wantedA, opnds, evs, ev, Tr.get_set, Nat.reduceEqDiff, g1, reduceIte, opA, cls, pureA, putT, blt_iff, Nat.reduceLT, decide_true, g8, List.nil_append, List.append_nil, e5, List.length_cons, List.length_nil, Nat.zero_add, regW_some, thenW_normal]
            repeat (refine W.seq ?_)
            refine W.reg0 ?_
            simp only [opsA, oneA, wantedA, opnds, evs, ev, Tr.get_set, Nat.reduceEqDiff, reduceIte, opA, cls, pureA, putT, blt_iff, Nat.reduceLT, decide_true, g8, List.nil_append, List.append_nil, e6, bsOf_list, regW_some, outB_normal, thenW_normal]
            repeat (refine W.seq ?_)
            refine W.reg0 ?_
            simp only [opsA, oneA, wantedA, opnds, evs, ev, Tr.get_set, Nat.reduceEqDiff, g65, reduceIte, plain, opA, cls, pureA, abin2, abin, decide_true, inc_nat (show i + 1 ≤ 9223372036854775807 by omega), putT, blt_iff, Nat.reduceLT, regW_some, inv_normal]
            refine ⟨xs.length + 1 - (i + 1), by omega, i + 1, rfl, by omega, ?_⟩
            simp only [g1, g8, g63, g64, and_self]
            exact ⟨trivial, hg6, by rw [hts]; exact hB6, by first | trivial | exact ⟨trivial, trivial, trivial, trivial, trivial⟩⟩
          · have hi' : i = xs.length + 1 := by omega
            subst hi'
            have hfull : (x :: y :: xs).take (xs.length + 1 + 1) = x :: y :: xs := List.take_of_length_le (by simp)
            rw [hfull] at hB4
            have es := x_bstr pp hB4
            repeat (refine W.seq ?_)
            refine W.exit ?_
            simp only [thenW_exit, inv_exit, outB_exit, thenW_normal, reduceIte]
            repeat (refine W.seq ?_)
            refine W.reg0 ?_
            simp only [opsA, oneA, wantedA, opnds, evs, ev, Tr.get_set, Nat.reduceEqDiff, g8, reduceIte, opA, cls, List.nil_append, List.append_nil, es, putT, blt_iff, Nat.reduceLT, decide_true, pureA, regW_some, thenW_normal]
            repeat (refine W.seq ?_)
            refine W.ret ?_
            simp only [outW, resultA, resA, Tr.get_set, Nat.reduceEqDiff, reduceIte]
            exact ⟨trivial, _, rfl, hg4, rfl⟩
        · simp only [Tr.get_set, Nat.reduceEqDiff, g1, reduceIte]
          refine ⟨0, rfl, Nat.zero_le _, trivial, hg3, ?_, (by first | trivial | rfl), (by first | trivial | rfl), (by first | trivial | rfl), (by first | trivial | rfl), (by first | trivial | rfl)⟩
          simpa [joinL] using hB3
    · simp only [Tr.get_set, Nat.reduceEqDiff, Tr.get_nil, reduceIte, ite_self, succ0]
      exact ⟨0, rfl, Nat.zero_le _, trivial, trivial, (by first | trivial | rfl), (by first | trivial | rfl), (by first | trivial | rfl), (by first | trivial | rfl), (by first | trivial | rfl), (by first | trivial | rfl)⟩
end Go.Proofs.YtkoccbggjfbgaaaGreatDoor
end

section
open Go.Eng
set_option maxRecDepth 100000
set_option linter.unusedSimpArgs false
set_option linter.unusedVariables false
namespace Go.Proofs.YtkoccbggjfbgaaaGreatDoor
variable {X : Tr Nat}

def clean (w : List UInt8) : Bool := w.all fun b => !(b == 32 || b == 10)
/-- can a word be written? -/
def wholeB (w : List UInt8) : Bool := decide (w ≠ []) && clean w
theorem clean_any (w : List UInt8) : (w.any fun b => b == 32 || b == 10) = !clean w := by
  unfold clean
  induction w with
  | nil => rfl
  | cons x r ih => simp only [List.any_cons, ih, List.all_cons]; cases (x == 32 || x == 10) <;> simp

theorem x_any (pp : PP X) (w : List UInt8) (hw : w.length ≤ 16777216) (h : H) : callS (EX X) 95 [.string (bsOf w), .string ⟨#[32, 10]⟩] h = some (.bool (!clean w), h) := by
  rw [call_hook (show (EX X).X.get 95 = some 64 from pp.any), hook_gen2 (k := 64) (j := 0) (by decide) (.inr ⟨rfl, by decide⟩)]
  show hAny [.string (bsOf w), .string ⟨#[32, 10]⟩] h = _
  unfold hAny
  have h1 : (ByteArray.mk #[32, 10]).data.toList = [32, 10] := rfl
  have h2 : Nat.blt (32 : UInt8).toNat 128 = true := rfl
  have h3 : Nat.blt (10 : UInt8).toNat 128 = true := rfl
  simp only [go_sem, Nat.ble_eq_true_of_le hw, h2, h3, clean_any]

theorem x_whole (pp : PP X) (w : List UInt8) (hw : w.length ≤ 16777216) (h : H) : ∃ r h', callS (EX X) 66 [.string (bsOf w)] h = some (r, h') ∧ (h' = h ∧ r = .bool (wholeB w)) := by
  refine call_of pp.n66 (gf66 X) rfl (rs := [.tmp 2]) rfl (m := 10) rfl ?_
  have ha := x_any pp w hw h
  repeat (refine W.seq ?_)
  refine W.reg0 ?_
  simp only [go_sem, Nat.reduceSub, Nat.reduceAdd, Nat.reduceLT]
  by_cases h0 : w = []
  · subst h0
    repeat (refine W.seq ?_)
    refine W.reg0 ?_
    simp only [go_sem, Nat.reduceEqDiff, reduceIte, Nat.reduceLT]
    repeat (refine W.seq ?_)
    refine W.ret ?_
    simp only [go_sem, outW, resultA, resA, Nat.reduceEqDiff, reduceIte]
    exact ⟨trivial, _, rfl, trivial, rfl⟩
  · repeat (refine W.seq ?_)
    refine W.reg0 ?_
    simp only [go_sem, Nat.reduceEqDiff, reduceIte, Nat.reduceLT, ne_eq, h0, not_false_eq_true, ha, Bool.not_not]
    repeat (refine W.seq ?_)
    refine W.ret ?_
    simp only [go_sem, outW, resultA, resA, Nat.reduceEqDiff, reduceIte]
    refine ⟨trivial, _, rfl, trivial, ?_⟩
    unfold wholeB
    rw [decide_eq_true h0, Bool.true_and]

theorem x_clo65 (pp : PP X) (w : List UInt8) (hw : w.length ≤ 16777216) (h : H) : ∃ r h', callS (EX X) 65 [.string (bsOf w)] h = some (r, h') ∧ (h' = h ∧ r = .bool (!wholeB w)) := by
  refine call_of pp.n65 (gf65 X) rfl (rs := [.tmp 2]) rfl (m := 6) rfl ?_
  obtain ⟨r1, h1, e1, rfl, rfl⟩ := x_whole pp w hw h
  repeat (refine W.seq ?_)
  refine W.reg0 ?_
  simp only [go_sem, Nat.reduceSub, Nat.reduceAdd, Nat.reduceLT]
  repeat (refine W.seq ?_)
  refine W.reg0 ?_
  simp only [go_sem, Nat.reduceEqDiff, reduceIte, Nat.reduceLT, e1]
  repeat (refine W.seq ?_)
  refine W.ret ?_
  simp only [go_sem, outW, resultA, resA, Nat.reduceEqDiff, reduceIte]
  exact ⟨trivial, _, rfl, trivial, rfl⟩

/-- the first word that can't be written -/
def badI : List (List UInt8) → Option Nat
  | [] => none
  | w :: ws => if wholeB w = false then some 0 else (badI ws).map (· + 1)
theorem badI_none : ∀ (l : List (List UInt8)), badI l = none ↔ l.all wholeB = true
  | [] => by simp [badI]
  | w :: ws => by
    unfold badI
    cases hw : wholeB w with
    | false => simp [hw]
    | true => simp [hw, badI_none ws]
theorem badI_drop {l : List (List UInt8)} {i : Nat} (h : i < l.length) (hw : wholeB l[i] = true) : (badI (l.drop i)).map (· + i) = (badI (l.drop (i + 1))).map (· + (i + 1)) := by
  rw [List.drop_eq_getElem_cons h, badI, hw]
  simp only [Bool.true_eq_false, if_false, Option.map_map]
  congr 1
  funext k
  simp only [Function.comp]
  omega

theorem x_indexBad (pp : PP X) (l : List (List UInt8)) (v : Value) (h : H) (hl : l.length ≤ 900000) (hb : ∀ w ∈ l, w.length ≤ 16777216) (hv : RView h v (strC l)) :
    ∃ r h', callS (EX X) 94 [v, .func (.func 65) #[] #[]] h = some (r, h') ∧ (h' = h ∧ r = idxV (badI l)) := by
  refine call_of pp.n94 (gf94 X) rfl (rs := [.tmp 4]) rfl (m := 19) rfl ?_
  obtain ⟨p, s, e⟩ := hv.len
  rw [strC_length] at e
  subst e
  repeat (refine W.seq ?_)
  refine W.reg0 ?_
  simp only [go_sem, Nat.reduceAdd, Nat.reduceSub, Nat.reduceLT]
  repeat (refine W.seq ?_)
  refine W.reg0 ?_
  simp only [go_sem, Nat.reduceEqDiff, reduceIte, Nat.reduceLT]
  repeat (refine W.seq ?_)
  refine W.block ?_
  refine W.loop_inv (fun k a h' => ∃ i, k = l.length - i ∧ i ≤ l.length ∧ a.n = 19 ∧ h' = h ∧ a.m.get 0 = some (.slice p l.length s) ∧ a.m.get 1 = some (.func (.func 65) #[] #[]) ∧ a.m.get 7 = some (.int .i64 (.ofNat l.length)) ∧ a.m.get 8 = some (.int .i64 (.ofNat i)) ∧
    badI l = (badI (l.drop i)).map (· + i)) ?_ l.length _ _ ?_
  · intro k a h' ⟨i, hk, hi, hn, hh, g0, g1, g7, g8, hs⟩
    subst hh
    repeat (refine W.seq ?_)
    refine W.reg0 ?_
    simp only [go_sem, g8, g7, hn, Nat.reduceLT]
    repeat (refine W.seq ?_)
    refine W.cond2 ?_
    simp only [go_sem, reduceIte]
    refine ⟨fun hlt => ?_, fun hge => ?_⟩
    · obtain ⟨rfl, o, off, rfl, hrd⟩ := hv.at (show (strC l)[i]? = some (.string (bsOf l[i])) by unfold strC; rw [List.getElem?_map, List.getElem?_eq_getElem hlt]; rfl)
      obtain ⟨r1, h1, e1, rfl, rfl⟩ := x_clo65 pp l[i] (hb _ (List.getElem_mem hlt)) h'
      repeat (refine W.seq ?_)
      refine W.skip ?_
      simp only [go_sem]
      repeat (refine W.seq ?_)
      refine W.block ?_
      repeat (refine W.seq ?_)
      refine W.reg0 ?_
      simp only [go_sem, Nat.reduceEqDiff, g8, reduceIte, Nat.reduceLT]
      repeat (refine W.seq ?_)
      refine W.reg0 ?_
      simp only [go_sem, hlt, Nat.reduceEqDiff, g1, reduceIte, Nat.reduceLT, g0, loadA, loadC, hrd, ofCells, e1]
      cases hw : wholeB l[i] with
      | false =>
        repeat (refine W.seq ?_)
        refine W.cond2 ?_
        simp only [go_sem, Nat.reduceEqDiff, reduceIte]
        refine ⟨fun _ => ?_, fun hc => (by simp at hc)⟩
        repeat (refine W.seq ?_)
        refine W.reg0 ?_
        simp only [go_sem, Nat.reduceEqDiff, reduceIte, Nat.reduceLT]
        repeat (refine W.seq ?_)
        refine W.ret ?_
        simp only [go_sem, outW, resultA, resA, Nat.reduceEqDiff, reduceIte]
        rw [hs, List.drop_eq_getElem_cons hlt, badI, if_pos hw]
        exact ⟨trivial, _, rfl, trivial, by simp [idxV]⟩
      | true =>
        repeat (refine W.seq ?_)
        refine W.cond2 ?_
        simp only [go_sem, Nat.reduceEqDiff, reduceIte]
        refine ⟨fun hc => (by simp at hc), fun _ => ?_⟩
        repeat (refine W.seq ?_)
        refine W.skip ?_
        simp only [go_sem]
        repeat (refine W.seq ?_)
        refine W.reg0 ?_
        simp only [go_sem, Nat.reduceEqDiff, g8, reduceIte, inc_nat (show i + 1 ≤ 9223372036854775807 by omega), Nat.reduceLT]
        refine ⟨l.length - (i + 1), by omega, i + 1, rfl, by omega, ?_⟩
        simp only [g0, g1, g7]
        exact ⟨trivial, trivial, trivial, trivial, trivial, trivial, by rw [hs]; exact badI_drop hlt hw⟩
    · repeat (refine W.seq ?_)
      refine W.exit ?_
      simp only [go_sem, reduceIte]
      repeat (refine W.seq ?_)
      refine W.reg0 ?_
      simp only [go_sem, Nat.reduceLT]
      repeat (refine W.seq ?_)
      refine W.ret ?_
      simp only [go_sem, outW, resultA, resA, Nat.reduceEqDiff, reduceIte]
      rw [hs, List.drop_of_length_le (by omega)]
      exact ⟨trivial, _, rfl, trivial, rfl⟩
  · simp only [go_sem, Nat.reduceEqDiff, reduceIte]
    exact ⟨0, rfl, Nat.zero_le _, trivial, trivial, (by first | trivial | rfl), (by first | trivial | rfl), (by first | trivial | rfl), (by first | trivial | rfl), by simp⟩

theorem x_hasBad (pp : PP X) (l : List (List UInt8)) (v : Value) (h : H) (hl : l.length ≤ 900000) (hb : ∀ w ∈ l, w.length ≤ 16777216) (hv : RView h v (strC l)) :
    ∃ r h', callS (EX X) 64 [v, .func (.func 65) #[] #[]] h = some (r, h') ∧ (h' = h ∧ r = .bool (!l.all wholeB)) := by
  refine call_of pp.n64 (gf64 X) rfl (rs := [.tmp 4]) rfl (m := 9) rfl ?_
  obtain ⟨r1, h1, e1, rfl, rfl⟩ := x_indexBad pp l v h hl hb hv
  have hnn := badI_none l
  repeat (refine W.seq ?_)
  refine W.reg0 ?_
  simp only [go_sem, Nat.reduceAdd, Nat.reduceSub, Nat.reduceLT]
  cases hi : badI l with
  | some i =>
    rw [hi] at e1 hnn
    simp only [idxV] at e1
    have : l.all wholeB = false := by
      cases hc : l.all wholeB with
      | false => rfl
      | true => exact absurd (hnn.2 hc) (by simp)
    rw [this]
    repeat (refine W.seq ?_)
    refine W.reg0 ?_
    simp only [go_sem, Nat.reduceEqDiff, reduceIte, Nat.reduceLT, e1, show decide (Int.ofNat i ≥ Int.ofNat 0) = true from by simp]
    repeat (refine W.seq ?_)
    refine W.ret ?_
    simp only [go_sem, outW, resultA, resA, Nat.reduceEqDiff, reduceIte]
    exact ⟨trivial, _, rfl, trivial, rfl⟩
  | none =>
    rw [hi] at e1 hnn
    simp only [idxV] at e1
    rw [hnn.1 rfl]
    repeat (refine W.seq ?_)
    refine W.reg0 ?_
    simp only [go_sem, Nat.reduceEqDiff, reduceIte, Nat.reduceLT, e1, show decide ((-1 : Int) ≥ Int.ofNat 0) = false from rfl]
    repeat (refine W.seq ?_)
    refine W.ret ?_
    simp only [go_sem, outW, resultA, resA, Nat.reduceEqDiff, reduceIte]
    exact ⟨trivial, _, rfl, trivial, rfl⟩

theorem x_contains (pp : PP X) (s : ByteArray) (c : UInt8) (h : H) : ∃ r h', callS (EX X) 62 [.string s, .string ⟨#[c]⟩] h = some (r, h') ∧ (h' = h ∧ r = .bool (decide (Lib.indexByte s.data.toList c ≥ 0))) := by
  refine call_of pp.n62 (gf62 X) rfl (rs := [.tmp 4]) rfl (m := 9) rfl ?_
  have e1 : callS (EX X) 55 [.string s, .string ⟨#[c]⟩] h = some (.int .i64 (Lib.indexByte s.data.toList c), h) := by
    rw [call_hook (show (EX X).X.get 55 = some 96 from pp.index), hook_gen2 (k := 96) (j := 0) (by decide) (.inr ⟨rfl, by decide⟩)]
    rfl
  repeat (refine W.seq ?_)
  refine W.reg0 ?_
  simp only [go_sem, Nat.reduceAdd, Nat.reduceSub, Nat.reduceLT]
  repeat (refine W.seq ?_)
  refine W.reg0 ?_
  simp only [go_sem, Nat.reduceEqDiff, reduceIte, Nat.reduceLT, e1]
  repeat (refine W.seq ?_)
  refine W.ret ?_
  simp only [go_sem, outW, resultA, resA, Nat.reduceEqDiff, reduceIte]
  exact ⟨trivial, _, rfl, trivial, rfl⟩
theorem x_cnt (pp : PP X) (s : ByteArray) (c : UInt8) (h : H) : callS (EX X) 54 [.string s, .string ⟨#[c]⟩] h = some (.int .i64 (Int.ofNat (Lib.countByte s.data.toList c)), h) := by
  rw [call_hook (show (EX X).X.get 54 = some 80 from pp.count), hook_gen2 (k := 80) (j := 0) (by decide) (.inr ⟨rfl, by decide⟩)]
  rfl

/-- the document's: can a word be written? -/
theorem x_rwhole (pp : PP X) (w : List UInt8) (hw : w.length ≤ 900000) (h : H) : ∃ r h', callS (EX X) 72 [.string (bsOf w)] h = some (r, h') ∧ (h' = h ∧ r = .bool (wholeB w)) := by
  refine call_of pp.n72 (gf72 X) rfl (rs := [.tmp 2]) rfl (m := 22) rfl ?_
  have hsz := bsOf_size w
  repeat (refine W.seq ?_)
  refine W.reg0 ?_
  simp only [go_sem, Nat.reduceSub, Nat.reduceAdd, Nat.reduceLT]
  repeat (refine W.seq ?_)
  refine W.reg0 ?_
  simp only [go_sem, Nat.reduceLT]
  repeat (refine W.seq ?_)
  refine W.block ?_
  refine W.loop_inv (fun k a h' => ∃ i, k = w.length - i ∧ i ≤ w.length ∧ a.n = 22 ∧ h' = h ∧ a.m.get 0 = some (.string (bsOf w)) ∧ a.m.get 3 = some (.int .i64 (.ofNat i)) ∧ clean w = clean (w.drop i)) ?_ w.length _ _ ?_
  · intro k a h' ⟨i, hk, hi, hn, hh, g0, g3, hs⟩
    subst hh
    repeat (refine W.seq ?_)
    refine W.reg0 ?_
    simp only [go_sem, g3, hn, Nat.reduceLT, Nat.reduceEqDiff, g0, reduceIte, hsz]
    repeat (refine W.seq ?_)
    refine W.cond2 ?_
    simp only [go_sem, Nat.reduceEqDiff, reduceIte]
    refine ⟨fun hlt => ?_, fun hge => ?_⟩
    · have hat : w[i]? = some w[i] := List.getElem?_eq_getElem hlt
      have hdr : w.drop i = w[i] :: w.drop (i + 1) := List.drop_eq_getElem_cons hlt
      have hcl : clean w = (!(w[i] == 32 || w[i] == 10) && clean (w.drop (i + 1))) := by rw [hs, hdr]; rfl
      generalize w[i] = b at hat hcl
      repeat (refine W.seq ?_)
      refine W.skip ?_
      simp only [go_sem]
      repeat (refine W.seq ?_)
      refine W.block ?_
      by_cases h32 : b.toNat = 32
      · have hb : b = 32 := UInt8.toNat_inj.1 h32
        repeat (refine W.seq ?_)
        refine W.reg0 ?_
        simp only [go_sem, Nat.reduceEqDiff, g0, reduceIte, Nat.reduceLT, g3, hat, h32]
        repeat (refine W.seq ?_)
        refine W.cond2 ?_
        simp only [go_sem, Nat.reduceEqDiff, reduceIte]
        refine ⟨fun _ => ?_, fun hc => (by simp at hc)⟩
        repeat (refine W.seq ?_)
        refine W.reg0 ?_
        simp only [go_sem, Nat.reduceLT]
        repeat (refine W.seq ?_)
        refine W.ret ?_
        simp only [go_sem, outW, resultA, resA, Nat.reduceEqDiff, reduceIte]
        refine ⟨trivial, _, rfl, trivial, ?_⟩
        have : clean w = false := by rw [hcl, hb]; rfl
        unfold wholeB
        rw [this, Bool.and_false]
      · by_cases h10 : b.toNat = 10
        · have hb : b = 10 := UInt8.toNat_inj.1 h10
          repeat (refine W.seq ?_)
          refine W.reg0 ?_
          simp only [go_sem, Nat.reduceEqDiff, g0, reduceIte, Nat.reduceLT, g3, hat, h10]
          repeat (refine W.seq ?_)
          refine W.cond2 ?_
          simp only [go_sem, Nat.reduceEqDiff, reduceIte]
          refine ⟨fun _ => ?_, fun hc => (by simp at hc)⟩
          repeat (refine W.seq ?_)
          refine W.reg0 ?_
          simp only [go_sem, Nat.reduceLT]
          repeat (refine W.seq ?_)
          refine W.ret ?_
          simp only [go_sem, outW, resultA, resA, Nat.reduceEqDiff, reduceIte]
          refine ⟨trivial, _, rfl, trivial, ?_⟩
          have : clean w = false := by rw [hcl, hb]; rfl
          unfold wholeB
          rw [this, Bool.and_false]
        · have hb : (b == 32 || b == 10) = false := by
            rw [Bool.or_eq_false_iff]
            exact ⟨beq_eq_false_iff_ne.2 fun e => h32 (by rw [e]; rfl), beq_eq_false_iff_ne.2 fun e => h10 (by rw [e]; rfl)⟩
          rw [hb] at hcl
          repeat (refine W.seq ?_)
          refine W.reg0 ?_
          simp only [go_sem, Nat.reduceEqDiff, g0, reduceIte, Nat.reduceLT, g3, hat, h32, h10]
          repeat (refine W.seq ?_)
          refine W.cond2 ?_
          simp only [go_sem, Nat.reduceEqDiff, reduceIte]
          refine ⟨fun hc => (by simp at hc), fun _ => ?_⟩
          repeat (refine W.seq ?_)
          refine W.skip ?_
          simp only [go_sem]
          repeat (refine W.seq ?_)
          refine W.reg0 ?_
          simp only [go_sem, Nat.reduceEqDiff, g3, reduceIte, Nat.reduceLT, inc_nat (show i + 1 ≤ 9223372036854775807 by omega)]
          refine ⟨w.length - (i + 1), by omega, i + 1, rfl, by omega, ?_⟩
          simp only [g0]
          refine ⟨trivial, trivial, trivial, trivial, ?_⟩
          rw [hcl]; simp
    · repeat (refine W.seq ?_)
      refine W.exit ?_
      simp only [go_sem, reduceIte]
      repeat (refine W.seq ?_)
      refine W.reg0 ?_
      simp only [go_sem, Nat.reduceEqDiff, g0, reduceIte, Nat.reduceLT]
      repeat (refine W.seq ?_)
      refine W.ret ?_
      simp only [go_sem, outW, resultA, resA, Nat.reduceEqDiff, reduceIte]
      rw [List.drop_of_length_le (by omega)] at hs
      refine ⟨trivial, _, rfl, trivial, ?_⟩
      unfold wholeB
      rw [hs]
      by_cases h0 : w = [] <;> simp [clean, h0]
  · simp only [go_sem, Nat.reduceEqDiff, reduceIte]
    exact ⟨0, rfl, Nat.zero_le _, trivial, trivial, (by first | trivial | rfl), (by first | trivial | rfl), by simp⟩
end Go.Proofs.YtkoccbggjfbgaaaGreatDoor
end

section
open Go.Eng
set_option maxRecDepth 100000
set_option linter.unusedSimpArgs false
set_option linter.unusedVariables false
namespace Go.Proofs.YtkoccbggjfbgaaaGreatDoor
variable {X : Tr Nat}

/-- six cells that are a command, but for its line; its rows wherever they lie -/
def CmdV (h : H) (cs : List Value) (c : Cmd) : Prop :=
  ∃ (z : Int) (vN vS : Value), cs = [.int .i64 z, .int .u8 (Int.ofNat c.op), .string (bsOf c.label), .string (bsOf c.on), vN, vS] ∧ RView h vN (u64C c.n) ∧ RView h vS (u8C c.st)
theorem CmdV.grows {h h' : H} {cs : List Value} {c : Cmd} (a : CmdV h cs c) (g : Grows h h') : CmdV h' cs c := by
  obtain ⟨z, vN, vS, e, h1, h2⟩ := a
  exact ⟨z, vN, vS, e, h1.grows g, h2.grows g⟩
/-- a command's numbers and lengths are what they can be -/
structure CmdB (c : Cmd) : Prop where
  op : c.op < 256
  label : c.label.length ≤ 90000
  on : c.on.length ≤ 90000
  nl : c.n.length ≤ 900
  stl : c.st.length ≤ 900
  n : ∀ x ∈ c.n, x ≤ 18446744073709551615
  st : ∀ x ∈ c.st, x < 256

def hasL (op : Nat) : Bool := decide (op = 0)
def hasH (op : Nat) : Bool := decide ((1 ≤ op ∧ op ≤ 6) ∨ op = 8)
def stN (s : Nat) : List UInt8 := stateW.getD (s - 1) []
/-- the words ahead of the states -/
def headW (c : Cmd) : List (List UInt8) := (formW.getD c.op [] :: (if hasL c.op then [c.label] else [])) ++ (if hasH c.op then [c.on] else [])
def wordsP (c : Cmd) : List (List UInt8) := (headW c ++ c.st.map stN) ++ c.n.map decL
def spareB (c : Cmd) : Bool := (!hasL c.op && decide (c.label ≠ [])) || (!hasH c.op && decide (c.on ≠ [])) || (decide (c.op ≠ 9) && decide (0 < c.st.length)) || decide (c.n.length ≠ countL.getD c.op 0) || decide (16 < c.label.length)
def stOK (c : Cmd) : Bool := c.st.all fun s => decide (1 ≤ s ∧ s ≤ 3)
/-- can it be written? -/
def lineOK (c : Cmd) : Bool := decide (c.op < 12) && stOK c && !spareB c && (wordsP c).all wholeB

theorem form_L : ∀ op, op < 12 → decide (Lib.indexByte (formR.getD op []) 76 ≥ 0) = hasL op := by decide
theorem form_H : ∀ op, op < 12 → decide (Lib.indexByte (formR.getD op []) 104 ≥ 0) = hasH op := by decide
theorem form_star : ∀ op, op < 12 → (decide (formR.getD op [] ≠ [42]) = decide (op ≠ 9)) := by decide
theorem form_n : ∀ op, op < 12 → Lib.countByte (formR.getD op []) 110 = countL.getD op 0 := by decide
theorem form_w : ∀ op, op < 12 → (formW.getD op []).length ≤ 90000 := by decide
theorem st_w : ∀ s, s < 4 → (stateW.getD s []).length ≤ 90000 := by decide

/-! ### Numerals -/
theorem decD_len : ∀ (k n : Nat), n < 10 ^ (k + 1) → (Lib.decDigits n).length ≤ k + 1
  | k, n, h => by
    rw [Lib.decDigits]
    by_cases h10 : n < 10
    · rw [dif_pos h10]; simp
    · rw [dif_neg h10]
      cases k with
      | zero => simp at h; omega
      | succ k =>
        have := decD_len k (n / 10) (by rw [Nat.pow_succ] at h; omega)
        rw [List.length_append]
        simp only [List.length_cons, List.length_nil]
        omega
theorem decL_len (n : Nat) (h : n ≤ 18446744073709551615) : (decL n).length ≤ 20 := decD_len 19 n (by omega)
theorem dig_clean (d : Nat) (h : d < 10) : (UInt8.ofNat (48 + d) == 32 || UInt8.ofNat (48 + d) == 10) = false := by
  have : d = 0 ∨ d = 1 ∨ d = 2 ∨ d = 3 ∨ d = 4 ∨ d = 5 ∨ d = 6 ∨ d = 7 ∨ d = 8 ∨ d = 9 := by omega
  rcases this with rfl | rfl | rfl | rfl | rfl | rfl | rfl | rfl | rfl | rfl <;> decide
theorem decD_clean : ∀ (k n : Nat), n ≤ k → Lib.decDigits n ≠ [] ∧ clean (Lib.decDigits n) = true
  | k, n, h => by
    rw [Lib.decDigits]
    by_cases h10 : n < 10
    · rw [dif_pos h10]
      refine ⟨by simp, ?_⟩
      unfold clean
      simp only [List.all_cons, List.all_nil, dig_clean n h10]; rfl
    · rw [dif_neg h10]
      cases k with
      | zero => omega
      | succ k =>
        have ih := decD_clean k (n / 10) (by omega)
        refine ⟨by simp, ?_⟩
        have h2 := ih.2
        unfold clean at h2 ⊢
        rw [List.all_append, h2]
        simp only [List.all_cons, List.all_nil, dig_clean (n % 10) (Nat.mod_lt _ (by omega))]; rfl
theorem decL_whole (n : Nat) : wholeB (decL n) = true := by
  obtain ⟨h1, h2⟩ := decD_clean n n (Nat.le_refl _)
  unfold wholeB decL
  rw [h2, decide_eq_true h1]; rfl
theorem form_whole : ∀ op, op < 12 → wholeB (formW.getD op []) = true := by decide
theorem stN_whole : ∀ s, s < 4 → 1 ≤ s → wholeB (stN s) = true := by decide
end Go.Proofs.YtkoccbggjfbgaaaGreatDoor
end
