/-
  The script seat: what one word tells a command. The script seat: a line's words as a command. The script seat: a text as a script.
-/
import Derived.Test.YtkoccbggjfbgaaaGreatDoorK10
import Derived.Test.YtkoccbggjfbgaaaGreatDoorK09
set_option linter.all false

section
open Go.Eng
set_option maxRecDepth 100000
set_option linter.unusedSimpArgs false
set_option linter.unusedVariables false
namespace Go.Proofs.YtkoccbggjfbgaaaGreatDoor
variable {X : Tr Nat}

structure Cmd where
  line : Nat
  op : Nat
  label : List UInt8
  on : List UInt8
  n : List Nat
  st : List Nat
def Cmd.zero : Cmd := ⟨0, 0, [], [], [], []⟩

/-- a command's six cells; its rows are not older than b -/
def CmdAt (b : Nat) (h : H) (cs : List Value) (c : Cmd) : Prop :=
  ∃ vN vS, cs = [.int .i64 (Int.ofNat c.line), .int .u8 (Int.ofNat c.op), .string (bsOf c.label), .string (bsOf c.on), vN, vS] ∧ NewRow 23 b h vN (u64C c.n).length 1 (u64C c.n) ∧ NewRow 5 b h vS (u8C c.st).length 1 (u8C c.st)

/-- only what is of a command's make may have turned: the object o, rows of numbers that are not older than b -/
structure Turn (b o : Nat) (h h' : H) : Prop where
  next : h.next ≤ h'.next
  low : ∀ x, x < b → h'.get x = h.get x
  oth : ∀ x, x < h.next → x ≠ o → notRow 23 (h.get x) → notRow 5 (h.get x) → h'.get x = h.get x

theorem Turn.refl (b o : Nat) (h : H) : Turn b o h h := ⟨Nat.le_refl _, fun _ _ => rfl, fun _ _ _ _ _ => rfl⟩
theorem Turn.trans {b o : Nat} {h h1 h2 : H} (a : Turn b o h h1) (c : Turn b o h1 h2) : Turn b o h h2 :=
  ⟨Nat.le_trans a.next c.next, fun x hx => (c.low x hx).trans (a.low x hx), fun x hx hne h3 h4 => by
    have e := a.oth x hx hne h3 h4
    rw [c.oth x (Nat.lt_of_lt_of_le hx a.next) hne (by rw [e]; exact h3) (by rw [e]; exact h4), e]⟩
theorem Turn.of_grows {b o : Nat} {h h' : H} (hb : b ≤ h.next) (g : Grows h h') : Turn b o h h' := ⟨g.next, fun x hx => g.get x (Nat.lt_of_lt_of_le hx hb), fun x hx _ _ _ => g.get x hx⟩
theorem Turn.set {b o : Nat} (h : H) (x : AObj) (ho : b ≤ o) : Turn b o h (h.set o x) := ⟨Nat.le_refl _, fun k hk => by rw [H.get_set, if_neg (by omega)], fun k hk hne _ _ => by rw [H.get_set, if_neg hne]⟩
theorem Turn.app {b o : Nat} {h h' : H} {t : Nat} (ht : t = 23 ∨ t = 5) (h1 : h.next ≤ h'.next) (h2 : ∀ x, x < b → h'.get x = h.get x) (h3 : ∀ x, x < h.next → notRow t (h.get x) → h'.get x = h.get x) : Turn b o h h' :=
  ⟨h1, h2, fun x hx _ h4 h5 => h3 x hx (by rcases ht with rfl | rfl <;> assumption)⟩

def takeS (what : Nat) (w : List UInt8) (c : Cmd) : Cmd × Nat :=
  if what = 76 then (if 16 < w.length then (c, 11) else ({ c with label := w }, 0))
  else if what = 104 then ({ c with on := w }, 0)
  else if what = 110 then (if (numS w).2 = 0 then ({ c with n := c.n ++ [(numS w).1] }, 0) else (c, (numS w).2))
  else match fidx w stateW with
    | some k => ({ c with st := c.st ++ [k + 1] }, 0)
    | none => (c, 9)

theorem x_take (px : PX X) (b o what : Nat) (w : List UInt8) (c : Cmd) (cs : List Value) (h : H) (hw : w.length ≤ 900000) (hb : b ≤ o) (ho : o < h.next) (hget : h.get o = some (.cells cs 50)) (hc : CmdAt b h cs c)
    (hn : c.n.length ≤ 900000) (hst : c.st.length ≤ 900000) (hk0 : HOk h) :
    ∃ r h', callS (EX X) 50 [.pointer (some ⟨o, 0, none⟩), .int .u8 (Int.ofNat what), .string (bsOf w)] h = some (r, h') ∧ (Turn b o h h' ∧ r = .int .i64 (Int.ofNat (takeS what w c).2) ∧
      ((takeS what w c).2 = 0 → ∃ cs', h'.get o = some (.cells cs' 50) ∧ CmdAt b h' cs' (takeS what w c).1)) := by
  refine call_of px.n50 (gf50 X) rfl (rs := [.tmp 6]) rfl (m := 63) rfl ?_
  obtain ⟨vN, vS, rfl, hN, hS⟩ := hc
  have hsz : (bsOf w).size = w.length := bsOf_size w
  repeat (refine W.seq ?_)
  refine W.reg0 ?_
  simp only [go_sem, Nat.reduceAdd, Nat.reduceSub, Nat.reduceLT]
  repeat (refine W.seq ?_)
  refine W.reg0 ?_
  simp only [go_sem, Nat.reduceEqDiff, reduceIte, Nat.reduceLT]
  repeat (refine W.seq ?_)
  refine W.block ?_
  repeat (refine W.seq ?_)
  refine W.reg0 ?_
  simp only [go_sem, Nat.reduceEqDiff, reduceIte, Nat.reduceLT]
  repeat (refine W.seq ?_)
  refine W.cond2 ?_
  simp only [go_sem, Nat.reduceEqDiff, reduceIte]
  refine ⟨fun h76 => ?_, fun h76 => ?_⟩
  · repeat (refine W.seq ?_)
    refine W.reg0 ?_
    simp only [go_sem, Nat.reduceEqDiff, reduceIte, Nat.reduceLT, hsz]
    repeat (refine W.seq ?_)
    refine W.cond2 ?_
    simp only [go_sem, Nat.reduceEqDiff, reduceIte]
    have hS1 : takeS what w c = (if 16 < w.length then (c, 11) else ({ c with label := w }, 0)) := by unfold takeS; rw [if_pos h76]
    rw [hS1]
    refine ⟨fun hlt => ?_, fun hge => ?_⟩
    · rw [if_pos hlt]
      repeat (refine W.seq ?_)
      refine W.reg0 ?_
      simp only [go_sem, Nat.reduceLT]
      repeat (refine W.seq ?_)
      refine W.ret ?_
      simp only [go_sem, outW, resultA, resA, Nat.reduceEqDiff, reduceIte]
      exact ⟨trivial, _, rfl, Turn.refl _ _ _, rfl, fun hc => (by simp at hc)⟩
    · rw [if_neg hge]
      repeat (refine W.seq ?_)
      refine W.skip ?_
      simp only [go_sem]
      repeat (refine W.seq ?_)
      refine W.reg0 ?_
      simp only [go_sem, Nat.reduceEqDiff, reduceIte, Nat.reduceLT, effA, hget]
      repeat (refine W.seq ?_)
      refine W.reg0 ?_
      simp only [go_sem, Nat.reduceLT]
      repeat (refine W.seq ?_)
      refine W.ret ?_
      simp only [go_sem, outW, resultA, resA, Nat.reduceEqDiff, reduceIte]
      exact ⟨trivial, _, rfl, Turn.set _ _ hb, rfl, fun _ => ⟨_, rfl, vN, vS, rfl, hN.set_other hget (by decide) _, hS.set_other hget (by decide) _⟩⟩
  · repeat (refine W.seq ?_)
    refine W.reg0 ?_
    simp only [go_sem, Nat.reduceEqDiff, reduceIte, Nat.reduceLT]
    repeat (refine W.seq ?_)
    refine W.cond2 ?_
    simp only [go_sem, Nat.reduceEqDiff, reduceIte]
    refine ⟨fun h104 => ?_, fun h104 => ?_⟩
    · have hS1 : takeS what w c = ({ c with on := w }, 0) := by unfold takeS; rw [if_neg h76, if_pos h104]
      rw [hS1]
      repeat (refine W.seq ?_)
      refine W.reg0 ?_
      simp only [go_sem, Nat.reduceEqDiff, reduceIte, Nat.reduceLT, effA, hget]
      repeat (refine W.seq ?_)
      refine W.reg0 ?_
      simp only [go_sem, Nat.reduceLT]
      repeat (refine W.seq ?_)
      refine W.ret ?_
      simp only [go_sem, outW, resultA, resA, Nat.reduceEqDiff, reduceIte]
      exact ⟨trivial, _, rfl, Turn.set _ _ hb, rfl, fun _ => ⟨_, rfl, vN, vS, rfl, hN.set_other hget (by decide) _, hS.set_other hget (by decide) _⟩⟩
    · repeat (refine W.seq ?_)
      refine W.reg0 ?_
      simp only [go_sem, Nat.reduceEqDiff, reduceIte, Nat.reduceLT]
      repeat (refine W.seq ?_)
      refine W.cond2 ?_
      simp only [go_sem, Nat.reduceEqDiff, reduceIte]
      refine ⟨fun h110 => ?_, fun h110 => ?_⟩
      · have hS1 : takeS what w c = (if (numS w).2 = 0 then ({ c with n := c.n ++ [(numS w).1] }, 0) else (c, (numS w).2)) := by unfold takeS; rw [if_neg h76, if_neg h104, if_pos h110]
        rw [hS1]
        obtain ⟨rv, h1, e, hg1, hrv⟩ := x_number px w hw h hk0
        subst hrv
        have hget1 : h1.get o = _ := (hg1.get o ho).trans hget
        repeat (refine W.seq ?_)
        refine W.reg0 ?_
        simp only [go_sem, Nat.reduceEqDiff, reduceIte, Nat.reduceLT, e]
        repeat (refine W.seq ?_)
        refine W.reg0 ?_
        simp only [go_sem, Nat.reduceEqDiff, reduceIte, Nat.reduceLT]
        repeat (refine W.seq ?_)
        refine W.cond2 ?_
        simp only [go_sem, Nat.reduceEqDiff, reduceIte]
        refine ⟨fun hne => ?_, fun heq => ?_⟩
        · rw [if_neg hne]
          repeat (refine W.seq ?_)
          refine W.reg0 ?_
          simp only [go_sem, Nat.reduceEqDiff, reduceIte, Nat.reduceLT]
          repeat (refine W.seq ?_)
          refine W.ret ?_
          simp only [go_sem, outW, resultA, resA, Nat.reduceEqDiff, reduceIte]
          exact ⟨trivial, _, rfl, Turn.of_grows (by omega) hg1, rfl, fun hc => absurd hc hne⟩
        · have h0 : (numS w).2 = 0 := Classical.not_not.1 heq
          rw [if_pos h0]
          obtain ⟨v', h3, e3, hN', hnx, hlow, hoth⟩ := app_row (sl47 X) (hN.grows hg1) (Nat.le_trans hb (Nat.le_trans (Nat.le_of_lt ho) hg1.next)) (.int .u64 (Int.ofNat (numS w).1)) rfl (by rw [u64C_length]; omega)
          obtain ⟨pp, ss, rfl⟩ := hN'.form
          have hget3 : h3.get o = _ := (hoth o (Nat.lt_of_lt_of_le ho hg1.next) (by rw [hget1]; intro cs hc; simp at hc)).trans hget1
          repeat (refine W.seq ?_)
          refine W.skip ?_
          simp only [go_sem]
          repeat (refine W.seq ?_)
          refine W.reg0 ?_
          simp only [go_sem, Nat.reduceEqDiff, reduceIte, Nat.reduceLT, loadA, loadC, rd, hget1, seg, ofCells, Nat.reduceLeDiff, effA, e3, hget3]
          repeat (refine W.seq ?_)
          refine W.reg0 ?_
          simp only [go_sem, Nat.reduceLT]
          repeat (refine W.seq ?_)
          refine W.ret ?_
          simp only [go_sem, outW, resultA, resA, Nat.reduceEqDiff, reduceIte]
          refine ⟨trivial, _, rfl, ((Turn.of_grows (by omega) hg1).trans (Turn.app (.inl rfl) hnx hlow hoth)).trans (Turn.set _ _ hb), rfl, fun _ => ⟨_, rfl, _, vS, rfl, ?_, ?_⟩⟩
          · rw [u64C_append]
            exact hN'.set_other hget3 (by decide) _
          · refine NewRow.set_other ?_ hget3 (by decide) _
            refine (hS.grows hg1).keep hnx fun k cs' hk hrow => hoth k hk (by rw [hrow]; intro cs hc; simp at hc)
      · have hS1 : takeS what w c = (match fidx w stateW with
            | some k => ({ c with st := c.st ++ [k + 1] }, 0)
            | none => (c, 9)) := by unfold takeS; rw [if_neg h76, if_neg h104, if_neg h110]
        have hst0 := x_states px h
        have hg0 : Grows h (h.new (.cells (strC stateW) 9)) := (Grows.refl h).new _
        have hview : ViewS 9 (h.new (.cells (strC stateW) 9)) (.slice (some ⟨h.next, 0, none⟩) 3 1) stateW := IsRow.view (.inr ⟨h.next, Nat.lt_succ_self _, rfl, H.get_new' _ _, rfl⟩)
        generalize h.new (.cells (strC stateW) 9) = h1 at hst0 hg0 hview
        obtain ⟨rv, h2, e, hg2, hrv⟩ := x_index px w stateW (by decide) _ h1 hview
        subst hrv
        have hg12 := hg0.trans hg2
        have hget2 : h2.get o = _ := (hg12.get o ho).trans hget
        cases hf : fidx w stateW with
        | none =>
          rw [hf] at hS1 e
          rw [hS1]
          repeat (refine W.seq ?_)
          refine W.reg0 ?_
          simp only [go_sem, hst0, Nat.reduceLT, Nat.reduceEqDiff, reduceIte, e, idxV]
          repeat (refine W.seq ?_)
          refine W.reg0 ?_
          simp only [go_sem, Nat.reduceEqDiff, reduceIte, Nat.reduceLT, show decide ((-1 : Int) < Int.ofNat 0) = true from rfl]
          repeat (refine W.seq ?_)
          refine W.cond2 ?_
          simp only [go_sem, Nat.reduceEqDiff, reduceIte]
          refine ⟨fun _ => ?_, fun hc => (by simp at hc)⟩
          repeat (refine W.seq ?_)
          refine W.reg0 ?_
          simp only [go_sem, Nat.reduceLT]
          repeat (refine W.seq ?_)
          refine W.ret ?_
          simp only [go_sem, outW, resultA, resA, Nat.reduceEqDiff, reduceIte]
          exact ⟨trivial, _, rfl, Turn.of_grows (by omega) hg12, rfl, fun hc => (by simp at hc)⟩
        | some k =>
          rw [hf] at hS1 e
          rw [hS1]
          have hk : k < 3 := (List.getElem?_eq_some_iff.1 (fidx_lt hf)).1
          obtain ⟨v', h3, e3, hS', hnx, hlow, hoth⟩ := app_row (sl48 X) (hS.grows hg12) (Nat.le_trans hb (Nat.le_trans (Nat.le_of_lt ho) hg12.next)) (.int .u8 (Int.ofNat (k + 1))) rfl (by rw [u8C_length]; omega)
          obtain ⟨pp, ss, rfl⟩ := hS'.form
          have hget3 : h3.get o = _ := (hoth o (Nat.lt_of_lt_of_le ho hg12.next) (by rw [hget2]; intro cs hc; simp at hc)).trans hget2
          repeat (refine W.seq ?_)
          refine W.reg0 ?_
          simp only [go_sem, hst0, Nat.reduceLT, Nat.reduceEqDiff, reduceIte, e, idxV]
          repeat (refine W.seq ?_)
          refine W.reg0 ?_
          simp only [go_sem, Nat.reduceEqDiff, reduceIte, Nat.reduceLT]
          repeat (refine W.seq ?_)
          refine W.cond2 ?_
          simp only [go_sem, Nat.reduceEqDiff, reduceIte]
          refine ⟨fun hc => (by simp at hc), fun _ => ?_⟩
          repeat (refine W.seq ?_)
          refine W.skip ?_
          simp only [go_sem]
          repeat (refine W.seq ?_)
          refine W.reg0 ?_
          simp only [go_sem, Nat.reduceEqDiff, reduceIte, Nat.reduceLT, loadA, loadC, rd, hget2, seg, ofCells, wrap8 (show k < 256 by omega), add8 (show k + 1 < 256 by omega), Nat.reduceLeDiff, effA, e3, hget3]
          repeat (refine W.seq ?_)
          refine W.reg0 ?_
          simp only [go_sem, Nat.reduceLT]
          repeat (refine W.seq ?_)
          refine W.ret ?_
          simp only [go_sem, outW, resultA, resA, Nat.reduceEqDiff, reduceIte]
          refine ⟨trivial, _, rfl, ((Turn.of_grows (by omega) hg12).trans (Turn.app (.inr rfl) hnx hlow hoth)).trans (Turn.set _ _ hb), rfl, fun _ => ⟨_, rfl, vN, _, rfl, ?_, ?_⟩⟩
          · refine NewRow.set_other ?_ hget3 (by decide) _
            refine (hN.grows hg12).keep hnx fun k cs' hk hrow => hoth k hk (by rw [hrow]; intro cs hc; simp at hc)
          · rw [u8C_append]
            exact hS'.set_other hget3 (by decide) _
end Go.Proofs.YtkoccbggjfbgaaaGreatDoor
end

section
open Go.Eng
set_option maxRecDepth 100000
set_option linter.unusedSimpArgs false
set_option linter.unusedVariables false
namespace Go.Proofs.YtkoccbggjfbgaaaGreatDoor
variable {X : Tr Nat}

def whatB (rest : List UInt8) (i : Nat) : Nat := (rest.getD (min i (rest.length - 1)) 0).toNat

def foldS (rest : List UInt8) : Nat → List (List UInt8) → Cmd → Cmd × Nat
  | _, [], c => (c, 0)
  | i, w :: ws, c => if (takeS (whatB rest i) w c).2 = 0 then foldS rest (i + 1) ws (takeS (whatB rest i) w c).1 else (Cmd.zero, (takeS (whatB rest i) w c).2)

/-- a line's words as a command, what is wrong with it -/
def cmdS (line : Nat) (l : List (List UInt8)) : Cmd × Nat :=
  match l with
  | [] => (Cmd.zero, 9)
  | w :: ws => match fidx w formW with
    | none => (Cmd.zero, 9)
    | some op => if formR.getD op [] = [42] ∨ ws.length = (formR.getD op []).length then foldS (formR.getD op []) 0 ws ⟨line, op, [], [], [], []⟩ else (Cmd.zero, 9)

def cmdZ : List Value := [.int .i64 (Int.ofNat 0), .int .u8 (Int.ofNat 0), .string (bsOf []), .string (bsOf []), .slice none 0 0, .slice none 0 0]
theorem cmdZ_at (b : Nat) (h : H) : CmdAt b h cmdZ Cmd.zero := ⟨_, _, rfl, NewRow.nil _ _ _ _, NewRow.nil _ _ _ _⟩

theorem whatB_at {rest : List UInt8} (hne : rest ≠ []) (i : Nat) : ∃ b : UInt8, rest[min i (rest.length - 1)]? = some b ∧ whatB rest i = b.toNat := by
  have hl : 0 < rest.length := List.length_pos_iff.2 hne
  have hlt : min i (rest.length - 1) < rest.length := by omega
  refine ⟨rest[min i (rest.length - 1)], List.getElem?_eq_getElem hlt, ?_⟩
  unfold whatB
  rw [List.getD_eq_getElem?_getD, List.getElem?_eq_getElem hlt]; rfl

theorem takeS_len (what : Nat) (w : List UInt8) (c : Cmd) : (takeS what w c).1.n.length ≤ c.n.length + 1 ∧ (takeS what w c).1.st.length ≤ c.st.length + 1 := by
  unfold takeS
  repeat' split
  all_goals simp

theorem x_command (px : PX X) (line : Nat) (w : List UInt8) (ws : List (List UInt8)) (v : Value) (h : H) (hl : ws.length ≤ 800000) (hw : ∀ x ∈ w :: ws, x.length ≤ 900000) (hv : ViewS 9 h v (w :: ws)) (hok0 : HOk h) :
    ∃ r h', callS (EX X) 22 [.int .i64 (Int.ofNat line), v] h = some (r, h') ∧ (Grows h h' ∧ ∃ cs, r = .tuple #[.agg cs.toArray, .int .i64 (Int.ofNat (cmdS line (w :: ws)).2)] ∧ CmdAt h.next h' cs (cmdS line (w :: ws)).1) := by
  refine call_of px.n22 (gf22 X) rfl (rs := [.cell 4 50, .tmp 5]) rfl (m := 62) rfl ?_
  obtain ⟨vo, voff, rfl, hvt, hvrd⟩ := ViewS.uncons hv
  have hne0 : ¬ h.next = h.next + 1 := by omega
  repeat (refine W.seq ?_)
  refine W.reg0 ?_
  simp only [go_sem, Nat.reduceAdd, Nat.reduceSub, reduceIte, Nat.reduceLT, Nat.reduceEqDiff, bs_nil, List.all_cons, List.all_nil]
  have hg1 : Grows h ((h.new (.cells [.slice (some ⟨vo, voff, none⟩) (ws.length + 1) 1] 52)).new (.cells [.int .i64 (Int.ofNat 0), .int .u8 (Int.ofNat 0), .string (bsOf []), .string (bsOf []), .slice none 0 0, .slice none 0 0] 50)) := ((Grows.refl h).new _).new _
  have hb1 : ((h.new (.cells [.slice (some ⟨vo, voff, none⟩) (ws.length + 1) 1] 52)).new (.cells [.int .i64 (Int.ofNat 0), .int .u8 (Int.ofNat 0), .string (bsOf []), .string (bsOf []), .slice none 0 0, .slice none 0 0] 50)).get h.next = some (.cells [.slice (some ⟨vo, voff, none⟩) (ws.length + 1) 1] 52) := by
    rw [H.get_new, if_neg (show ¬ h.next = (h.new (.cells [.slice (some ⟨vo, voff, none⟩) (ws.length + 1) 1] 52)).next from hne0)]
    exact H.get_new' _ _
  have hr1 : ((h.new (.cells [.slice (some ⟨vo, voff, none⟩) (ws.length + 1) 1] 52)).new (.cells [.int .i64 (Int.ofNat 0), .int .u8 (Int.ofNat 0), .string (bsOf []), .string (bsOf []), .slice none 0 0, .slice none 0 0] 50)).get (h.next + 1) = some (.cells cmdZ 50) := H.get_new' _ _
  have hn1 : ((h.new (.cells [.slice (some ⟨vo, voff, none⟩) (ws.length + 1) 1] 52)).new (.cells [.int .i64 (Int.ofNat 0), .int .u8 (Int.ofNat 0), .string (bsOf []), .string (bsOf []), .slice none 0 0, .slice none 0 0] 50)).next = h.next + 2 := rfl
  generalize (h.new (.cells [.slice (some ⟨vo, voff, none⟩) (ws.length + 1) 1] 52)).new (.cells [.int .i64 (Int.ofNat 0), .int .u8 (Int.ofNat 0), .string (bsOf []), .string (bsOf []), .slice none 0 0, .slice none 0 0] 50) = h1 at hg1 hb1 hr1 hn1 ⊢
  have hF := x_forms px h1
  have hg2 : Grows h1 (h1.new (.cells formC 96)) := (Grows.refl h1).new _
  have hf2 : (h1.new (.cells formC 96)).get h1.next = some (.cells formC 96) := H.get_new' _ _
  have hn2 : (h1.new (.cells formC 96)).next = h1.next + 1 := rfl
  generalize h1.new (.cells formC 96) = h2 at hF hg2 hf2 hn2
  obtain ⟨rv, h3, e3, hg3, rfl⟩ := x_indexFunc px w ws h.next h1.next _ h2 (by omega) ((hg2.get _ (by omega)).trans hb1) ((hv.grows hg1).grows hg2) (by omega) hf2
  have hg13 : Grows h1 h3 := hg2.trans hg3
  have hb3 := (hg13.get h.next (by omega)).trans hb1
  have hr3 := (hg13.get (h.next + 1) (by omega)).trans hr1
  have hnx3 : h.next + 3 ≤ h3.next := by have := hg3.next; omega
  have hbox3 : rd h3 h.next 0 1 = some [.slice (some ⟨vo, voff, none⟩) (ws.length + 1) 1] := rd_get hb3 rfl
  cases hop : fidx w formW with
  | none =>
    have hS : cmdS line (w :: ws) = (Cmd.zero, 9) := by show (match fidx w formW with | none => _ | some op => _) = _; rw [hop]
    rw [hS]
    rw [hop] at e3
    repeat (refine W.seq ?_)
    refine W.reg0 ?_
    simp only [go_sem, hF, Nat.reduceLT, Nat.reduceEqDiff, reduceIte, e3, idxV]
    repeat (refine W.seq ?_)
    refine W.plan (st := [(0, 0, false), (1, 1, false), (2, 3, false), (3, 7, true), (4, 7, false), (5, 31, false), (6, 63, false), (7, 7, false), (8, 135, false), (9, 391, false), (10, 1023, true), (11, 2047, false), (12, 4095, false)]) (by kernel_rfl) ?_
    simp only [go_sem, goP, stableD, Nat.reduceEqDiff, reduceIte, Nat.reduceLT, show decide ((-1 : Int) < Int.ofNat 0) = true from rfl]
    repeat (refine W.seq ?_)
    refine W.cond2 ?_
    simp only [go_sem, Nat.reduceEqDiff, reduceIte]
    refine ⟨fun _ => ?_, fun hc => (by simp at hc)⟩
    repeat (refine W.seq ?_)
    refine W.reg0 ?_
    simp only [go_sem, bs_nil, List.all_cons, List.all_nil, Nat.reduceLT, Nat.reduceEqDiff, reduceIte, effA, Nat.reduceAdd, hr3, cmdZ]
    repeat (refine W.seq ?_)
    refine W.ret ?_
    simp only [go_sem, outW, resultA, resA, Nat.reduceEqDiff, reduceIte, loadA, loadC, rd, seg, ofCells]
    exact ⟨trivial, _, rfl, (hg1.trans hg13).set (by omega) _, cmdZ, rfl, cmdZ_at _ _⟩
  | some op =>
    rw [hop] at e3
    have hlt : op < 12 := (List.getElem?_eq_some_iff.1 (fidx_lt hop)).1
    have hS : cmdS line (w :: ws) = (if formR.getD op [] = [42] ∨ ws.length = (formR.getD op []).length then foldS (formR.getD op []) 0 ws ⟨line, op, [], [], [], []⟩ else (Cmd.zero, 9)) := by
      show (match fidx w formW with | none => _ | some op => _) = _; rw [hop]
    rw [hS]
    have hR : formR[op]'hlt = formR.getD op [] := by
      rw [List.getD_eq_getElem?_getD, List.getElem?_eq_getElem (show op < formR.length from hlt)]; rfl
    have hF3 := x_forms px h3
    have hg4 : Grows h3 (h3.new (.cells formC 96)) := (Grows.refl h3).new _
    have hf4 : rd (h3.new (.cells formC 96)) h3.next (op * 2) 2 = some [.string (bsOf (formW[op]'hlt)), .string (bsOf (formR[op]'hlt))] := rd_get (H.get_new' _ _) (form_seg op hlt)
    generalize h3.new (.cells formC 96) = h4 at hF3 hg4 hf4
    rw [hR] at hf4
    obtain ⟨rv5, h5, e5, hg5, rfl⟩ := x_fits px (formW[op]'hlt) (formR.getD op []) ws.length h4
    have hbox4 : rd h4 h.next 0 1 = some [.slice (some ⟨vo, voff, none⟩) (ws.length + 1) 1] := rd_get ((hg4.get _ (by omega)).trans hb3) rfl
    repeat (refine W.seq ?_)
    refine W.reg0 ?_
    simp only [go_sem, hF, Nat.reduceLT, Nat.reduceEqDiff, reduceIte, e3, idxV]
    repeat (refine W.seq ?_)
    refine W.plan (st := [(0, 0, false), (1, 1, false), (2, 3, false), (3, 7, true), (4, 7, false), (5, 31, false), (6, 63, false), (7, 7, false), (8, 135, false), (9, 391, false), (10, 1023, true), (11, 2047, false), (12, 4095, false)]) (by kernel_rfl) ?_
    simp only [go_sem, goP, stableD, Nat.reduceEqDiff, reduceIte, Nat.reduceLT, hF3, hlt, hf4, Nat.reduceAdd, stab_cons, all1_cons, cell1, all1_nil, sameL_refl, tb63_3, stab_nil, Bool.or_true, Bool.true_or, loadA, loadC, ofCells, hbox4, tb7_3, hbox3, sub64i (show 1 ≤ ws.length + 1 by omega) (show ws.length + 1 ≤ 9223372036854775807 by omega), e5]
    repeat (refine W.seq ?_)
    refine W.cond2 ?_
    simp only [go_sem, Nat.reduceEqDiff, reduceIte]
    have hg15 : Grows h1 h5 := (hg13.trans hg4).trans hg5
    have hr5 := (hg15.get (h.next + 1) (by omega)).trans hr1
    refine ⟨fun hbad => ?_, fun hfit => ?_⟩
    · have hbad : ¬ (formR.getD op [] = [42] ∨ ws.length = (formR.getD op []).length) := by simpa using hbad
      rw [if_neg hbad]
      repeat (refine W.seq ?_)
      refine W.reg0 ?_
      simp only [go_sem, bs_nil, List.all_cons, List.all_nil, Nat.reduceLT, Nat.reduceEqDiff, reduceIte, effA, Nat.reduceAdd, hr5, cmdZ]
      repeat (refine W.seq ?_)
      refine W.ret ?_
      simp only [go_sem, outW, resultA, resA, Nat.reduceEqDiff, reduceIte, loadA, loadC, rd, seg, ofCells]
      exact ⟨trivial, _, rfl, (hg1.trans hg15).set (by omega) _, cmdZ, rfl, cmdZ_at _ _⟩
    · have hfit : formR.getD op [] = [42] ∨ ws.length = (formR.getD op []).length := by
        cases hd : decide (formR.getD op [] = [42] ∨ ws.length = (formR.getD op []).length) with
        | true => exact of_decide_eq_true hd
        | false => rw [hd] at hfit; simp at hfit
      rw [if_pos hfit]
      repeat (refine W.seq ?_)
      refine W.skip ?_
      simp only [go_sem]
      have hF5 := x_forms px h5
      have hg6 : Grows h5 (h5.new (.cells formC 96)) := (Grows.refl h5).new _
      have hf6 : rd (h5.new (.cells formC 96)) h5.next (op * 2) 2 = some [.string (bsOf (formW[op]'hlt)), .string (bsOf (formR[op]'hlt))] := rd_get (H.get_new' _ _) (form_seg op hlt)
      rw [hR] at hf6
      generalize h5.new (.cells formC 96) = h6 at hF5 hg6 hf6
      repeat (refine W.seq ?_)
      refine W.reg0 ?_
      simp only [go_sem, hF5, Nat.reduceLT, Nat.reduceEqDiff, reduceIte, hlt, loadA, loadC, hf6, ofCells, List.all_cons, List.all_nil, effA, Nat.reduceAdd]
      have hg7 : Grows h6 ((h6.new (.cells [.string { data := #[] }, .string { data := #[] }] 96)).set h6.next (.cells [.string (bsOf (formW[op]'hlt)), .string (bsOf (formR.getD op []))] 96)) := ((Grows.refl h6).new _).set (Nat.le_refl _) _
      have hf7 : ((h6.new (.cells [.string { data := #[] }, .string { data := #[] }] 96)).set h6.next (.cells [.string (bsOf (formW[op]'hlt)), .string (bsOf (formR.getD op []))] 96)).get h6.next = some (.cells [.string (bsOf (formW[op]'hlt)), .string (bsOf (formR.getD op []))] 96) := by rw [H.get_set, if_pos rfl]
      have hn7 : ((h6.new (.cells [.string { data := #[] }, .string { data := #[] }] 96)).set h6.next (.cells [.string (bsOf (formW[op]'hlt)), .string (bsOf (formR.getD op []))] 96)).next = h6.next + 1 := rfl
      generalize (h6.new (.cells [.string { data := #[] }, .string { data := #[] }] 96)).set h6.next (.cells [.string (bsOf (formW[op]'hlt)), .string (bsOf (formR.getD op []))] 96) = h7 at hg7 hf7 hn7 ⊢
      repeat (refine W.seq ?_)
      refine W.reg0 ?_
      simp only [go_sem, Nat.reduceEqDiff, reduceIte, Nat.reduceLT, wrap8 (show op < 256 by omega), bs_nil, List.all_cons, List.all_nil, effA, Nat.reduceAdd]
      have hg8 : Grows h7 ((h7.new (.cells [.int .i64 (Int.ofNat 0), .int .u8 (Int.ofNat 0), .string (bsOf []), .string (bsOf []), .slice none 0 0, .slice none 0 0] 50)).set h7.next (.cells [.int .i64 (Int.ofNat line), .int .u8 (Int.ofNat op), .string (bsOf []), .string (bsOf []), .slice none 0 0, .slice none 0 0] 50)) := ((Grows.refl h7).new _).set (Nat.le_refl _) _
      have hc8 : ((h7.new (.cells [.int .i64 (Int.ofNat 0), .int .u8 (Int.ofNat 0), .string (bsOf []), .string (bsOf []), .slice none 0 0, .slice none 0 0] 50)).set h7.next (.cells [.int .i64 (Int.ofNat line), .int .u8 (Int.ofNat op), .string (bsOf []), .string (bsOf []), .slice none 0 0, .slice none 0 0] 50)).get h7.next = some (.cells [.int .i64 (Int.ofNat line), .int .u8 (Int.ofNat op), .string (bsOf []), .string (bsOf []), .slice none 0 0, .slice none 0 0] 50) := by rw [H.get_set, if_pos rfl]
      have hn8 : ((h7.new (.cells [.int .i64 (Int.ofNat 0), .int .u8 (Int.ofNat 0), .string (bsOf []), .string (bsOf []), .slice none 0 0, .slice none 0 0] 50)).set h7.next (.cells [.int .i64 (Int.ofNat line), .int .u8 (Int.ofNat op), .string (bsOf []), .string (bsOf []), .slice none 0 0, .slice none 0 0] 50)).next = h7.next + 1 := rfl
      generalize (h7.new (.cells [.int .i64 (Int.ofNat 0), .int .u8 (Int.ofNat 0), .string (bsOf []), .string (bsOf []), .slice none 0 0, .slice none 0 0] 50)).set h7.next (.cells [.int .i64 (Int.ofNat line), .int .u8 (Int.ofNat op), .string (bsOf []), .string (bsOf []), .slice none 0 0, .slice none 0 0] 50) = h8 at hg8 hc8 hn8 ⊢
      have hg18 : Grows h1 h8 := ((hg15.trans hg6).trans hg7).trans hg8
      have hgh8 : Grows h h8 := hg1.trans hg18
      have hbox8 : rd h8 h.next 0 1 = some [.slice (some ⟨vo, voff, none⟩) (ws.length + 1) 1] := rd_get ((hg18.get _ (by omega)).trans hb1) rfl
      have hr8 := (hg18.get (h.next + 1) (by omega)).trans hr1
      have hf8 := (hg8.get h6.next (by omega)).trans hf7
      have hle68 : h.next + 2 ≤ h7.next := by have := hg15.next; have := hg6.next; have := hg7.next; omega
      have hle67 : h6.next < h7.next := by omega
      have hsz : (bsOf (formR.getD op [])).size = (formR.getD op []).length := bsOf_size _
      have h1le : (1 : Nat) ≤ ws.length + 1 := by omega
      repeat (refine W.seq ?_)
      refine W.reg0 ?_
      simp only [go_sem, Nat.reduceEqDiff, reduceIte, loadA, loadC, hbox8, ofCells, Nat.reduceLT, h1le]
      repeat (refine W.seq ?_)
      refine W.block ?_
      refine W.loop_inv (fun k a hh => ∃ i c, k = ws.length - i ∧ i ≤ ws.length ∧ a.n = 62 ∧ Turn h7.next h7.next h8 hh ∧ a.m.get 4 = some (.pointer (some ⟨h.next + 1, 0, none⟩)) ∧ a.m.get 7 = some (.pointer (some ⟨h6.next, 0, none⟩)) ∧ a.m.get 8 = some (.pointer (some ⟨h7.next, 0, none⟩)) ∧
        a.m.get 38 = some (.slice (some ⟨vo, voff + 1, none⟩) ws.length 1) ∧ a.m.get 39 = some (.int .i64 (.ofNat ws.length)) ∧ a.m.get 40 = some (.int .i64 (.ofNat i)) ∧
        (∃ cs, hh.get h7.next = some (.cells cs 50) ∧ CmdAt h7.next hh cs c) ∧ c.n.length ≤ i ∧ c.st.length ≤ i ∧
        foldS (formR.getD op []) 0 ws ⟨line, op, [], [], [], []⟩ = foldS (formR.getD op []) i (ws.drop i) c) ?_ ws.length _ _ ?_
      · intro k a hh ⟨i, c, hk, hi, hn, htn, g4, g7, g8, g38, g39, g40, ⟨cs, hcs, hcmd⟩, hcn, hcst, hfold⟩
        have hgh : Grows h hh := ⟨Nat.le_trans hgh8.next htn.next, fun x hx => (htn.low x (by omega)).trans (hgh8.get x hx)⟩
        have hfh := (htn.low h6.next hle67).trans hf8
        have hrh := (htn.low (h.next + 1) (by omega)).trans hr8
        repeat (refine W.seq ?_)
        refine W.reg0 ?_
        simp only [go_sem, g40, g39, hn, Nat.reduceLT]
        repeat (refine W.seq ?_)
        refine W.cond2 ?_
        simp only [go_sem, reduceIte]
        refine ⟨fun hlt => ?_, fun hge => ?_⟩
        · have hat : ws[i]? = some ws[i] := List.getElem?_eq_getElem hlt
          obtain ⟨vo', voff', e1, _, hrd⟩ := (hvt.grows hgh).at (strC_at hat)
          rw [strC_length] at e1
          simp only [Value.slice.injEq, Option.some.injEq, Addr.mk.injEq, and_true] at e1
          obtain ⟨rfl, rfl⟩ := e1
          have hne : formR.getD op [] ≠ [] := by
            rcases hfit with e | e
            · rw [e]; simp
            · intro e2
              have : ws.length = 0 := by rw [e, e2]; rfl
              omega
          obtain ⟨b, hb, hwb⟩ := whatB_at hne i
          have hrest : rd hh h6.next 1 1 = some [.string (bsOf (formR.getD op []))] := rd_get hfh rfl
          have hpos : 1 ≤ (formR.getD op []).length := List.length_pos_iff.2 hne
          have hrl : (formR.getD op []).length ≤ 900000 := by rcases hfit with e | e; rw [e]; decide; omega
          obtain ⟨rv, h9, e9, htn9, rfl, hok⟩ := x_take px h7.next h7.next b.toNat ws[i] c cs hh (hw _ (by simp)) (Nat.le_refl _) (by have := htn.next; omega) hcs hcmd (by omega) (by omega) (hok0.g hgh)
          rw [← hwb] at hok e9
          have htn89 := htn.trans htn9
          have hrh9 := (htn89.low (h.next + 1) (by omega)).trans hr8
          repeat (refine W.seq ?_)
          refine W.skip ?_
          simp only [go_sem]
          repeat (refine W.seq ?_)
          refine W.block ?_
          repeat (refine W.seq ?_)
          refine W.reg0 ?_
          simp only [go_sem, hlt, Nat.reduceEqDiff, g40, reduceIte, Nat.reduceLT, g38, loadA, loadC, hrd, ofCells]
          repeat (refine W.seq ?_)
          refine W.reg0 ?_
          simp only [go_sem, Nat.reduceEqDiff, g7, reduceIte, Nat.reduceLT, loadA, loadC, hrest, ofCells, hsz, sub64i hpos (show (formR.getD op []).length ≤ 9223372036854775807 by omega), hb, ← hwb, g8, e9]
          repeat (refine W.seq ?_)
          refine W.reg0 ?_
          simp only [go_sem, Nat.reduceEqDiff, reduceIte, Nat.reduceLT]
          repeat (refine W.seq ?_)
          refine W.cond2 ?_
          simp only [go_sem, Nat.reduceEqDiff, reduceIte]
          refine ⟨fun hbad => ?_, fun hgood => ?_⟩
          · repeat (refine W.seq ?_)
            refine W.reg0 ?_
            simp only [go_sem, bs_nil, List.all_cons, List.all_nil, Nat.reduceLT, Nat.reduceEqDiff, reduceIte, g4, effA, Nat.reduceAdd, hrh9, cmdZ]
            repeat (refine W.seq ?_)
            refine W.ret ?_
            simp only [go_sem, outW, resultA, resA, Nat.reduceEqDiff, g4, reduceIte, loadA, loadC, rd, seg, ofCells]
            have hdrop : ws.drop i = ws[i] :: ws.drop (i + 1) := List.drop_eq_getElem_cons hlt
            rw [hdrop, foldS, if_neg hbad] at hfold
            rw [hfold]
            have hgh9 : Grows h h9 := ⟨Nat.le_trans hgh8.next htn89.next, fun x hx => (htn89.low x (by omega)).trans (hgh8.get x hx)⟩
            exact ⟨trivial, _, rfl, hgh9.set (by omega) _, cmdZ, rfl, cmdZ_at _ _⟩
          · have hgood : (takeS (whatB (formR.getD op []) i) ws[i] c).2 = 0 := Classical.not_not.1 hgood
            obtain ⟨cs', hcs', hcmd'⟩ := hok hgood
            repeat (refine W.seq ?_)
            refine W.skip ?_
            simp only [go_sem]
            repeat (refine W.seq ?_)
            refine W.reg0 ?_
            simp only [go_sem, Nat.reduceEqDiff, g40, reduceIte, inc_nat (show i + 1 ≤ 9223372036854775807 by omega), Nat.reduceLT, g4, g7, g8, g38, g39]
            refine ⟨ws.length - (i + 1), by omega, i + 1, (takeS (whatB (formR.getD op []) i) ws[i] c).1, rfl, by omega, ?_⟩
            simp only []
            have hdrop : ws.drop i = ws[i] :: ws.drop (i + 1) := List.drop_eq_getElem_cons hlt
            rw [hdrop, foldS, if_pos hgood] at hfold
            have hlen := takeS_len (whatB (formR.getD op []) i) ws[i] c
            exact ⟨trivial, htn89, trivial, trivial, trivial, trivial, trivial, trivial, ⟨cs', hcs', hcmd'⟩, by omega, by omega, hfold⟩
        · obtain ⟨vN, vS, rfl, hN, hS2⟩ := hcmd
          obtain ⟨pN, sN, rfl⟩ := hN.form
          obtain ⟨pS, sS, rfl⟩ := hS2.form
          repeat (refine W.seq ?_)
          refine W.exit ?_
          simp only [go_sem, reduceIte]
          repeat (refine W.seq ?_)
          refine W.reg0 ?_
          simp only [go_sem, Nat.reduceEqDiff, g8, reduceIte, loadA, loadC, rd, hcs, seg, ofCells, Nat.reduceLT, g4, effA, Nat.reduceAdd, hrh, cmdZ]
          repeat (refine W.seq ?_)
          refine W.ret ?_
          simp only [go_sem, outW, resultA, resA, Nat.reduceEqDiff, g4, reduceIte, loadA, loadC, rd, seg, ofCells]
          rw [List.drop_of_length_le (by omega), foldS] at hfold
          rw [hfold]
          refine ⟨trivial, _, rfl, hgh.set (by omega) _, _, rfl, _, _, rfl, ?_, ?_⟩
          · exact (hN.weaken (by omega)).set_other hrh (by decide) _
          · exact (hS2.weaken (by omega)).set_other hrh (by decide) _
      · simp only [go_sem, Nat.reduceEqDiff, reduceIte]
        exact ⟨0, ⟨line, op, [], [], [], []⟩, rfl, Nat.zero_le _, trivial, Turn.refl _ _ _, (by first | trivial | rfl), (by first | trivial | rfl), (by first | trivial | rfl), (by first | trivial | rfl), (by first | trivial | rfl), (by first | trivial | rfl),
          ⟨_, hc8, _, _, rfl, NewRow.nil _ _ _ _, NewRow.nil _ _ _ _⟩, Nat.le_refl _, Nat.le_refl _, rfl⟩
end Go.Proofs.YtkoccbggjfbgaaaGreatDoor
end

section
open Go.Eng
set_option maxRecDepth 100000
set_option linter.unusedSimpArgs false
set_option linter.unusedVariables false
namespace Go.Proofs.YtkoccbggjfbgaaaGreatDoor
variable {X : Tr Nat}

/-- what a script is: its configuration, its commands, the line and the kind of what is wrong -/
structure Res where
  cfg : Cfg
  cmds : List Cmd
  line : Nat
  err : Nat

def loopS : Nat → List (List UInt8) → Bool → Cfg → List Cmd → Res
  | _, [], true, c, out => ⟨c, out, 0, 0⟩
  | _, [], false, _, _ => ⟨Cfg.zero, [], 0, 12⟩
  | i, l :: ls, b, c, out => match lineW (wordsL l) with
    | [] => loopS (i + 1) ls b c out
    | w :: ws => match b with
      | false => if (sysS (w :: ws)).2 = 0 then loopS (i + 1) ls true (sysS (w :: ws)).1 out else ⟨Cfg.zero, [], i + 1, (sysS (w :: ws)).2⟩
      | true => if 1000 ≤ out.length then ⟨Cfg.zero, [], i + 1, 10⟩
        else if (cmdS (i + 1) (w :: ws)).2 = 0 then loopS (i + 1) ls true c (out ++ [(cmdS (i + 1) (w :: ws)).1]) else ⟨Cfg.zero, [], i + 1, (cmdS (i + 1) (w :: ws)).2⟩

def parseS (t : List UInt8) : Res := if 65536 < t.length then ⟨Cfg.zero, [], 0, 11⟩ else loopS 0 (piecesL 10 t) false Cfg.zero []

inductive CmdsC (b : Nat) (h : H) : List Value → List Cmd → Prop where
  | nil : CmdsC b h [] []
  | snoc {cs : List Value} {l : List Cmd} {c1 : List Value} {c : Cmd} (a : CmdsC b h cs l) (k : CmdAt b h c1 c) : CmdsC b h (cs ++ c1) (l ++ [c])

theorem CmdAt.keep {b : Nat} {h h' : H} {cs : List Value} {c : Cmd} (a : CmdAt b h cs c) (hn : h.next ≤ h'.next) (hk : ∀ o, o < h.next → notRow 50 (h.get o) → notRow 25 (h.get o) → h'.get o = h.get o) : CmdAt b h' cs c := by
  obtain ⟨vN, vS, e, h1, h2⟩ := a
  exact ⟨vN, vS, e, h1.keep hn fun o cs' ho e => hk o ho (by rw [e]; intro cs hc; simp at hc) (by rw [e]; intro cs hc; simp at hc), h2.keep hn fun o cs' ho e => hk o ho (by rw [e]; intro cs hc; simp at hc) (by rw [e]; intro cs hc; simp at hc)⟩
theorem CmdsC.keep {b : Nat} {h h' : H} {cs : List Value} {l : List Cmd} (a : CmdsC b h cs l) (hn : h.next ≤ h'.next) (hk : ∀ o, o < h.next → notRow 50 (h.get o) → notRow 25 (h.get o) → h'.get o = h.get o) : CmdsC b h' cs l := by
  induction a with
  | nil => exact .nil
  | snoc _ k ih => exact .snoc ih (k.keep hn hk)
theorem CmdAt.len {b : Nat} {h : H} {cs : List Value} {c : Cmd} (a : CmdAt b h cs c) : cs.length = 6 ∧ cs.all cellv = true := by
  obtain ⟨vN, vS, rfl, h1, h2⟩ := a
  obtain ⟨p, s, rfl⟩ := h1.form
  obtain ⟨p', s', rfl⟩ := h2.form
  exact ⟨rfl, rfl⟩
theorem CmdAt.weaken {b b' : Nat} (hb : b' ≤ b) {h : H} {cs : List Value} {c : Cmd} (a : CmdAt b h cs c) : CmdAt b' h cs c := by
  obtain ⟨vN, vS, e, h1, h2⟩ := a
  exact ⟨vN, vS, e, h1.weaken hb, h2.weaken hb⟩

/-- a slice of commands that is not older than b -/
def CmdsAt (b : Nat) (h : H) (v : Value) (l : List Cmd) : Prop := ∃ cs, NewRow 50 b h v l.length 6 cs ∧ CmdsC b h cs l

theorem x_split (px : PX X) (w : List UInt8) (hw : w.length ≤ 900000) (h : H) : callS (EX X) 19 [.string (bsOf w), .string ⟨#[10]⟩] h = strsA 9 (piecesL 10 w) h := by
  rw [call_hook (show (EX X).X.get 19 = some 156 from px.split), hook_split_eq (t := 9) (by decide) (by decide)]
  unfold hSplit
  have : Nat.blt (bsOf w).data.toList.length 4294967281 = true := Nat.ble_eq_true_of_le (show w.length + 1 ≤ 4294967281 by omega)
  simp only [this]
  rfl

theorem lineW_mem {l : List (List UInt8)} : (∀ w ∈ lineW l, w ∈ l) ∧ (lineW l).length ≤ l.length := by
  unfold lineW
  split
  · simp
  · simp

theorem x_parseText (px : PX X) (t : List UInt8) (ht : t.length ≤ 800000) (h : H) (hok0 : HOk h) :
    ∃ r h', callS (EX X) 8 [.string (bsOf t)] h = some (r, h') ∧ (Grows h h' ∧ ∃ v, r = .tuple #[(parseS t).cfg.val, v, .int .i64 (Int.ofNat (parseS t).line), .int .i64 (Int.ofNat (parseS t).err)] ∧ CmdsAt h.next h' v (parseS t).cmds) := by
  refine call_of px.n8 (gf8 X) rfl (rs := [.cell 2 25, .tmp 3, .tmp 4, .tmp 5]) rfl (m := 66) rfl ?_
  have hsz : (bsOf t).size = t.length := bsOf_size t
  have hne0 : ¬ h.next = h.next + 1 := by omega
  repeat (refine W.seq ?_)
  refine W.reg0 ?_
  simp only [go_sem, Nat.reduceSub, Nat.reduceAdd, Nat.reduceEqDiff, List.all_cons, List.all_nil, Nat.reduceLT]
  repeat (refine W.seq ?_)
  refine W.reg0 ?_
  simp only [go_sem, Nat.reduceEqDiff, List.all_cons, List.all_nil, Nat.reduceLT]
  have hg1 : Grows h ((h.new (.cells Cfg.zero.cells 25)).new (.cells Cfg.zero.cells 25)) := ((Grows.refl h).new _).new _
  have ha1 : ((h.new (.cells Cfg.zero.cells 25)).new (.cells Cfg.zero.cells 25)).get h.next = some (.cells Cfg.zero.cells 25) := by
    rw [H.get_new, if_neg (show ¬ h.next = (h.new (.cells Cfg.zero.cells 25)).next from hne0)]
    exact H.get_new' _ _
  have hb1 : ((h.new (.cells Cfg.zero.cells 25)).new (.cells Cfg.zero.cells 25)).get (h.next + 1) = some (.cells Cfg.zero.cells 25) := H.get_new' _ _
  have hn1 : ((h.new (.cells Cfg.zero.cells 25)).new (.cells Cfg.zero.cells 25)).next = h.next + 2 := rfl
  simp only [Cfg.cells, Cfg.zero] at hg1 ha1 hb1 hn1
  generalize (h.new (.cells [Value.int .i64 (Int.ofNat 0), .int .i64 (Int.ofNat 0), .int .u64 (Int.ofNat 0), .int .u64 (Int.ofNat 0), .int .u64 (Int.ofNat 0)] 25)).new (.cells [Value.int .i64 (Int.ofNat 0), .int .i64 (Int.ofNat 0), .int .u64 (Int.ofNat 0), .int .u64 (Int.ofNat 0), .int .u64 (Int.ofNat 0)] 25) = h1 at hg1 ha1 hb1 hn1 ⊢
  repeat (refine W.seq ?_)
  refine W.reg0 ?_
  simp only [go_sem, Nat.reduceEqDiff, reduceIte, Nat.reduceLT, hsz]
  repeat (refine W.seq ?_)
  refine W.cond2 ?_
  simp only [go_sem, Nat.reduceEqDiff, reduceIte]
  refine ⟨fun hlong => ?_, fun hshort => ?_⟩
  · have hS : parseS t = ⟨Cfg.zero, [], 0, 11⟩ := by unfold parseS; rw [if_pos hlong]
    rw [hS]
    repeat (refine W.seq ?_)
    refine W.reg0 ?_
    simp only [go_sem, Nat.reduceEqDiff, reduceIte, loadA, loadC, rd, hb1, seg, ofCells, Nat.reduceLT, effA, Nat.reduceAdd, ha1]
    repeat (refine W.seq ?_)
    refine W.ret ?_
    simp only [go_sem, outW, resultA, resA, Nat.reduceEqDiff, reduceIte, loadA, loadC, rd, seg, ofCells]
    exact ⟨trivial, _, rfl, hg1.set (Nat.le_refl _) _, _, rfl, [], NewRow.nil _ _ _ _, .nil⟩
  · have hS : parseS t = loopS 0 (piecesL 10 t) false Cfg.zero [] := by unfold parseS; rw [if_neg hshort]
    rw [hS]
    obtain ⟨vl, h2, e2, hg2, hvl, rfl⟩ := strsA_grows 9 (piecesL 10 t) h1
    repeat (refine W.seq ?_)
    refine W.skip ?_
    simp only [go_sem]
    repeat (refine W.seq ?_)
    refine W.reg0 ?_
    simp only [go_sem, Nat.reduceLT]
    repeat (refine W.seq ?_)
    refine W.reg0 ?_
    simp only [go_sem, Nat.reduceLT]
    repeat (refine W.seq ?_)
    refine W.reg0 ?_
    simp only [go_sem, Nat.reduceEqDiff, reduceIte, Nat.reduceLT, x_split px t (by omega) h1, e2]
    have hL := pieces_le 10 t
    generalize piecesL 10 t = L at hL hvl ⊢
    have hg12 : Grows h h2 := hg1.trans hg2
    have ha2 := (hg2.get h.next (by omega)).trans ha1
    have hb2 := (hg2.get (h.next + 1) (by omega)).trans hb1
    have hn2 : h.next + 2 ≤ h2.next := by have := hg2.next; omega
    repeat (refine W.seq ?_)
    refine W.block ?_
    refine W.loop_inv (fun k a hh => ∃ i b c v out, k = L.length - i ∧ i ≤ L.length ∧ a.n = 66 ∧ Grows h hh ∧ h.next + 2 ≤ hh.next ∧ hh.get h.next = some (.cells Cfg.zero.cells 25) ∧ hh.get (h.next + 1) = some (.cells (Cfg.cells c) 25) ∧ NewStrs 9 h1.next hh (.slice (some ⟨h1.next, 0, none⟩) L.length 1) L ∧
      a.m.get 2 = some (.pointer (some ⟨h.next, 0, none⟩)) ∧ a.m.get 6 = some (.pointer (some ⟨h.next + 1, 0, none⟩)) ∧ a.m.get 7 = some v ∧ a.m.get 8 = some (.bool b) ∧ a.m.get 19 = some (.slice (some ⟨h1.next, 0, none⟩) L.length 1) ∧ a.m.get 20 = some (.int .i64 (.ofNat L.length)) ∧ a.m.get 21 = some (.int .i64 (.ofNat i)) ∧
      CmdsAt h.next hh v out ∧ out.length ≤ 1000 ∧ (b = false → c = Cfg.zero) ∧ loopS 0 L false Cfg.zero [] = loopS i (L.drop i) b c out) ?_ L.length _ _ ?_
    · intro k a hh ⟨i, b, c, v, out, hk, hi, hn, hgr, hnx, hc0, hc1, hrow, g2, g6, g7, g8, g19, g20, g21, ⟨cs, hcs, hcc⟩, hout, hb0, hfold⟩
      obtain ⟨pv, sv, rfl⟩ := hcs.form
      repeat (refine W.seq ?_)
      refine W.reg0 ?_
      simp only [go_sem, g21, g20, hn, Nat.reduceLT]
      repeat (refine W.seq ?_)
      refine W.cond2 ?_
      simp only [go_sem, reduceIte]
      refine ⟨fun hlt => ?_, fun hge => ?_⟩
      · repeat (refine W.seq ?_)
        refine W.skip ?_
        simp only [go_sem]
        repeat (refine W.seq ?_)
        refine W.block ?_
        have hat : L[i]? = some L[i] := List.getElem?_eq_getElem hlt
        obtain ⟨o', off', e1, _, hrd⟩ := (hrow.is.view).at (strC_at hat)
        rw [strC_length] at e1
        simp only [Value.slice.injEq, Option.some.injEq, Addr.mk.injEq, and_true] at e1
        obtain ⟨rfl, rfl⟩ := e1
        rw [Nat.zero_add] at hrd
        have hmem : L[i] ∈ L := by simp
        have hLi := hL.2 _ hmem
        have hwl := words_le L[i]
        have hlm := @lineW_mem (wordsL L[i])
        have hdrop : L.drop i = L[i] :: L.drop (i + 1) := List.drop_eq_getElem_cons hlt
        rw [hdrop, loopS] at hfold
        obtain ⟨vw, h3, e3, hg3, hvw⟩ := x_words px L[i] (by omega) hh
        repeat (refine W.seq ?_)
        refine W.reg0 ?_
        simp only [go_sem, hlt, Nat.reduceEqDiff, g21, reduceIte, Nat.reduceLT, g19, loadA, loadC, hrd, ofCells]
        repeat (refine W.seq ?_)
        refine W.reg0 ?_
        simp only [go_sem, Nat.reduceEqDiff, reduceIte, Nat.reduceLT, e3]
        have hgr3 := hgr.trans hg3
        have hc03 := (hg3.get h.next (by omega)).trans hc0
        have hc13 := (hg3.get (h.next + 1) (by omega)).trans hc1
        have hrow3 := hrow.grows hg3
        have hnx3 : h.next + 2 ≤ h3.next := by have := hg3.next; omega
        have hcs3 := hcs.grows hg3
        have hcc3 := hcc.keep hg3.next fun o ho _ _ => hg3.get o ho
        cases hws : lineW (wordsL L[i]) with
        | nil =>
          rw [hws] at hfold hvw
          obtain ⟨pw, sw, rfl⟩ := hvw.form
          repeat (refine W.seq ?_)
          refine W.reg0 ?_
          simp only [go_sem, Nat.reduceEqDiff, reduceIte, Nat.reduceLT]
          repeat (refine W.seq ?_)
          refine W.cond2 ?_
          simp only [go_sem, Nat.reduceEqDiff, reduceIte]
          refine ⟨fun _ => ?_, fun hc => (by simp at hc)⟩
          repeat (refine W.seq ?_)
          refine W.exit ?_
          simp only [go_sem, reduceIte]
          repeat (refine W.seq ?_)
          refine W.reg0 ?_
          simp only [go_sem, Nat.reduceEqDiff, g21, reduceIte, inc_nat (show i + 1 ≤ 9223372036854775807 by omega), Nat.reduceLT]
          refine ⟨L.length - (i + 1), by omega, i + 1, b, c, .slice pv out.length sv, out, rfl, by omega, ?_⟩
          simp only [g2, g6, g7, g8, g19, g20]
          exact ⟨trivial, hgr3, hnx3, hc03, hc13, hrow3, trivial, trivial, trivial, trivial, trivial, trivial, trivial, ⟨cs, hcs3, hcc3⟩, hout, hb0, hfold⟩
        | cons w ws =>
          rw [hws] at hfold hvw hlm
          dsimp only at hfold
          have hvw3 : ViewS 9 h3 vw (w :: ws) := hvw.is.view
          obtain ⟨pw, sw, rfl⟩ := hvw.form
          have hwsl : ws.length + 1 ≤ L[i].length := by
            have := hlm.2
            simp only [go_sem] at this
            omega
          --have := Nat.le_trans hlm.2 hwl.1
          have hwl2 : ∀ x ∈ w :: ws, x.length ≤ 900000 := fun x hx => by have := hwl.2 x (hlm.1 x hx); omega
          simp only [go_sem] at hvw3 e3
          repeat (refine W.seq ?_)
          refine W.reg0 ?_
          simp only [go_sem, Nat.reduceEqDiff, reduceIte, Nat.reduceLT]
          repeat (refine W.seq ?_)
          refine W.cond2 ?_
          simp only [go_sem, Nat.reduceEqDiff, reduceIte]
          refine ⟨fun hc => (by simp at hc), fun _ => ?_⟩
          repeat (refine W.seq ?_)
          refine W.skip ?_
          simp only [go_sem]
          repeat (refine W.seq ?_)
          refine W.reg0 ?_
          simp only [go_sem, Nat.reduceLT]
          repeat (refine W.seq ?_)
          refine W.block ?_
          cases b with
          | false =>
            obtain ⟨rv, h4, e4, hg4, rfl⟩ := x_system px w ws _ h3 (by omega) hwl2 hvw3 (hok0.g hgr3)
            have hgr4 := hgr3.trans hg4
            have hc04 := (hg4.get h.next (by omega)).trans hc03
            have hc14 := (hg4.get (h.next + 1) (by omega)).trans hc13
            have hrow4 := hrow3.grows hg4
            have hnx4 : h.next + 2 ≤ h4.next := by have := hg4.next; omega
            have hcs4 := hcs3.grows hg4
            have hcc4 := hcc3.keep hg4.next fun o ho _ _ => hg4.get o ho
            have hc00 := hb0 rfl
            subst hc00
            simp only [Cfg.cells, Cfg.zero] at hc04 hc14
            repeat (refine W.seq ?_)
            refine W.reg0 ?_
            simp only [go_sem, Nat.reduceEqDiff, g8, reduceIte, Nat.reduceLT]
            repeat (refine W.seq ?_)
            refine W.cond2 ?_
            simp only [go_sem, Nat.reduceEqDiff, reduceIte]
            refine ⟨fun _ => ?_, fun hc => (by simp at hc)⟩
            repeat (refine W.seq ?_)
            refine W.reg0 ?_
            simp only [go_sem, Nat.reduceEqDiff, reduceIte, Nat.reduceLT, e4, Cfg.val, Cfg.cells, g6, effA, Nat.reduceAdd, hc14]
            repeat (refine W.seq ?_)
            refine W.reg0 ?_
            simp only [go_sem, Nat.reduceLT]
            have hC : Cfg.cells (sysS (w :: ws)).1 = [.int .i64 (Int.ofNat (sysS (w :: ws)).1.cores), .int .i64 (Int.ofNat (sysS (w :: ws)).1.tasks), .int .u64 (Int.ofNat (sysS (w :: ws)).1.tick), .int .u64 (Int.ofNat (sysS (w :: ws)).1.slice), .int .u64 (Int.ofNat (sysS (w :: ws)).1.origin)] := rfl
            rw [← hC]
            have hgr5 : Grows h (h4.set (h.next + 1) (.cells (Cfg.cells (sysS (w :: ws)).1) 25)) := hgr4.set (show h.next ≤ h.next + 1 by omega) _
            have hnx5 : h.next + 2 ≤ (h4.set (h.next + 1) (.cells (Cfg.cells (sysS (w :: ws)).1) 25)).next := hnx4
            have hc05 : (h4.set (h.next + 1) (.cells (Cfg.cells (sysS (w :: ws)).1) 25)).get h.next = some (.cells Cfg.zero.cells 25) := by rw [H.get_set, if_neg hne0]; exact hc04
            have hc15 : (h4.set (h.next + 1) (.cells (Cfg.cells (sysS (w :: ws)).1) 25)).get (h.next + 1) = some (.cells (Cfg.cells (sysS (w :: ws)).1) 25) := by rw [H.get_set, if_pos rfl]
            have hrow5 := hrow4.set_other hc14 (by decide) (.cells (Cfg.cells (sysS (w :: ws)).1) 25)
            have hcs5 := hcs4.set_other hc14 (by decide) (.cells (Cfg.cells (sysS (w :: ws)).1) 25)
            have hcc5 := hcc4.keep (h' := h4.set (h.next + 1) (.cells (Cfg.cells (sysS (w :: ws)).1) 25)) (Nat.le_refl _) fun o ho _ hr => by
              rw [H.get_set, if_neg]
              intro e
              subst e
              exact hr _ hc14
            generalize h4.set (h.next + 1) (.cells (Cfg.cells (sysS (w :: ws)).1) 25) = h5 at hgr5 hnx5 hc05 hc15 hrow5 hcs5 hcc5 ⊢
            repeat (refine W.seq ?_)
            refine W.reg0 ?_
            simp only [go_sem, Nat.reduceEqDiff, reduceIte, Nat.reduceLT]
            repeat (refine W.seq ?_)
            refine W.cond2 ?_
            simp only [go_sem, Nat.reduceEqDiff, reduceIte]
            refine ⟨fun hbad => ?_, fun hgood => ?_⟩
            · rw [if_neg hbad] at hfold
              rw [hfold]
              simp only [Cfg.cells, Cfg.zero] at hc05
              repeat (refine W.seq ?_)
              refine W.reg0 ?_
              simp only [go_sem, List.all_cons, List.all_nil, Nat.reduceLT, Nat.reduceEqDiff, reduceIte, inc_nat (show i + 1 ≤ 9223372036854775807 by omega), g2, effA, Nat.reduceAdd, hc05]
              repeat (refine W.seq ?_)
              refine W.ret ?_
              simp only [go_sem, outW, resultA, resA, Nat.reduceEqDiff, g2, reduceIte, loadA, loadC, rd, seg, ofCells]
              exact ⟨trivial, _, rfl, hgr5.set (Nat.le_refl _) _, _, rfl, [], NewRow.nil _ _ _ _, .nil⟩
            · have hgood : (sysS (w :: ws)).2 = 0 := Classical.not_not.1 hgood
              rw [if_pos hgood] at hfold
              repeat (refine W.seq ?_)
              refine W.skip ?_
              simp only [go_sem]
              repeat (refine W.seq ?_)
              refine W.reg0 ?_
              simp only [go_sem, Nat.reduceEqDiff, g21, reduceIte, inc_nat (show i + 1 ≤ 9223372036854775807 by omega), Nat.reduceLT]
              refine ⟨L.length - (i + 1), by omega, i + 1, true, (sysS (w :: ws)).1, .slice pv out.length sv, out, rfl, by omega, ?_⟩
              simp only [g2, g6, g7, g19, g20]
              exact ⟨trivial, hgr5, hnx5, hc05, hc15, hrow5, trivial, trivial, trivial, trivial, trivial, trivial, trivial, ⟨cs, hcs5, hcc5⟩, hout, fun hc => (by simp at hc), hfold⟩
          | true =>
            repeat (refine W.seq ?_)
            refine W.reg0 ?_
            simp only [go_sem, Nat.reduceEqDiff, g8, reduceIte, Nat.reduceLT]
            repeat (refine W.seq ?_)
            refine W.cond2 ?_
            simp only [go_sem, Nat.reduceEqDiff, reduceIte]
            refine ⟨fun hc => (by simp at hc), fun _ => ?_⟩
            repeat (refine W.seq ?_)
            refine W.reg0 ?_
            simp only [go_sem, Nat.reduceEqDiff, g7, reduceIte, Nat.reduceLT]
            repeat (refine W.seq ?_)
            refine W.cond2 ?_
            simp only [go_sem, Nat.reduceEqDiff, reduceIte]
            refine ⟨fun hmany => ?_, fun hfew => ?_⟩
            · rw [if_pos hmany] at hfold
              rw [hfold]
              repeat (refine W.seq ?_)
              refine W.reg0 ?_
              simp only [go_sem, Nat.reduceLT]
              repeat (refine W.seq ?_)
              refine W.reg0 ?_
              simp only [go_sem, Nat.reduceEqDiff, reduceIte, Nat.reduceLT]
              repeat (refine W.seq ?_)
              refine W.cond2 ?_
              simp only [go_sem, Nat.reduceEqDiff, reduceIte]
              refine ⟨fun _ => ?_, fun hc => (by simp at hc)⟩
              simp only [Cfg.cells, Cfg.zero] at hc03
              repeat (refine W.seq ?_)
              refine W.reg0 ?_
              simp only [go_sem, List.all_cons, List.all_nil, Nat.reduceLT, Nat.reduceEqDiff, reduceIte, inc_nat (show i + 1 ≤ 9223372036854775807 by omega), g2, effA, Nat.reduceAdd, hc03]
              repeat (refine W.seq ?_)
              refine W.ret ?_
              simp only [go_sem, outW, resultA, resA, Nat.reduceEqDiff, g2, reduceIte, loadA, loadC, rd, seg, ofCells]
              exact ⟨trivial, _, rfl, hgr3.set (Nat.le_refl _) _, _, rfl, [], NewRow.nil _ _ _ _, .nil⟩
            · rw [if_neg hfew] at hfold
              repeat (refine W.seq ?_)
              refine W.reg0 ?_
              simp only [go_sem, Nat.reduceEqDiff, bs_nil, List.all_cons, List.all_nil, Nat.reduceLT]
              have hg34 : Grows h3 (h3.new (.cells cmdZ 50)) := (Grows.refl h3).new _
              have hx4 : (h3.new (.cells cmdZ 50)).get h3.next = some (.cells cmdZ 50) := H.get_new' _ _
              have hn4 : (h3.new (.cells cmdZ 50)).next = h3.next + 1 := rfl
              simp only [cmdZ] at hg34 hx4 hn4
              generalize h3.new (.cells [Value.int .i64 (Int.ofNat 0), .int .u8 (Int.ofNat 0), .string (bsOf []), .string (bsOf []), .slice none 0 0, .slice none 0 0] 50) = h4 at hg34 hx4 hn4 ⊢
              obtain ⟨rv, h5, e5, hg5, ccs, rfl, hcmd⟩ := x_command px (i + 1) w ws _ h4 (by omega) hwl2 (hvw3.grows hg34) (hok0.g (hgr3.trans hg34))
              have hx5 := (hg5.get h3.next (by omega)).trans hx4
              have hg35 := hg34.trans hg5
              obtain ⟨vN, vS, rfl, hN, hS2⟩ := hcmd
              obtain ⟨pN, sN, rfl⟩ := hN.form
              obtain ⟨pS, sS, rfl⟩ := hS2.form
              repeat (refine W.seq ?_)
              refine W.reg0 ?_
              simp only [go_sem, Nat.reduceEqDiff, reduceIte, Nat.reduceLT, inc_nat (show i + 1 ≤ 9223372036854775807 by omega), e5, effA, Nat.reduceAdd, hx5]
              have hg36 : Grows h3 (h5.set h3.next (.cells [.int .i64 (Int.ofNat (cmdS (i + 1) (w :: ws)).1.line), .int .u8 (Int.ofNat (cmdS (i + 1) (w :: ws)).1.op), .string (bsOf (cmdS (i + 1) (w :: ws)).1.label), .string (bsOf (cmdS (i + 1) (w :: ws)).1.on), .slice pN (u64C (cmdS (i + 1) (w :: ws)).1.n).length sN, .slice pS (u8C (cmdS (i + 1) (w :: ws)).1.st).length sS] 50)) := hg35.set (Nat.le_refl _) _
              have hx6 : (h5.set h3.next (.cells [.int .i64 (Int.ofNat (cmdS (i + 1) (w :: ws)).1.line), .int .u8 (Int.ofNat (cmdS (i + 1) (w :: ws)).1.op), .string (bsOf (cmdS (i + 1) (w :: ws)).1.label), .string (bsOf (cmdS (i + 1) (w :: ws)).1.on), .slice pN (u64C (cmdS (i + 1) (w :: ws)).1.n).length sN, .slice pS (u8C (cmdS (i + 1) (w :: ws)).1.st).length sS] 50)).get h3.next = some (.cells [.int .i64 (Int.ofNat (cmdS (i + 1) (w :: ws)).1.line), .int .u8 (Int.ofNat (cmdS (i + 1) (w :: ws)).1.op), .string (bsOf (cmdS (i + 1) (w :: ws)).1.label), .string (bsOf (cmdS (i + 1) (w :: ws)).1.on), .slice pN (u64C (cmdS (i + 1) (w :: ws)).1.n).length sN, .slice pS (u8C (cmdS (i + 1) (w :: ws)).1.st).length sS] 50) := by rw [H.get_set, if_pos rfl]
              have hle6 : (h5.set h3.next (.cells [.int .i64 (Int.ofNat (cmdS (i + 1) (w :: ws)).1.line), .int .u8 (Int.ofNat (cmdS (i + 1) (w :: ws)).1.op), .string (bsOf (cmdS (i + 1) (w :: ws)).1.label), .string (bsOf (cmdS (i + 1) (w :: ws)).1.on), .slice pN (u64C (cmdS (i + 1) (w :: ws)).1.n).length sN, .slice pS (u8C (cmdS (i + 1) (w :: ws)).1.st).length sS] 50)).next = h5.next := rfl
              have hcmd6 : CmdAt h.next (h5.set h3.next (.cells [.int .i64 (Int.ofNat (cmdS (i + 1) (w :: ws)).1.line), .int .u8 (Int.ofNat (cmdS (i + 1) (w :: ws)).1.op), .string (bsOf (cmdS (i + 1) (w :: ws)).1.label), .string (bsOf (cmdS (i + 1) (w :: ws)).1.on), .slice pN (u64C (cmdS (i + 1) (w :: ws)).1.n).length sN, .slice pS (u8C (cmdS (i + 1) (w :: ws)).1.st).length sS] 50)) _ (cmdS (i + 1) (w :: ws)).1 := ⟨_, _, rfl, (hN.weaken (by omega)).set_other hx5 (by decide) _, (hS2.weaken (by omega)).set_other hx5 (by decide) _⟩
              generalize h5.set h3.next (.cells [.int .i64 (Int.ofNat (cmdS (i + 1) (w :: ws)).1.line), .int .u8 (Int.ofNat (cmdS (i + 1) (w :: ws)).1.op), .string (bsOf (cmdS (i + 1) (w :: ws)).1.label), .string (bsOf (cmdS (i + 1) (w :: ws)).1.on), .slice pN (u64C (cmdS (i + 1) (w :: ws)).1.n).length sN, .slice pS (u8C (cmdS (i + 1) (w :: ws)).1.st).length sS] 50) = h6 at hg36 hx6 hle6 hcmd6 ⊢
              have hcs6 := hcs3.grows hg36
              have hcc6 := hcc3.keep hg36.next fun o ho _ _ => hg36.get o ho
              have hrow6 := hrow3.grows hg36
              have hgr6 := hgr3.trans hg36
              have hc06 := (hg36.get h.next (by omega)).trans hc03
              have hc16 := (hg36.get (h.next + 1) (by omega)).trans hc13
              have hnx6 : h.next + 2 ≤ h6.next := by have := hg36.next; omega
              have hlt36 : h3.next < h6.next := by have := hg5.next; omega
              obtain ⟨v7, h7, e7, hcs7, hle7, hlow7, hoth7⟩ := app_elem (sl26 X) hcs6 (by omega) (new := [.int .i64 (Int.ofNat (cmdS (i + 1) (w :: ws)).1.line), .int .u8 (Int.ofNat (cmdS (i + 1) (w :: ws)).1.op), .string (bsOf (cmdS (i + 1) (w :: ws)).1.label), .string (bsOf (cmdS (i + 1) (w :: ws)).1.on), .slice pN (u64C (cmdS (i + 1) (w :: ws)).1.n).length sN, .slice pS (u8C (cmdS (i + 1) (w :: ws)).1.st).length sS]) rfl rfl (by omega)
              have hc07 := (hoth7 h.next (by omega) (by rw [hc06]; intro cs hc; simp at hc)).trans hc06
              have hc17 := (hoth7 (h.next + 1) (by omega) (by rw [hc16]; intro cs hc; simp at hc)).trans hc16
              have hgr7 : Grows h h7 := ⟨by have := hgr6.next; omega, fun o ho => (hlow7 o ho).trans (hgr6.get o ho)⟩
              have hrow7 := hrow6.keep hle7 fun o cs' ho e => hoth7 o ho (by rw [e]; intro cs hc; simp at hc)
              have hcc7 := hcc6.keep hle7 fun o ho hr _ => hoth7 o ho hr
              have hcmd7 := hcmd6.keep hle7 fun o ho hr _ => hoth7 o ho hr
              have hnx7 : h.next + 2 ≤ h7.next := by omega
              obtain ⟨p7, s7, rfl⟩ := hcs7.form
              repeat (refine W.seq ?_)
              refine W.reg0 ?_
              simp only [go_sem, Nat.reduceEqDiff, g7, reduceIte, Nat.reduceLT, loadA, loadC, rd, hx6, seg, ofCells, List.all_cons, List.all_nil, Nat.reduceAdd, Nat.reduceMul, Nat.reduceLeDiff, effA, e7]
              repeat (refine W.seq ?_)
              refine W.reg0 ?_
              simp only [go_sem, Nat.reduceEqDiff, reduceIte, Nat.reduceLT]
              repeat (refine W.seq ?_)
              refine W.cond2 ?_
              simp only [go_sem, Nat.reduceEqDiff, reduceIte]
              refine ⟨fun hbad => ?_, fun hgood => ?_⟩
              · rw [if_neg hbad] at hfold
                rw [hfold]
                simp only [Cfg.cells, Cfg.zero] at hc07
                repeat (refine W.seq ?_)
                refine W.reg0 ?_
                simp only [go_sem, List.all_cons, List.all_nil, Nat.reduceLT, Nat.reduceEqDiff, reduceIte, inc_nat (show i + 1 ≤ 9223372036854775807 by omega), g2, effA, Nat.reduceAdd, hc07]
                repeat (refine W.seq ?_)
                refine W.ret ?_
                simp only [go_sem, outW, resultA, resA, Nat.reduceEqDiff, g2, reduceIte, loadA, loadC, rd, seg, ofCells]
                exact ⟨trivial, _, rfl, hgr7.set (Nat.le_refl _) _, _, rfl, [], NewRow.nil _ _ _ _, .nil⟩
              · have hgood : (cmdS (i + 1) (w :: ws)).2 = 0 := Classical.not_not.1 hgood
                rw [if_pos hgood] at hfold
                repeat (refine W.seq ?_)
                refine W.skip ?_
                simp only [go_sem]
                repeat (refine W.seq ?_)
                refine W.reg0 ?_
                simp only [go_sem, Nat.reduceEqDiff, g21, reduceIte, inc_nat (show i + 1 ≤ 9223372036854775807 by omega), Nat.reduceLT]
                refine ⟨L.length - (i + 1), by omega, i + 1, true, c, .slice p7 (out.length + 1) s7, out ++ [(cmdS (i + 1) (w :: ws)).1], rfl, by omega, ?_⟩
                simp only [g2, g6, g8, g19, g20]
                exact ⟨trivial, hgr7, hnx7, hc07, hc17, hrow7, trivial, trivial, trivial, trivial, trivial, trivial, trivial, ⟨_, by rw [List.length_append]; exact hcs7, hcc7.snoc hcmd7⟩, by rw [List.length_append]; simp only [go_sem]; omega, fun hc => (by simp at hc), hfold⟩
      · repeat (refine W.seq ?_)
        refine W.exit ?_
        simp only [go_sem, reduceIte]
        rw [List.drop_of_length_le (by omega)] at hfold
        cases b with
        | false =>
          rw [hfold, loopS]
          have hc00 := hb0 rfl
          subst hc00
          simp only [Cfg.cells, Cfg.zero] at hc0 hc1
          repeat (refine W.seq ?_)
          refine W.reg0 ?_
          simp only [go_sem, Nat.reduceEqDiff, g8, reduceIte, Nat.reduceLT]
          repeat (refine W.seq ?_)
          refine W.cond2 ?_
          simp only [go_sem, Nat.reduceEqDiff, reduceIte]
          refine ⟨fun _ => ?_, fun hc => (by simp at hc)⟩
          repeat (refine W.seq ?_)
          refine W.reg0 ?_
          simp only [go_sem, Nat.reduceEqDiff, g6, reduceIte, loadA, loadC, rd, hc1, seg, ofCells, Nat.reduceLT, g2, effA, Nat.reduceAdd, hc0]
          repeat (refine W.seq ?_)
          refine W.ret ?_
          simp only [go_sem, outW, resultA, resA, Nat.reduceEqDiff, g2, reduceIte, loadA, loadC, rd, seg, ofCells]
          exact ⟨trivial, _, rfl, hgr.set (Nat.le_refl _) _, _, rfl, [], NewRow.nil _ _ _ _, .nil⟩
        | true =>
          rw [hfold, loopS]
          simp only [Cfg.cells, Cfg.zero] at hc0 hc1
          repeat (refine W.seq ?_)
          refine W.reg0 ?_
          simp only [go_sem, Nat.reduceEqDiff, g8, reduceIte, Nat.reduceLT]
          repeat (refine W.seq ?_)
          refine W.cond2 ?_
          simp only [go_sem, Nat.reduceEqDiff, reduceIte]
          refine ⟨fun hc => (by simp at hc), fun _ => ?_⟩
          repeat (refine W.seq ?_)
          refine W.skip ?_
          simp only [go_sem]
          repeat (refine W.seq ?_)
          refine W.reg0 ?_
          simp only [go_sem, Nat.reduceEqDiff, g6, reduceIte, loadA, loadC, rd, hc1, seg, ofCells, Nat.reduceLT, g7, g2, effA, Nat.reduceAdd, hc0]
          repeat (refine W.seq ?_)
          refine W.ret ?_
          simp only [go_sem, outW, resultA, resA, Nat.reduceEqDiff, g2, reduceIte, loadA, loadC, rd, seg, ofCells]
          exact ⟨trivial, _, rfl, hgr.set (Nat.le_refl _) _, _, rfl, cs, hcs.set_other hc0 (by decide) _, hcc.keep (Nat.le_refl _) fun o ho _ hr => by
            rw [H.get_set, if_neg]
            intro e
            subst e
            exact hr _ hc0⟩
    · simp only [go_sem, Nat.reduceEqDiff, reduceIte]
      exact ⟨0, false, Cfg.zero, _, [], rfl, Nat.zero_le _, trivial, hg12, hn2, ha2, hb2, hvl, (by first | trivial | rfl), (by first | trivial | rfl), (by first | trivial | rfl), (by first | trivial | rfl), (by first | trivial | rfl), (by first | trivial | rfl), (by first | trivial | rfl), ⟨[], NewRow.nil _ _ _ _, .nil⟩, Nat.zero_le _, fun _ => rfl, rfl⟩
end Go.Proofs.YtkoccbggjfbgaaaGreatDoor
end
