/-
  The script seat: are two commands the same; commands as the document's. The script seat: the law, given what the document's answer is. The script seat: the reference's small functions.
-/
import Derived.Test.YtkoccbggjfbgaaaGreatDoorK10
import Derived.Test.YtkoccbggjfbgaaaGreatDoorK11
import Derived.Test.YtkoccbggjfbgaaaGreatDoorK09
set_option linter.all false

section
open Go.Eng
set_option maxRecDepth 100000
set_option linter.unusedSimpArgs false
set_option linter.unusedVariables false
namespace Go.Proofs.YtkoccbggjfbgaaaGreatDoor
variable {X : Tr Nat}

/-- one command out of a row of them -/
theorem CmdsC.at {b : Nat} {h : H} {cs : List Value} {l : List Cmd} (a : CmdsC b h cs l) : cs.length = l.length * 6 ∧ ∀ (i : Nat) (hi : i < l.length), ∃ c1, seg cs (i * 6) 6 = some c1 ∧ CmdAt b h c1 l[i] ∧ cs.take ((i + 1) * 6) = cs.take (i * 6) ++ c1 := by
  induction a with
  | nil => exact ⟨rfl, fun i hi => absurd hi (Nat.not_lt_zero _)⟩
  | @snoc cs l c1 c a k ih =>
    obtain ⟨h1, h2⟩ := ih
    have hl := k.len.1
    refine ⟨by simp [h1, hl]; omega, fun i hi => ?_⟩
    by_cases hlt : i < l.length
    · obtain ⟨d, e1, e2, e3⟩ := h2 i hlt
      refine ⟨d, seg_left e1, by rw [List.getElem_append_left hlt]; exact e2, ?_⟩
      rw [List.take_append_of_le_length (by omega), List.take_append_of_le_length (by omega), e3]
    · have : i = l.length := by simp at hi; omega
      subst this
      refine ⟨c1, ?_, by simpa using k, ?_⟩
      · have := seg_right cs c1
        rw [h1, hl] at this
        exact this
      · rw [List.take_of_length_le (by simp [h1, hl]; omega), List.take_append_of_le_length (by omega), List.take_of_length_le (by omega)]

theorem u64C_at {l : List Nat} {i : Nat} (h : i < l.length) : (u64C l)[i]? = some (.int .u64 (Int.ofNat l[i])) := by
  unfold u64C; rw [List.getElem?_map, List.getElem?_eq_getElem h]; rfl
theorem u8C_at {l : List Nat} {i : Nat} (h : i < l.length) : (u8C l)[i]? = some (.int .u8 (Int.ofNat l[i])) := by
  unfold u8C; rw [List.getElem?_map, List.getElem?_eq_getElem h]; rfl

theorem x_same1 (px : PX X) (c : Cmd) (pN pN' pS pS' : Option Addr) (sN sN' sS sS' : Nat) (h : H) (hN : View 23 h (.slice pN (u64C c.n).length sN) (u64C c.n)) (hN' : View 23 h (.slice pN' (u64C c.n).length sN') (u64C c.n))
    (hS : View 5 h (.slice pS (u8C c.st).length sS) (u8C c.st)) (hS' : View 5 h (.slice pS' (u8C c.st).length sS') (u8C c.st)) (hln : c.n.length ≤ 900000) (hls : c.st.length ≤ 900000) :
    ∃ r h', callS (EX X) 27 [.agg #[.int .i64 (Int.ofNat c.line), .int .u8 (Int.ofNat c.op), .string (bsOf c.label), .string (bsOf c.on), .slice pN (u64C c.n).length sN, .slice pS (u8C c.st).length sS],
      .agg #[.int .i64 (Int.ofNat c.line), .int .u8 (Int.ofNat c.op), .string (bsOf c.label), .string (bsOf c.on), .slice pN' (u64C c.n).length sN', .slice pS' (u8C c.st).length sS']] h = some (r, h') ∧ (Grows h h' ∧ r = .bool true) := by
  refine call_of px.n27 (gf27 X) rfl (rs := [.tmp 4]) rfl (m := 87) rfl ?_
  rw [u64C_length] at hN hN' ⊢
  rw [u8C_length] at hS hS' ⊢
  have hne0 : ¬ h.next = h.next + 1 := by omega
  repeat (refine W.seq ?_)
  refine W.reg0 ?_
  simp only [go_sem, Nat.reduceAdd, Nat.reduceSub, Nat.reduceEqDiff, reduceIte, Nat.reduceLT]
  have hg1 : Grows h ((h.new (.cells [.int .i64 (Int.ofNat c.line), .int .u8 (Int.ofNat c.op), .string (bsOf c.label), .string (bsOf c.on), .slice pN c.n.length sN, .slice pS c.st.length sS] 61)).new (.cells [.int .i64 (Int.ofNat c.line), .int .u8 (Int.ofNat c.op), .string (bsOf c.label), .string (bsOf c.on), .slice pN' c.n.length sN', .slice pS' c.st.length sS'] 61)) := ((Grows.refl h).new _).new _
  have ha1 : ((h.new (.cells [.int .i64 (Int.ofNat c.line), .int .u8 (Int.ofNat c.op), .string (bsOf c.label), .string (bsOf c.on), .slice pN c.n.length sN, .slice pS c.st.length sS] 61)).new (.cells [.int .i64 (Int.ofNat c.line), .int .u8 (Int.ofNat c.op), .string (bsOf c.label), .string (bsOf c.on), .slice pN' c.n.length sN', .slice pS' c.st.length sS'] 61)).get h.next = some (.cells [.int .i64 (Int.ofNat c.line), .int .u8 (Int.ofNat c.op), .string (bsOf c.label), .string (bsOf c.on), .slice pN c.n.length sN, .slice pS c.st.length sS] 61) := by
    rw [H.get_new, if_neg (show ¬ h.next = (h.new (.cells [.int .i64 (Int.ofNat c.line), .int .u8 (Int.ofNat c.op), .string (bsOf c.label), .string (bsOf c.on), .slice pN c.n.length sN, .slice pS c.st.length sS] 61)).next from hne0)]
    exact H.get_new' _ _
  have hb1 : ((h.new (.cells [.int .i64 (Int.ofNat c.line), .int .u8 (Int.ofNat c.op), .string (bsOf c.label), .string (bsOf c.on), .slice pN c.n.length sN, .slice pS c.st.length sS] 61)).new (.cells [.int .i64 (Int.ofNat c.line), .int .u8 (Int.ofNat c.op), .string (bsOf c.label), .string (bsOf c.on), .slice pN' c.n.length sN', .slice pS' c.st.length sS'] 61)).get (h.next + 1) = some (.cells [.int .i64 (Int.ofNat c.line), .int .u8 (Int.ofNat c.op), .string (bsOf c.label), .string (bsOf c.on), .slice pN' c.n.length sN', .slice pS' c.st.length sS'] 61) := H.get_new' _ _
  generalize (h.new (.cells [.int .i64 (Int.ofNat c.line), .int .u8 (Int.ofNat c.op), .string (bsOf c.label), .string (bsOf c.on), .slice pN c.n.length sN, .slice pS c.st.length sS] 61)).new (.cells [.int .i64 (Int.ofNat c.line), .int .u8 (Int.ofNat c.op), .string (bsOf c.label), .string (bsOf c.on), .slice pN' c.n.length sN', .slice pS' c.st.length sS'] 61) = h1 at hg1 ha1 hb1 ⊢
  have vN := hN.grows hg1
  have vN' := hN'.grows hg1
  have vS := hS.grows hg1
  have vS' := hS'.grows hg1
  repeat (refine W.seq ?_)
  refine W.reg0 ?_
  simp only [go_sem, Nat.reduceEqDiff, reduceIte, Nat.reduceLT, loadA, loadC, rd, ha1, seg, ofCells, hb1, ne_eq, not_true_eq_false]
  repeat (refine W.seq ?_)
  refine W.cond2 ?_
  simp only [go_sem, Nat.reduceEqDiff, reduceIte]
  refine ⟨fun hc => (by simp at hc), fun _ => ?_⟩
  repeat (refine W.seq ?_)
  refine W.skip ?_
  simp only [go_sem]
  repeat (refine W.seq ?_)
  refine W.reg0 ?_
  simp only [go_sem, Nat.reduceEqDiff, reduceIte, Nat.reduceLT, loadA, loadC, rd, ha1, seg, ofCells]
  repeat (refine W.seq ?_)
  refine W.block ?_
  refine W.loop_inv (fun k a hh => ∃ i, k = c.n.length - i ∧ i ≤ c.n.length ∧ a.n = 87 ∧ hh = h1 ∧ a.m.get 2 = some (.pointer (some ⟨h.next, 0, none⟩)) ∧ a.m.get 3 = some (.pointer (some ⟨h.next + 1, 0, none⟩)) ∧ a.m.get 53 = some (.int .i64 (.ofNat c.n.length)) ∧ a.m.get 54 = some (.int .i64 (.ofNat i))) ?_ c.n.length _ _ ?_
  · intro k a hh ⟨i, hk, hi, hn, hhh, g2, g3, g53, g54⟩
    subst hhh
    repeat (refine W.seq ?_)
    refine W.reg0 ?_
    simp only [go_sem, g54, g53, hn, Nat.reduceLT]
    repeat (refine W.seq ?_)
    refine W.cond2 ?_
    simp only [go_sem, reduceIte]
    refine ⟨fun hlt => ?_, fun hge => ?_⟩
    · obtain ⟨o1, f1, e1, _, hr1⟩ := vN.at (u64C_at hlt)
      obtain ⟨o2, f2, e2, _, hr2⟩ := vN'.at (u64C_at hlt)
      rw [u64C_length] at e1 e2
      simp only [Value.slice.injEq, true_and] at e1 e2
      obtain ⟨rfl, rfl⟩ := e1
      obtain ⟨rfl, rfl⟩ := e2
      have hra : rd hh h.next 4 1 = some [.slice (some ⟨o1, f1, none⟩) c.n.length 1] := rd_get ha1 rfl
      have hrb : rd hh (h.next + 1) 4 1 = some [.slice (some ⟨o2, f2, none⟩) c.n.length 1] := rd_get hb1 rfl
      repeat (refine W.seq ?_)
      refine W.skip ?_
      simp only [go_sem]
      repeat (refine W.seq ?_)
      refine W.block ?_
      repeat (refine W.seq ?_)
      refine W.reg0 ?_
      simp only [go_sem, Nat.reduceEqDiff, g54, reduceIte, Nat.reduceLT]
      repeat (refine W.seq ?_)
      refine W.plan (st := [(0, 0, false), (1, 1, false), (2, 0, false), (3, 7, false), (4, 15, false), (5, 0, false), (6, 32, false), (7, 0, false), (8, 224, false), (9, 480, false), (10, 1023, false)]) (by kernel_rfl) ?_
      simp only [go_sem, goP, stableD, hlt, Nat.reduceEqDiff, g2, reduceIte, Nat.reduceLT, hra, Nat.reduceAdd, stab_cons, all1_cons, cell1, all1_nil, sameL_refl, stab_nil, Bool.or_true, loadA, loadC, ofCells, hr1, g3, hrb, hr2]
      repeat (refine W.seq ?_)
      refine W.cond2 ?_
      simp only [go_sem, Nat.reduceEqDiff, reduceIte]
      refine ⟨fun hc => absurd rfl hc, fun _ => ?_⟩
      repeat (refine W.seq ?_)
      refine W.skip ?_
      simp only [go_sem]
      repeat (refine W.seq ?_)
      refine W.reg0 ?_
      simp only [go_sem, Nat.reduceEqDiff, g54, reduceIte, inc_nat (show i + 1 ≤ 9223372036854775807 by omega), Nat.reduceLT]
      refine ⟨c.n.length - (i + 1), by omega, i + 1, rfl, by omega, ?_⟩
      simp only [go_sem, g2, g3, g53]
    · repeat (refine W.seq ?_)
      refine W.exit ?_
      simp only [go_sem, reduceIte]
      repeat (refine W.seq ?_)
      refine W.reg0 ?_
      simp only [go_sem, Nat.reduceEqDiff, g2, reduceIte, Nat.reduceLT, loadA, loadC, rd, ha1, seg, ofCells]
      repeat (refine W.seq ?_)
      refine W.block ?_
      refine W.loop_inv (fun k a h3 => ∃ i, k = c.st.length - i ∧ i ≤ c.st.length ∧ a.n = 87 ∧ h3 = hh ∧ a.m.get 2 = some (.pointer (some ⟨h.next, 0, none⟩)) ∧ a.m.get 3 = some (.pointer (some ⟨h.next + 1, 0, none⟩)) ∧ a.m.get 71 = some (.int .i64 (.ofNat c.st.length)) ∧ a.m.get 72 = some (.int .i64 (.ofNat i))) ?_ c.st.length _ _ ?_
      · intro k a h3 ⟨i, hk, hi, hn, hhh, g2, g3, g71, g72⟩
        subst hhh
        repeat (refine W.seq ?_)
        refine W.reg0 ?_
        simp only [go_sem, g72, g71, hn, Nat.reduceLT]
        repeat (refine W.seq ?_)
        refine W.cond2 ?_
        simp only [go_sem, reduceIte]
        refine ⟨fun hlt => ?_, fun hge => ?_⟩
        · obtain ⟨o1, f1, e1, _, hr1⟩ := vS.at (u8C_at hlt)
          obtain ⟨o2, f2, e2, _, hr2⟩ := vS'.at (u8C_at hlt)
          rw [u8C_length] at e1 e2
          simp only [Value.slice.injEq, true_and] at e1 e2
          obtain ⟨rfl, rfl⟩ := e1
          obtain ⟨rfl, rfl⟩ := e2
          have hra : rd h3 h.next 5 1 = some [.slice (some ⟨o1, f1, none⟩) c.st.length 1] := rd_get ha1 rfl
          have hrb : rd h3 (h.next + 1) 5 1 = some [.slice (some ⟨o2, f2, none⟩) c.st.length 1] := rd_get hb1 rfl
          repeat (refine W.seq ?_)
          refine W.skip ?_
          simp only [go_sem]
          repeat (refine W.seq ?_)
          refine W.block ?_
          repeat (refine W.seq ?_)
          refine W.reg0 ?_
          simp only [go_sem, Nat.reduceEqDiff, g72, reduceIte, Nat.reduceLT]
          repeat (refine W.seq ?_)
          refine W.plan (st := [(0, 0, false), (1, 1, false), (2, 0, false), (3, 7, false), (4, 15, false), (5, 0, false), (6, 32, false), (7, 0, false), (8, 224, false), (9, 480, false), (10, 1023, false)]) (by kernel_rfl) ?_
          simp only [go_sem, goP, stableD, hlt, Nat.reduceEqDiff, g2, reduceIte, Nat.reduceLT, hra, Nat.reduceAdd, stab_cons, all1_cons, cell1, all1_nil, sameL_refl, stab_nil, Bool.or_true, loadA, loadC, ofCells, hr1, g3, hrb, hr2]
          repeat (refine W.seq ?_)
          refine W.cond2 ?_
          simp only [go_sem, Nat.reduceEqDiff, reduceIte]
          refine ⟨fun hc => absurd rfl hc, fun _ => ?_⟩
          repeat (refine W.seq ?_)
          refine W.skip ?_
          simp only [go_sem]
          repeat (refine W.seq ?_)
          refine W.reg0 ?_
          simp only [go_sem, Nat.reduceEqDiff, g72, reduceIte, inc_nat (show i + 1 ≤ 9223372036854775807 by omega), Nat.reduceLT]
          refine ⟨c.st.length - (i + 1), by omega, i + 1, rfl, by omega, ?_⟩
          simp only [go_sem, g2, g3, g71]
        · repeat (refine W.seq ?_)
          refine W.exit ?_
          simp only [go_sem, reduceIte]
          repeat (refine W.seq ?_)
          refine W.reg0 ?_
          simp only [go_sem, Nat.reduceLT]
          repeat (refine W.seq ?_)
          refine W.ret ?_
          simp only [go_sem, outW, resultA, resA, Nat.reduceEqDiff, reduceIte]
          exact ⟨trivial, _, rfl, hg1, rfl⟩
      · simp only [go_sem, Nat.reduceEqDiff, reduceIte]
        exact ⟨0, rfl, Nat.zero_le _, (by first | trivial | exact hn), (by first | trivial | rfl), (by first | trivial | exact g2), (by first | trivial | exact g3), (by first | trivial | rfl), (by first | trivial | rfl)⟩
  · simp only [go_sem, Nat.reduceEqDiff, reduceIte]
    exact ⟨0, rfl, Nat.zero_le _, trivial, trivial, (by first | trivial | rfl), (by first | trivial | rfl), (by first | trivial | rfl), (by first | trivial | rfl)⟩

/-- a row of commands, of one type or the other -/
def CmdsIn (t b : Nat) (h : H) (v : Value) (l : List Cmd) : Prop := ∃ cs, NewRow t b h v l.length 6 cs ∧ CmdsC b h cs l

/-- rows of numbers stay -/
def KeepN (h h' : H) : Prop := h.next ≤ h'.next ∧ ∀ o cs t, o < h.next → t = 23 ∨ t = 5 → h.get o = some (.cells cs t) → h'.get o = h.get o
theorem KeepN.of_grows {h h' : H} (g : Grows h h') : KeepN h h' := ⟨g.next, fun o _ _ ho _ _ => g.get o ho⟩
theorem CmdAt.keepN {b : Nat} {h h' : H} {cs : List Value} {c : Cmd} (a : CmdAt b h cs c) (k : KeepN h h') : CmdAt b h' cs c := by
  obtain ⟨vN, vS, e, h1, h2⟩ := a
  exact ⟨vN, vS, e, h1.keep k.1 fun o cs' ho e => k.2 o _ _ ho (.inl rfl) e, h2.keep k.1 fun o cs' ho e => k.2 o _ _ ho (.inr rfl) e⟩
theorem CmdsC.keepN {b : Nat} {h h' : H} {cs : List Value} {l : List Cmd} (a : CmdsC b h cs l) (k : KeepN h h') : CmdsC b h' cs l := by
  induction a with
  | nil => exact .nil
  | snoc _ c ih => exact .snoc ih (c.keepN k)

/-- an element of a row -/
theorem NewRow.elem {t b : Nat} {h : H} {v : Value} {n sz : Nat} {cs : List Value} (a : NewRow t b h v n sz cs) (hn : 0 < n) : ∃ o, o < h.next ∧ v = .slice (some ⟨o, 0, none⟩) n sz ∧ h.get o = some (.cells cs t) := by
  rcases a with ⟨_, h2, _⟩ | ⟨o, _, h2, h3, h4, _⟩
  · omega
  · exact ⟨o, h2, h3, h4⟩

theorem cell1_row {t b : Nat} {h : H} {v : Value} {n sz : Nat} {cs : List Value} (a : NewRow t b h v n sz cs) : cell1 v = true := by
  rcases a with ⟨rfl, _⟩ | ⟨o, _, _, rfl, _⟩ <;> rfl

theorem x_of (px : PX X) (l : List Cmd) (b : Nat) (v : Value) (cs : List Value) (h : H) (hl : l.length ≤ 1000) (hv : NewRow 50 b h v l.length 6 cs) (hc : CmdsC b h cs l) :
    ∃ r h', callS (EX X) 12 [v] h = some (r, h') ∧ (Grows h h' ∧ NewRow 61 h.next h' r l.length 6 cs) := by
  refine call_of px.n12 (gf12 X) rfl (rs := [.tmp 2]) rfl (m := 18) rfl ?_
  obtain ⟨pv, sv, rfl⟩ := hv.form
  obtain ⟨hlen, hat⟩ := hc.at
  repeat (refine W.seq ?_)
  refine W.reg0 ?_
  simp only [go_sem, Nat.reduceSub, Nat.reduceAdd, Nat.reduceLT]
  repeat (refine W.seq ?_)
  refine W.reg0 ?_
  simp only [go_sem, Nat.reduceLT]
  repeat (refine W.seq ?_)
  refine W.reg0 ?_
  simp only [go_sem, Nat.reduceEqDiff, reduceIte, Nat.reduceLT]
  repeat (refine W.seq ?_)
  refine W.block ?_
  refine W.loop_inv (fun k a hh => ∃ i w, k = l.length - i ∧ i ≤ l.length ∧ a.n = 18 ∧ Grows h hh ∧ a.m.get 3 = some w ∧ a.m.get 6 = some (.slice pv l.length sv) ∧ a.m.get 7 = some (.int .i64 (.ofNat l.length)) ∧ a.m.get 8 = some (.int .i64 (.ofNat i)) ∧ NewRow 61 h.next hh w i 6 (cs.take (i * 6))) ?_ l.length _ _ ?_
  · intro k a hh ⟨i, w, hk, hi, hn, hg, g3, g6, g7, g8, hw⟩
    obtain ⟨pw, sw, rfl⟩ := hw.form
    repeat (refine W.seq ?_)
    refine W.reg0 ?_
    simp only [go_sem, g8, g7, hn, Nat.reduceLT]
    repeat (refine W.seq ?_)
    refine W.cond2 ?_
    simp only [go_sem, reduceIte]
    refine ⟨fun hlt => ?_, fun hge => ?_⟩
    · obtain ⟨o, ho, e1, hget⟩ := NewRow.elem hv (by omega)
      simp only [Value.slice.injEq, true_and] at e1
      obtain ⟨rfl, rfl⟩ := e1
      obtain ⟨c1, hs1, hc1, ht1⟩ := hat i hlt
      have hrd : rd hh o (i * 6) 6 = some c1 := rd_get ((hg.get o ho).trans hget) hs1
      obtain ⟨vN, vS, rfl, hN, hS⟩ := hc1
      obtain ⟨p1, s1, rfl⟩ := hN.form
      obtain ⟨p2, s2, rfl⟩ := hS.form
      repeat (refine W.seq ?_)
      refine W.skip ?_
      simp only [go_sem]
      repeat (refine W.seq ?_)
      refine W.block ?_
      repeat (refine W.seq ?_)
      refine W.reg0 ?_
      simp only [go_sem, hlt, Nat.reduceEqDiff, g6, reduceIte, g8, Nat.reduceLT, loadA, loadC, hrd, ofCells, bs_nil, List.all_cons, List.all_nil, effA, Nat.reduceAdd]
      have hg2 : Grows hh ((hh.new (.cells [.int .i64 (Int.ofNat 0), .int .u8 (Int.ofNat 0), .string (bsOf []), .string (bsOf []), .slice none 0 0, .slice none 0 0] 50)).set hh.next (.cells [.int .i64 (Int.ofNat l[i].line), .int .u8 (Int.ofNat l[i].op), .string (bsOf l[i].label), .string (bsOf l[i].on), .slice p1 (u64C l[i].n).length s1, .slice p2 (u8C l[i].st).length s2] 50)) := ((Grows.refl hh).new _).set (Nat.le_refl _) _
      have hx2 : ((hh.new (.cells [.int .i64 (Int.ofNat 0), .int .u8 (Int.ofNat 0), .string (bsOf []), .string (bsOf []), .slice none 0 0, .slice none 0 0] 50)).set hh.next (.cells [.int .i64 (Int.ofNat l[i].line), .int .u8 (Int.ofNat l[i].op), .string (bsOf l[i].label), .string (bsOf l[i].on), .slice p1 (u64C l[i].n).length s1, .slice p2 (u8C l[i].st).length s2] 50)).get hh.next = some (.cells [.int .i64 (Int.ofNat l[i].line), .int .u8 (Int.ofNat l[i].op), .string (bsOf l[i].label), .string (bsOf l[i].on), .slice p1 (u64C l[i].n).length s1, .slice p2 (u8C l[i].st).length s2] 50) := by rw [H.get_set, if_pos rfl]
      generalize (hh.new (.cells [.int .i64 (Int.ofNat 0), .int .u8 (Int.ofNat 0), .string (bsOf []), .string (bsOf []), .slice none 0 0, .slice none 0 0] 50)).set hh.next (.cells [.int .i64 (Int.ofNat l[i].line), .int .u8 (Int.ofNat l[i].op), .string (bsOf l[i].label), .string (bsOf l[i].on), .slice p1 (u64C l[i].n).length s1, .slice p2 (u8C l[i].st).length s2] 50) = h2 at hg2 hx2 ⊢
      obtain ⟨v3, h3, e3, hw3, hle3, hlow3, hoth3⟩ := app_elem (sl31 X) (hw.grows hg2) (Nat.le_trans hg.next hg2.next) (new := [.int .i64 (Int.ofNat l[i].line), .int .u8 (Int.ofNat l[i].op), .string (bsOf l[i].label), .string (bsOf l[i].on), .slice p1 (u64C l[i].n).length s1, .slice p2 (u8C l[i].st).length s2]) rfl rfl (by omega)
      have hg3 : Grows h h3 := ⟨Nat.le_trans (Nat.le_trans hg.next hg2.next) hle3, fun o ho => (hlow3 o ho).trans ((hg.trans hg2).get o ho)⟩
      repeat (refine W.seq ?_)
      refine W.reg0 ?_
      simp only [go_sem, Nat.reduceEqDiff, g3, reduceIte, Nat.reduceLT, loadA, loadC, rd, hx2, seg, ofCells, List.all_cons, List.all_nil, Nat.reduceAdd, Nat.reduceMul, Nat.reduceLeDiff, effA, e3]
      repeat (refine W.seq ?_)
      refine W.reg0 ?_
      simp only [go_sem, Nat.reduceEqDiff, g8, reduceIte, inc_nat (show i + 1 ≤ 9223372036854775807 by omega), Nat.reduceLT]
      refine ⟨l.length - (i + 1), by omega, i + 1, v3, rfl, by omega, ?_⟩
      simp only [g6, g7]
      exact ⟨trivial, hg3, trivial, trivial, trivial, trivial, by rw [ht1]; exact hw3⟩
    · have : i = l.length := by omega
      subst this
      rw [List.take_of_length_le (by omega)] at hw
      repeat (refine W.seq ?_)
      refine W.exit ?_
      simp only [go_sem, reduceIte]
      repeat (refine W.seq ?_)
      refine W.reg0 ?_
      simp only [go_sem, Nat.reduceEqDiff, g3, reduceIte, Nat.reduceLT]
      repeat (refine W.seq ?_)
      refine W.ret ?_
      simp only [go_sem, outW, resultA, resA, Nat.reduceEqDiff, reduceIte]
      exact ⟨trivial, _, rfl, hg, hw⟩
  · simp only [go_sem, Nat.reduceEqDiff, reduceIte]
    exact ⟨0, _, rfl, Nat.zero_le _, trivial, Grows.refl _, (by first | trivial | rfl), (by first | trivial | rfl), (by first | trivial | rfl), (by first | trivial | rfl), by simpa using NewRow.nil 61 h.next h 6⟩

theorem x_same (px : PX X) (l : List Cmd) (b : Nat) (v v' : Value) (h : H) (hl : l.length ≤ 1000) (hN : ∀ c ∈ l, c.n.length ≤ 900000 ∧ c.st.length ≤ 900000) (hv : CmdsIn 50 b h v l) (hv' : CmdsIn 61 b h v' l) :
    ∃ r h', callS (EX X) 10 [v, v', .bool true] h = some (r, h') ∧ (Grows h h' ∧ r = .bool true) := by
  refine call_of px.n10 (gf10 X) rfl (rs := [.tmp 6]) rfl (m := 38) rfl ?_
  obtain ⟨cs, hrow, hc⟩ := hv
  obtain ⟨cs', hrow', hc'⟩ := hv'
  obtain ⟨vo, h1, e1, hg1, hof⟩ := x_of px l b v cs h hl hrow hc
  obtain ⟨pv, sv, rfl⟩ := hrow.form
  obtain ⟨pv', sv', rfl⟩ := hrow'.form
  obtain ⟨po, so, rfl⟩ := hof.form
  have hc1 := (hc.keepN (KeepN.of_grows hg1)).at
  have hc1' := (hc'.keepN (KeepN.of_grows hg1)).at
  have hrow1' := hrow'.grows hg1
  repeat (refine W.seq ?_)
  refine W.reg0 ?_
  simp only [go_sem, Nat.reduceAdd, Nat.reduceSub, Nat.reduceLT]
  repeat (refine W.seq ?_)
  refine W.reg0 ?_
  simp only [go_sem, Nat.reduceEqDiff, reduceIte, Nat.reduceLT]
  repeat (refine W.seq ?_)
  refine W.cond2 ?_
  simp only [go_sem, Nat.reduceEqDiff, reduceIte]
  refine ⟨fun hc => absurd rfl hc, fun _ => ?_⟩
  repeat (refine W.seq ?_)
  refine W.skip ?_
  simp only [go_sem]
  repeat (refine W.seq ?_)
  refine W.reg0 ?_
  simp only [go_sem, Nat.reduceEqDiff, reduceIte, Nat.reduceLT, e1]
  repeat (refine W.seq ?_)
  refine W.block ?_
  refine W.loop_inv (fun k a hh => ∃ i, k = l.length - i ∧ i ≤ l.length ∧ a.n = 38 ∧ Grows h1 hh ∧ a.m.get 1 = some (.slice pv' l.length sv') ∧ a.m.get 2 = some (.bool true) ∧ a.m.get 15 = some (.slice po l.length so) ∧ a.m.get 16 = some (.int .i64 (.ofNat l.length)) ∧ a.m.get 17 = some (.int .i64 (.ofNat i))) ?_ l.length _ _ ?_
  · intro k a hh ⟨i, hk, hi, hn, hg, g1, g2, g15, g16, g17⟩
    repeat (refine W.seq ?_)
    refine W.reg0 ?_
    simp only [go_sem, g17, g16, hn, Nat.reduceLT]
    repeat (refine W.seq ?_)
    refine W.cond2 ?_
    simp only [go_sem, reduceIte]
    refine ⟨fun hlt => ?_, fun hge => ?_⟩
    · obtain ⟨o, ho, e2, hget⟩ := NewRow.elem hof (by omega)
      simp only [Value.slice.injEq, true_and] at e2
      obtain ⟨rfl, rfl⟩ := e2
      obtain ⟨o', ho', e2', hget'⟩ := NewRow.elem hrow1' (by omega)
      simp only [Value.slice.injEq, true_and] at e2'
      obtain ⟨rfl, rfl⟩ := e2'
      obtain ⟨c1, hs1, hcm1, _⟩ := hc1.2 i hlt
      obtain ⟨c2, hs2, hcm2, _⟩ := hc1'.2 i hlt
      have hrd : rd hh o (i * 6) 6 = some c1 := rd_get ((hg.get o ho).trans hget) hs1
      obtain ⟨vN, vS, rfl, hN1, hS1⟩ := hcm1
      obtain ⟨p1, s1, rfl⟩ := hN1.form
      obtain ⟨p2, s2, rfl⟩ := hS1.form
      obtain ⟨vN', vS', rfl, hN2, hS2⟩ := hcm2
      obtain ⟨p1', s1', rfl⟩ := hN2.form
      obtain ⟨p2', s2', rfl⟩ := hS2.form
      repeat (refine W.seq ?_)
      refine W.skip ?_
      simp only [go_sem]
      repeat (refine W.seq ?_)
      refine W.block ?_
      repeat (refine W.seq ?_)
      refine W.reg0 ?_
      simp only [go_sem, hlt, Nat.reduceEqDiff, g17, reduceIte, Nat.reduceLT, g15, loadA, loadC, hrd, ofCells, bs_nil, List.all_cons, List.all_nil, effA, Nat.reduceAdd]
      have hg2 : Grows hh ((hh.new (.cells [.int .i64 (Int.ofNat 0), .int .u8 (Int.ofNat 0), .string (bsOf []), .string (bsOf []), .slice none 0 0, .slice none 0 0] 61)).set hh.next (.cells [.int .i64 (Int.ofNat l[i].line), .int .u8 (Int.ofNat l[i].op), .string (bsOf l[i].label), .string (bsOf l[i].on), .slice p1 (u64C l[i].n).length s1, .slice p2 (u8C l[i].st).length s2] 61)) := ((Grows.refl hh).new _).set (Nat.le_refl _) _
      have hx2 : rd ((hh.new (.cells [.int .i64 (Int.ofNat 0), .int .u8 (Int.ofNat 0), .string (bsOf []), .string (bsOf []), .slice none 0 0, .slice none 0 0] 61)).set hh.next (.cells [.int .i64 (Int.ofNat l[i].line), .int .u8 (Int.ofNat l[i].op), .string (bsOf l[i].label), .string (bsOf l[i].on), .slice p1 (u64C l[i].n).length s1, .slice p2 (u8C l[i].st).length s2] 61)) hh.next 0 6 = some ([.int .i64 (Int.ofNat l[i].line), .int .u8 (Int.ofNat l[i].op), .string (bsOf l[i].label), .string (bsOf l[i].on), .slice p1 (u64C l[i].n).length s1, .slice p2 (u8C l[i].st).length s2]) := rd_get (by rw [H.get_set, if_pos rfl]) rfl
      generalize (hh.new (.cells [.int .i64 (Int.ofNat 0), .int .u8 (Int.ofNat 0), .string (bsOf []), .string (bsOf []), .slice none 0 0, .slice none 0 0] 61)).set hh.next (.cells [.int .i64 (Int.ofNat l[i].line), .int .u8 (Int.ofNat l[i].op), .string (bsOf l[i].label), .string (bsOf l[i].on), .slice p1 (u64C l[i].n).length s1, .slice p2 (u8C l[i].st).length s2] 61) = h2 at hg2 hx2 ⊢
      have hg12 := hg.trans hg2
      have hrd2 : rd h2 o' (i * 6) 6 = some _ := rd_get ((hg12.get o' ho').trans hget') hs2
      have hmem := hN l[i] (by simp)
      have hq1 : sameL [Value.int .i64 (Int.ofNat l[i].line), .int .u8 (Int.ofNat l[i].op), .string (bsOf l[i].label), .string (bsOf l[i].on), .slice p1 (u64C l[i].n).length s1, .slice p2 (u8C l[i].st).length s2] [.int .i64 (Int.ofNat l[i].line), .int .u8 (Int.ofNat l[i].op), .string (bsOf l[i].label), .string (bsOf l[i].on), .slice p1 (u64C l[i].n).length s1, .slice p2 (u8C l[i].st).length s2] = true :=
        sameL_refl (by simp only [all1_cons, cell1_row hN1, cell1_row hS1, all1_nil]; rfl)
      have hq2 : sameL [Value.int .i64 (Int.ofNat l[i].line), .int .u8 (Int.ofNat l[i].op), .string (bsOf l[i].label), .string (bsOf l[i].on), .slice p1' (u64C l[i].n).length s1', .slice p2' (u8C l[i].st).length s2'] [.int .i64 (Int.ofNat l[i].line), .int .u8 (Int.ofNat l[i].op), .string (bsOf l[i].label), .string (bsOf l[i].on), .slice p1' (u64C l[i].n).length s1', .slice p2' (u8C l[i].st).length s2'] = true :=
        sameL_refl (by simp only [all1_cons, cell1_row hN2, cell1_row hS2, all1_nil]; rfl)
      obtain ⟨rv, h3, e3, hg3, rfl⟩ := x_same1 px l[i] p1 p1' p2 p2' s1 s1' s2 s2' h2 (hN1.is.view.grows hg12) (hN2.is.view.grows hg12) (hS1.is.view.grows hg12) (hS2.is.view.grows hg12) hmem.1 hmem.2
      repeat (refine W.seq ?_)
      refine W.reg0 ?_
      simp only [go_sem, Nat.reduceEqDiff, g2, reduceIte, Nat.reduceLT]
      repeat (refine W.seq ?_)
      refine W.cond2 ?_
      simp only [go_sem, Nat.reduceEqDiff, reduceIte]
      refine ⟨fun hc => (by simp at hc), fun _ => ?_⟩
      repeat (refine W.seq ?_)
      refine W.skip ?_
      simp only [go_sem]
      repeat (refine W.seq ?_)
      refine W.plan (st := [(0, 0, false), (1, 0, false), (2, 0, false), (3, 6, false), (4, 14, false), (5, 31, true), (6, 63, false)]) (by kernel_rfl) ?_
      simp only [go_sem, goP, stableD, Nat.reduceEqDiff, reduceIte, hx2, Nat.reduceAdd, stab_cons, hq1, stab_nil, Bool.or_true, loadA, loadC, ofCells, Nat.reduceLT, g1, hlt, hrd2, hq2, e3]
      repeat (refine W.seq ?_)
      refine W.cond2 ?_
      simp only [go_sem, Nat.reduceEqDiff, reduceIte]
      refine ⟨fun hc => (by simp at hc), fun _ => ?_⟩
      repeat (refine W.seq ?_)
      refine W.skip ?_
      simp only [go_sem]
      repeat (refine W.seq ?_)
      refine W.reg0 ?_
      simp only [go_sem, Nat.reduceEqDiff, g17, reduceIte, inc_nat (show i + 1 ≤ 9223372036854775807 by omega), Nat.reduceLT]
      refine ⟨l.length - (i + 1), by omega, i + 1, rfl, by omega, ?_⟩
      simp only [go_sem, g1, g2, g15, g16]
      exact ⟨trivial, hg12.trans hg3, trivial⟩
    · repeat (refine W.seq ?_)
      refine W.exit ?_
      simp only [go_sem, reduceIte]
      repeat (refine W.seq ?_)
      refine W.reg0 ?_
      simp only [go_sem, Nat.reduceLT]
      repeat (refine W.seq ?_)
      refine W.ret ?_
      simp only [go_sem, outW, resultA, resA, Nat.reduceEqDiff, reduceIte]
      exact ⟨trivial, _, rfl, hg1.trans hg, rfl⟩
  · simp only [go_sem, Nat.reduceEqDiff, reduceIte]
    exact ⟨0, rfl, Nat.zero_le _, trivial, Grows.refl _, (by first | trivial | rfl), (by first | trivial | rfl), (by first | trivial | rfl), (by first | trivial | rfl), (by first | trivial | rfl)⟩
end Go.Proofs.YtkoccbggjfbgaaaGreatDoor
end

section
open Go.Eng
set_option maxRecDepth 100000
set_option linter.unusedSimpArgs false
set_option linter.unusedVariables false
namespace Go.Proofs.YtkoccbggjfbgaaaGreatDoor
variable {X : Tr Nat}

theorem sS30 (X : Tr Nat) : (EX X).S.get 30 = some 1 := by kernel_rfl
theorem sS25 (X : Tr Nat) : (EX X).S.get 25 = some 1 := by kernel_rfl

theorem aeq_cfg (c : Cfg) : aeq (EX X) 20 30 (.agg #[.int .i64 (Int.ofNat c.cores), .int .i64 (Int.ofNat c.tasks), .int .u64 (Int.ofNat c.tick), .int .u64 (Int.ofNat c.slice), .int .u64 (Int.ofNat c.origin)])
    (.agg #[.int .i64 (Int.ofNat c.cores), .int .i64 (Int.ofNat c.tasks), .int .u64 (Int.ofNat c.tick), .int .u64 (Int.ofNat c.slice), .int .u64 (Int.ofNat c.origin)]) = some true := by
  simp only [go_sem, aeq, sS30, aeqS, partA, seg, beq_self_eq_true]
  rfl

theorem aeq_cfg2 (c : Cfg) : aeq (EX X) 20 25 (.agg #[.int .i64 (Int.ofNat c.cores), .int .i64 (Int.ofNat c.tasks), .int .u64 (Int.ofNat c.tick), .int .u64 (Int.ofNat c.slice), .int .u64 (Int.ofNat c.origin)])
    (.agg #[.int .i64 (Int.ofNat c.cores), .int .i64 (Int.ofNat c.tasks), .int .u64 (Int.ofNat c.tick), .int .u64 (Int.ofNat c.slice), .int .u64 (Int.ofNat c.origin)]) = some true := by
  simp only [go_sem, aeq, sS25, aeqS, partA, seg, beq_self_eq_true]
  rfl

theorem foldS_len (rest : List UInt8) : ∀ (ws : List (List UInt8)) (i : Nat) (c : Cmd), (foldS rest i ws c).1.n.length ≤ c.n.length + ws.length ∧ (foldS rest i ws c).1.st.length ≤ c.st.length + ws.length
  | [], i, c => by simp [foldS]
  | w :: ws, i, c => by
    unfold foldS
    have h1 := takeS_len (whatB rest i) w c
    have h2 := foldS_len rest ws (i + 1) (takeS (whatB rest i) w c).1
    split
    · simp only [go_sem]; omega
    · simp [Cmd.zero]

theorem cmdS_len (line : Nat) (l : List (List UInt8)) : (cmdS line l).1.n.length ≤ l.length ∧ (cmdS line l).1.st.length ≤ l.length := by
  unfold cmdS
  split
  · simp [Cmd.zero]
  · split
    · simp [Cmd.zero]
    · rename_i w ws _ op _
      split
      · have := foldS_len (formR.getD op []) ws 0 ⟨line, op, [], [], [], []⟩
        simp only [go_sem] at this ⊢
        omega
      · simp [Cmd.zero]

theorem loopS_len {N : Nat} : ∀ (ls : List (List UInt8)) (i : Nat) (b : Bool) (c : Cfg) (out : List Cmd), (∀ l ∈ ls, l.length ≤ N) → out.length ≤ 1000 → (∀ x ∈ out, x.n.length ≤ N ∧ x.st.length ≤ N) →
    (loopS i ls b c out).cmds.length ≤ 1000 ∧ ∀ x ∈ (loopS i ls b c out).cmds, x.n.length ≤ N ∧ x.st.length ≤ N
  | [], i, true, c, out, _, h1, h2 => by unfold loopS; exact ⟨h1, h2⟩
  | [], i, false, c, out, _, h1, h2 => by unfold loopS; simp
  | l :: ls, i, b, c, out, hl, h1, h2 => by
    have hls : ∀ l ∈ ls, l.length ≤ N := fun x hx => hl x (by simp [hx])
    unfold loopS
    split
    · exact loopS_len ls _ _ _ _ hls h1 h2
    · rename_i w ws hw
      have hN : (w :: ws).length ≤ N := by
        have := @lineW_mem (wordsL l)
        rw [hw] at this
        exact Nat.le_trans this.2 (Nat.le_trans (words_le l).1 (hl l (by simp)))
      split
      · split
        · exact loopS_len ls _ _ _ _ hls h1 h2
        · simp
      · split
        · simp
        · split
          · refine loopS_len ls _ _ _ _ hls (by simp; omega) ?_
            intro x hx
            rcases List.mem_append.1 hx with hx | hx
            · exact h2 x hx
            · simp only [List.mem_singleton] at hx
              subst hx
              have := cmdS_len (i + 1) (w :: ws)
              omega
          · simp

theorem parseS_len (t : List UInt8) : (parseS t).cmds.length ≤ 1000 ∧ ∀ x ∈ (parseS t).cmds, x.n.length ≤ t.length ∧ x.st.length ≤ t.length := by
  unfold parseS
  split
  · simp
  · exact loopS_len _ _ _ _ _ (pieces_le 10 t).2 (by simp) (by simp)

theorem CmdsC.weaken {b b' : Nat} (hb : b' ≤ b) {h : H} {cs : List Value} {l : List Cmd} (a : CmdsC b h cs l) : CmdsC b' h cs l := by
  induction a with
  | nil => exact .nil
  | snoc _ k ih => exact .snoc ih (k.weaken hb)

def RefParses (X : Tr Nat) : Prop := ∀ (t : List UInt8) (h : H), t.length ≤ 8000 → ∃ r h', callS (EX X) 9 [.string (bsOf t)] h = some (r, h') ∧ Grows h h' ∧ ∃ v, r = .tuple #[(parseS t).cfg.val, v, .int .i64 (Int.ofNat (parseS t).line), .int .i64 (Int.ofNat (parseS t).err)] ∧ CmdsIn 61 h.next h' v (parseS t).cmds

theorem x_law3 (px : PX X) (h7 : X.get 7 = some 10) (n3 : X.get 3 = none) (rp : RefParses X) (t : List UInt8) (h : H) (hok : HOk h) : ∃ r h', callS (EX X) 3 [.string (bsOf t)] h = some (r, h') ∧ (Grows h h' ∧ r = .bool true) := by
  refine call_of n3 (gf3 X) rfl (rs := [.tmp 2]) rfl (m := 48) rfl ?_
  have hsz : (bsOf t).size = t.length := bsOf_size t
  have haw : callS (EX X) 7 [] h = some (.bool true, h) := (call_hook h7).trans rfl
  repeat (refine W.seq ?_)
  refine W.reg0 ?_
  simp only [go_sem, Nat.reduceSub, Nat.reduceAdd, Nat.reduceLT]
  repeat (refine W.seq ?_)
  refine W.reg0 ?_
  simp only [go_sem, haw, Nat.reduceLT, Nat.reduceEqDiff, reduceIte]
  repeat (refine W.seq ?_)
  refine W.cond2 ?_
  simp only [go_sem, Nat.reduceEqDiff, reduceIte]
  refine ⟨fun hc => (by simp at hc), fun _ => ?_⟩
  repeat (refine W.seq ?_)
  refine W.skip ?_
  simp only [go_sem]
  repeat (refine W.seq ?_)
  refine W.reg0 ?_
  simp only [go_sem, Nat.reduceEqDiff, reduceIte, Nat.reduceLT, hsz]
  repeat (refine W.seq ?_)
  refine W.cond2 ?_
  simp only [go_sem, Nat.reduceEqDiff, reduceIte]
  refine ⟨fun _ => ?_, fun hle => ?_⟩
  · repeat (refine W.seq ?_)
    refine W.reg0 ?_
    simp only [go_sem, Nat.reduceLT]
    repeat (refine W.seq ?_)
    refine W.ret ?_
    simp only [go_sem, outW, resultA, resA, Nat.reduceEqDiff, reduceIte]
    exact ⟨trivial, _, rfl, Grows.refl _, rfl⟩
  have hle : t.length ≤ 8000 := by omega
  obtain ⟨r1, h1, e1, hg1, v1, rfl, hc1⟩ := x_parseText px t (by omega) h hok
  obtain ⟨hlen, hmem⟩ := parseS_len t
  have hK : Grows h1 ((h1.new (.cells Cfg.zero.cells 25)).set h1.next (.cells (parseS t).cfg.cells 25)) := ((Grows.refl h1).new _).set (Nat.le_refl _) _
  have hx1 : ((h1.new (.cells Cfg.zero.cells 25)).set h1.next (.cells (parseS t).cfg.cells 25)).get h1.next = some (.cells (parseS t).cfg.cells 25) := by rw [H.get_set, if_pos rfl]
  have hn1 : ((h1.new (.cells Cfg.zero.cells 25)).set h1.next (.cells (parseS t).cfg.cells 25)).next = h1.next + 1 := rfl
  simp only [Cfg.cells, Cfg.zero] at hK hx1 hn1
  repeat (refine W.seq ?_)
  refine W.skip ?_
  simp only [go_sem]
  repeat (refine W.seq ?_)
  refine W.reg0 ?_
  simp only [go_sem, Nat.reduceEqDiff, reduceIte, Nat.reduceLT, e1, Cfg.val, Cfg.cells, List.all_cons, List.all_nil, effA, Nat.reduceAdd]
  generalize (h1.new (.cells [Value.int .i64 (Int.ofNat 0), .int .i64 (Int.ofNat 0), .int .u64 (Int.ofNat 0), .int .u64 (Int.ofNat 0), .int .u64 (Int.ofNat 0)] 25)).set h1.next (.cells [Value.int .i64 (Int.ofNat (parseS t).cfg.cores), .int .i64 (Int.ofNat (parseS t).cfg.tasks), .int .u64 (Int.ofNat (parseS t).cfg.tick), .int .u64 (Int.ofNat (parseS t).cfg.slice), .int .u64 (Int.ofNat (parseS t).cfg.origin)] 25) = h2 at hK hx1 hn1 ⊢
  obtain ⟨r3, h3, e3, hg3, v3, rfl, hc3⟩ := rp t h2 hle
  have hK4 : Grows h3 ((h3.new (.cells Cfg.zero.cells 30)).set h3.next (.cells (parseS t).cfg.cells 30)) := ((Grows.refl h3).new _).set (Nat.le_refl _) _
  have hx4 : ((h3.new (.cells Cfg.zero.cells 30)).set h3.next (.cells (parseS t).cfg.cells 30)).get h3.next = some (.cells (parseS t).cfg.cells 30) := by rw [H.get_set, if_pos rfl]
  simp only [Cfg.cells, Cfg.zero] at hK4 hx4
  repeat (refine W.seq ?_)
  refine W.reg0 ?_
  simp only [go_sem, Nat.reduceEqDiff, reduceIte, Nat.reduceLT, e3, Cfg.val, Cfg.cells, List.all_cons, List.all_nil, effA, Nat.reduceAdd]
  generalize (h3.new (.cells [Value.int .i64 (Int.ofNat 0), .int .i64 (Int.ofNat 0), .int .u64 (Int.ofNat 0), .int .u64 (Int.ofNat 0), .int .u64 (Int.ofNat 0)] 30)).set h3.next (.cells [Value.int .i64 (Int.ofNat (parseS t).cfg.cores), .int .i64 (Int.ofNat (parseS t).cfg.tasks), .int .u64 (Int.ofNat (parseS t).cfg.tick), .int .u64 (Int.ofNat (parseS t).cfg.slice), .int .u64 (Int.ofNat (parseS t).cfg.origin)] 30) = h4 at hK4 hx4 ⊢
  have hg34 := hg3.trans hK4
  have hx14 := (hg34.get h1.next (by omega)).trans hx1
  have hg14 := (hK.trans hg34)
  obtain ⟨cs1, hr1, hcc1⟩ := hc1
  obtain ⟨cs3, hr3, hcc3⟩ := hc3
  obtain ⟨r5, h5, e5, hg5, rfl⟩ := x_same px (parseS t).cmds 0 v1 v3 h4 hlen (fun c hc => by have := hmem c hc; omega) ⟨cs1, (hr1.weaken (Nat.zero_le _)).grows hg14, CmdsC.weaken (Nat.zero_le _) (hcc1.keepN (KeepN.of_grows hg14))⟩ ⟨cs3, (hr3.weaken (Nat.zero_le _)).grows hK4, CmdsC.weaken (Nat.zero_le _) (hcc3.keepN (KeepN.of_grows hK4))⟩
  repeat (refine W.seq ?_)
  refine W.reg0 ?_
  simp only [go_sem, Nat.reduceEqDiff, reduceIte, loadA, loadC, rd, hx14, seg, ofCells, Nat.reduceLT, hx4, aeq_cfg, e5]
  repeat (refine W.seq ?_)
  refine W.ret ?_
  simp only [go_sem, outW, resultA, resA, Nat.reduceEqDiff, reduceIte]
  exact ⟨trivial, _, rfl, ((hg1.trans hK).trans hg34).trans hg5, rfl⟩
end Go.Proofs.YtkoccbggjfbgaaaGreatDoor
end

section
open Go.Eng
set_option maxRecDepth 100000
set_option linter.unusedSimpArgs false
set_option linter.unusedVariables false
namespace Go.Proofs.YtkoccbggjfbgaaaGreatDoor
variable {X : Tr Nat}

theorem x_label (px : PX X) (op : Nat) (h : H) : callS (EX X) 70 [.int .u8 (Int.ofNat op)] h = some (.bool (decide (op = 0)), h) := by
  obtain ⟨r, h', e, rfl, rfl⟩ : ∃ r h', callS (EX X) 70 [.int .u8 (Int.ofNat op)] h = some (r, h') ∧ (r = .bool (decide (op = 0)) ∧ h' = h) := by
    refine call_of px.n70 (gf70 X) rfl (rs := [.tmp 2]) rfl (m := 5) rfl ?_
    repeat (refine W.seq ?_)
    refine W.reg0 ?_
    simp only [go_sem, Nat.reduceSub, Nat.reduceAdd, Nat.reduceLT]
    repeat (refine W.seq ?_)
    refine W.reg0 ?_
    simp only [go_sem, Nat.reduceEqDiff, reduceIte, Nat.reduceLT]
    repeat (refine W.seq ?_)
    refine W.ret ?_
    simp only [go_sem, outW, resultA, resA, Nat.reduceEqDiff, reduceIte]
    exact ⟨trivial, _, rfl, rfl, trivial⟩
  exact e

theorem x_named (px : PX X) (op : Nat) (h : H) : callS (EX X) 71 [.int .u8 (Int.ofNat op)] h = some (.bool (decide ((1 ≤ op ∧ op ≤ 6) ∨ op = 8)), h) := by
  obtain ⟨r, h', e, rfl, rfl⟩ : ∃ r h', callS (EX X) 71 [.int .u8 (Int.ofNat op)] h = some (r, h') ∧ (r = .bool (decide ((1 ≤ op ∧ op ≤ 6) ∨ op = 8)) ∧ h' = h) := by
    refine call_of px.n71 (gf71 X) rfl (rs := [.tmp 2]) rfl (m := 13) rfl ?_
    repeat (refine W.seq ?_)
    refine W.reg0 ?_
    simp only [go_sem, Nat.reduceSub, Nat.reduceAdd, Nat.reduceLT]
    by_cases h1 : 1 ≤ op
    · by_cases h2 : op ≤ 6
      · repeat (refine W.seq ?_)
        refine W.reg0 ?_
        simp only [go_sem, Nat.reduceEqDiff, reduceIte, Nat.reduceLT, h1, h2]
        repeat (refine W.seq ?_)
        refine W.ret ?_
        simp only [go_sem, outW, resultA, resA, Nat.reduceEqDiff, reduceIte]
        exact ⟨trivial, _, rfl, by simp [h1, h2], trivial⟩
      · repeat (refine W.seq ?_)
        refine W.reg0 ?_
        simp only [go_sem, Nat.reduceEqDiff, reduceIte, Nat.reduceLT, h1, h2]
        repeat (refine W.seq ?_)
        refine W.ret ?_
        simp only [go_sem, outW, resultA, resA, Nat.reduceEqDiff, reduceIte]
        exact ⟨trivial, _, rfl, by simp [h1, h2], trivial⟩
    · repeat (refine W.seq ?_)
      refine W.reg0 ?_
      simp only [go_sem, Nat.reduceEqDiff, reduceIte, Nat.reduceLT, h1]
      repeat (refine W.seq ?_)
      refine W.ret ?_
      simp only [go_sem, outW, resultA, resA, Nat.reduceEqDiff, reduceIte]
      exact ⟨trivial, _, rfl, by simp [h1], trivial⟩
  exact e

def countL : List Nat := [3, 0, 0, 0, 1, 1, 1, 1, 0, 0, 0, 0]
theorem x_count (px : PX X) (op : Nat) (hop : op < 12) (h : H) : ∃ r h', callS (EX X) 69 [.int .u8 (Int.ofNat op)] h = some (r, h') ∧ (Grows h h' ∧ r = .int .i64 (Int.ofNat (countL.getD op 0))) := by
  refine call_of px.n69 (gf69 X) rfl (rs := [.tmp 2]) rfl (m := 7) rfl ?_
  have hrd : rd (h.new (.cells (intC countL) 3)) h.next op 1 = some [.int .i64 (Int.ofNat (countL.getD op 0))] := rd_get (H.get_new' _ _) (seg_one _ _ _ (intC_at hop))
  have hg : Grows h (h.new (.cells (intC countL) 3)) := (Grows.refl h).new _
  simp only [go_sem, intC, countL] at hrd hg
  repeat (refine W.seq ?_)
  refine W.reg0 ?_
  simp only [go_sem, Nat.reduceSub, Nat.reduceAdd, Nat.reduceLT]
  repeat (refine W.seq ?_)
  refine W.reg0 ?_
  simp only [go_sem, Nat.reduceLeDiff, Nat.reduceLT, Nat.reduceEqDiff, reduceIte, hop, loadA, loadC, hrd, ofCells]
  repeat (refine W.seq ?_)
  refine W.ret ?_
  simp only [go_sem, outW, resultA, resA, Nat.reduceEqDiff, reduceIte]
  exact ⟨trivial, _, rfl, hg, rfl⟩

theorem x_wordOf (px : PX X) (op : Nat) (hop : op < 12) (h : H) : ∃ r h', callS (EX X) 52 [.int .u8 (Int.ofNat op)] h = some (r, h') ∧ (Grows h h' ∧ r = .string (bsOf (formW.getD op []))) := by
  refine call_of px.n52 (gf52 X) rfl (rs := [.tmp 2]) rfl (m := 7) rfl ?_
  have hat : formW[op]? = some (formW.getD op []) := by rw [List.getD_eq_getElem?_getD, List.getElem?_eq_getElem (show op < formW.length from hop)]; rfl
  have hrd : rd (h.new (.cells [.string { data := #[115, 112, 97, 119, 110] }, .string { data := #[101, 120, 105, 116] }, .string { data := #[115, 108, 101, 101, 112] }, .string { data := #[119, 97, 107, 101] }, .string { data := #[119, 101, 105, 103, 104, 116] }, .string { data := #[115, 108, 105, 99, 101] }, .string { data := #[109, 105, 103, 114, 97, 116, 101] }, .string { data := #[116, 105, 99, 107] }, .string { data := #[116, 97, 115, 107] }, .string { data := #[116, 97, 115, 107, 115] }, .string { data := #[99, 111, 114, 101, 115] }, .string { data := #[114, 117, 110, 115] }] 9)) h.next op 1 = some [.string (bsOf (formW.getD op []))] := rd_get (H.get_new' _ _) (seg_one _ _ _ (strC_at hat))
  have hg : Grows h (h.new (.cells [.string { data := #[115, 112, 97, 119, 110] }, .string { data := #[101, 120, 105, 116] }, .string { data := #[115, 108, 101, 101, 112] }, .string { data := #[119, 97, 107, 101] }, .string { data := #[119, 101, 105, 103, 104, 116] }, .string { data := #[115, 108, 105, 99, 101] }, .string { data := #[109, 105, 103, 114, 97, 116, 101] }, .string { data := #[116, 105, 99, 107] }, .string { data := #[116, 97, 115, 107] }, .string { data := #[116, 97, 115, 107, 115] }, .string { data := #[99, 111, 114, 101, 115] }, .string { data := #[114, 117, 110, 115] }] 9)) := (Grows.refl h).new _
  repeat (refine W.seq ?_)
  refine W.reg0 ?_
  simp only [go_sem, Nat.reduceSub, Nat.reduceAdd, Nat.reduceLT]
  repeat (refine W.seq ?_)
  refine W.reg0 ?_
  simp only [go_sem, Nat.reduceLeDiff, Nat.reduceLT, Nat.reduceEqDiff, reduceIte, hop, loadA, loadC, hrd, ofCells]
  repeat (refine W.seq ?_)
  refine W.ret ?_
  simp only [go_sem, outW, resultA, resA, Nat.reduceEqDiff, reduceIte]
  exact ⟨trivial, _, rfl, hg, rfl⟩

def stS (w : List UInt8) : Nat := match fidx w stateW with
  | some k => k + 1
  | none => 0

theorem x_state (px : PX X) (w : List UInt8) (h : H) : ∃ r h', callS (EX X) 87 [.string (bsOf w)] h = some (r, h') ∧ (Grows h h' ∧ r = .int .u8 (Int.ofNat (stS w))) := by
  refine call_of px.n87 (gf87 X) rfl (rs := [.tmp 2]) rfl (m := 19) rfl ?_
  have hl : stateW.length = 3 := rfl
  have hg : Grows h (h.new (.cells [.string { data := #[114, 117, 110, 110, 97, 98, 108, 101] }, .string { data := #[108, 105, 110, 103, 101, 114, 105, 110, 103] }, .string { data := #[115, 108, 101, 101, 112, 105, 110, 103] }] 9)) := (Grows.refl h).new _
  have hget : (h.new (.cells [.string { data := #[114, 117, 110, 110, 97, 98, 108, 101] }, .string { data := #[108, 105, 110, 103, 101, 114, 105, 110, 103] }, .string { data := #[115, 108, 101, 101, 112, 105, 110, 103] }] 9)).get h.next = some (.cells (strC stateW) 9) := H.get_new' _ _
  repeat (refine W.seq ?_)
  refine W.reg0 ?_
  simp only [go_sem, Nat.reduceSub, Nat.reduceAdd, Nat.reduceLT]
  repeat (refine W.seq ?_)
  refine W.reg0 ?_
  simp only [go_sem, Nat.reduceLeDiff, Nat.reduceLT, Nat.reduceEqDiff, reduceIte]
  generalize h.new (.cells [.string { data := #[114, 117, 110, 110, 97, 98, 108, 101] }, .string { data := #[108, 105, 110, 103, 101, 114, 105, 110, 103] }, .string { data := #[115, 108, 101, 101, 112, 105, 110, 103] }] 9) = h1 at hg hget ⊢
  repeat (refine W.seq ?_)
  refine W.block ?_
  refine W.loop_inv (fun k a hh => ∃ i, k = 3 - i ∧ i ≤ 3 ∧ a.n = 19 ∧ hh = h1 ∧ a.m.get 0 = some (.string (bsOf w)) ∧ a.m.get 5 = some (.slice (some ⟨h.next, 0, none⟩) 3 1) ∧ a.m.get 6 = some (.int .i64 (.ofNat 3)) ∧ a.m.get 7 = some (.int .i64 (.ofNat i)) ∧
    fidx w stateW = (fidx w (stateW.drop i)).map (· + i)) ?_ 3 _ _ ?_
  · intro k a hh ⟨i, hk, hi, hn, hhh, g0, g5, g6, g7, hs⟩
    subst hhh
    repeat (refine W.seq ?_)
    refine W.reg0 ?_
    simp only [go_sem, g7, g6, hn, Nat.reduceLT]
    repeat (refine W.seq ?_)
    refine W.cond2 ?_
    simp only [go_sem, reduceIte]
    refine ⟨fun hlt => ?_, fun hge => ?_⟩
    · have hrd : rd hh h.next i 1 = some [.string (bsOf (stateW[i]'hlt))] := rd_get hget (seg_one _ _ _ (strC_at (List.getElem?_eq_getElem hlt)))
      repeat (refine W.seq ?_)
      refine W.skip ?_
      simp only [go_sem]
      repeat (refine W.seq ?_)
      refine W.block ?_
      repeat (refine W.seq ?_)
      refine W.reg0 ?_
      simp only [go_sem, hlt, Nat.reduceEqDiff, g7, reduceIte, Nat.reduceLT, g5, loadA, loadC, hrd, ofCells]
      repeat (refine W.seq ?_)
      refine W.reg0 ?_
      simp only [go_sem, Nat.reduceEqDiff, reduceIte, Nat.reduceLT, g0]
      repeat (refine W.seq ?_)
      refine W.cond2 ?_
      simp only [go_sem, Nat.reduceEqDiff, reduceIte]
      refine ⟨fun he => ?_, fun hne => ?_⟩
      · repeat (refine W.seq ?_)
        refine W.reg0 ?_
        simp only [go_sem, Nat.reduceEqDiff, reduceIte, Nat.reduceLT, inc_nat (show i + 1 ≤ 9223372036854775807 by omega), wrap8 (show i + 1 < 256 by omega)]
        repeat (refine W.seq ?_)
        refine W.ret ?_
        simp only [go_sem, outW, resultA, resA, Nat.reduceEqDiff, reduceIte]
        refine ⟨trivial, _, rfl, hg, ?_⟩
        have := fidx_hit (l := stateW) hlt (of_decide_eq_true he).symm hs
        unfold stS
        rw [this]
      · repeat (refine W.seq ?_)
        refine W.skip ?_
        simp only [go_sem]
        repeat (refine W.seq ?_)
        refine W.reg0 ?_
        simp only [go_sem, Nat.reduceEqDiff, g7, reduceIte, inc_nat (show i + 1 ≤ 9223372036854775807 by omega), Nat.reduceLT, g0, g5, g6]
        refine ⟨3 - (i + 1), by omega, i + 1, rfl, by omega, ?_⟩
        simp only []
        exact ⟨trivial, trivial, trivial, trivial, trivial, trivial, fidx_miss (l := stateW) hlt (fun e => of_decide_eq_false hne e.symm) hs⟩
    · repeat (refine W.seq ?_)
      refine W.exit ?_
      simp only [go_sem, reduceIte]
      repeat (refine W.seq ?_)
      refine W.reg0 ?_
      simp only [go_sem, Nat.reduceLT]
      repeat (refine W.seq ?_)
      refine W.ret ?_
      simp only [go_sem, outW, resultA, resA, Nat.reduceEqDiff, reduceIte]
      refine ⟨trivial, _, rfl, hg, ?_⟩
      unfold stS
      rw [fidx_end (l := stateW) (by omega) hs]
  · simp only [go_sem, Nat.reduceEqDiff, reduceIte]
    exact ⟨0, rfl, Nat.zero_le _, trivial, trivial, (by first | trivial | rfl), (by first | trivial | rfl), (by first | trivial | rfl), (by first | trivial | rfl), fidx_start _ _⟩
end Go.Proofs.YtkoccbggjfbgaaaGreatDoor
end
