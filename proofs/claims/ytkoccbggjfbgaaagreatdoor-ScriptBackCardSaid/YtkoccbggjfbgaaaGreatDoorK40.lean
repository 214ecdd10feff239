/-
  The script seat: commands held against each other but for their lines, their rows wherever they lie. The script seat: the law of printing and parsing back. ScriptBack at the script seat: the world that the row describes, with strconv.ErrRange as an object of its own; the law.
-/
import Derived.Test.YtkoccbggjfbgaaaGreatDoorK10
import Derived.Test.YtkoccbggjfbgaaaGreatDoorK18
import Derived.Test.YtkoccbggjfbgaaaGreatDoorK39
set_option linter.all false

section
open Go.Eng
set_option maxRecDepth 100000
set_option linter.unusedSimpArgs false
set_option linter.unusedVariables false
namespace Go.Proofs.YtkoccbggjfbgaaaGreatDoor
variable {X : Tr Nat}

theorem seg_part {α : Type} {l r r2 : List α} {o n i k : Nat} (h : seg l o n = some r) (h2 : seg r i k = some r2) : seg l (o + i) k = some r2 := by
  obtain ⟨e, hl⟩ := seg_spec h
  obtain ⟨e2, hl2⟩ := seg_spec h2
  rw [seg_length h] at hl2
  rw [seg_eq l (o + i) k (by omega), e2, e]
  congr 1
  rw [List.drop_take, List.take_take, List.drop_drop, Nat.min_eq_left (by omega)]
theorem rd_part {h : H} {o off n i k : Nat} {l r : List Value} (hr : rd h o off n = some l) (hs : seg l i k = some r) : rd h o (off + i) k = some r := by
  have hsub : ∀ {p : Value → Bool}, l.all p = true → r.all p = true := fun {p} ha => List.all_eq_true.2 fun x hx => by
    obtain ⟨e, _⟩ := seg_spec hs
    rw [e] at hx
    exact List.all_eq_true.1 ha x (List.mem_of_mem_drop (List.mem_of_mem_take hx))
  unfold rd at hr ⊢
  split at hr
  · exact seg_part hr hs
  · split at hr
    · rename_i l' hl'
      split at hr
      · rename_i hc
        simp only [Option.some.injEq] at hr
        subst hr
        simp only [seg_part hl' hs, hsub hc]
      · simp at hr
    · simp at hr
  · split at hr
    · rename_i l' hl'
      split at hr
      · rename_i hc
        simp only [Option.some.injEq] at hr
        subst hr
        simp only [seg_part hl' hs, hsub hc]
      · simp at hr
    · simp at hr
  all_goals simp at hr

theorem x_same1r (px : PX X) (c : Cmd) (z : Int) (pN pN' pS pS' : Option Addr) (sN sN' sS sS' : Nat) (h : H) (hN : RView h (.slice pN (u64C c.n).length sN) (u64C c.n)) (hN' : RView h (.slice pN' (u64C c.n).length sN') (u64C c.n))
    (hS : RView h (.slice pS (u8C c.st).length sS) (u8C c.st)) (hS' : RView h (.slice pS' (u8C c.st).length sS') (u8C c.st)) (hln : c.n.length ≤ 900000) (hls : c.st.length ≤ 900000) :
    ∃ r h', callS (EX X) 27 [.agg #[.int .i64 z, .int .u8 (Int.ofNat c.op), .string (bsOf c.label), .string (bsOf c.on), .slice pN (u64C c.n).length sN, .slice pS (u8C c.st).length sS],
      .agg #[.int .i64 z, .int .u8 (Int.ofNat c.op), .string (bsOf c.label), .string (bsOf c.on), .slice pN' (u64C c.n).length sN', .slice pS' (u8C c.st).length sS']] h = some (r, h') ∧ (Grows h h' ∧ r = .bool true) := by
  refine call_of px.n27 (gf27 X) rfl (rs := [.tmp 4]) rfl (m := 87) rfl ?_
  rw [u64C_length] at hN hN' ⊢
  rw [u8C_length] at hS hS' ⊢
  have hne0 : ¬ h.next = h.next + 1 := by omega
  repeat (refine W.seq ?_)
  refine W.reg0 ?_
  simp only [go_sem, Nat.reduceAdd, Nat.reduceSub, Nat.reduceEqDiff, reduceIte, Nat.reduceLT]
  have hg1 : Grows h ((h.new (.cells [.int .i64 z, .int .u8 (Int.ofNat c.op), .string (bsOf c.label), .string (bsOf c.on), .slice pN c.n.length sN, .slice pS c.st.length sS] 61)).new (.cells [.int .i64 z, .int .u8 (Int.ofNat c.op), .string (bsOf c.label), .string (bsOf c.on), .slice pN' c.n.length sN', .slice pS' c.st.length sS'] 61)) := ((Grows.refl h).new _).new _
  have ha1 : ((h.new (.cells [.int .i64 z, .int .u8 (Int.ofNat c.op), .string (bsOf c.label), .string (bsOf c.on), .slice pN c.n.length sN, .slice pS c.st.length sS] 61)).new (.cells [.int .i64 z, .int .u8 (Int.ofNat c.op), .string (bsOf c.label), .string (bsOf c.on), .slice pN' c.n.length sN', .slice pS' c.st.length sS'] 61)).get h.next = some (.cells [.int .i64 z, .int .u8 (Int.ofNat c.op), .string (bsOf c.label), .string (bsOf c.on), .slice pN c.n.length sN, .slice pS c.st.length sS] 61) := by
    rw [H.get_new, if_neg (show ¬ h.next = (h.new (.cells [.int .i64 z, .int .u8 (Int.ofNat c.op), .string (bsOf c.label), .string (bsOf c.on), .slice pN c.n.length sN, .slice pS c.st.length sS] 61)).next from hne0)]
    exact H.get_new' _ _
  have hb1 : ((h.new (.cells [.int .i64 z, .int .u8 (Int.ofNat c.op), .string (bsOf c.label), .string (bsOf c.on), .slice pN c.n.length sN, .slice pS c.st.length sS] 61)).new (.cells [.int .i64 z, .int .u8 (Int.ofNat c.op), .string (bsOf c.label), .string (bsOf c.on), .slice pN' c.n.length sN', .slice pS' c.st.length sS'] 61)).get (h.next + 1) = some (.cells [.int .i64 z, .int .u8 (Int.ofNat c.op), .string (bsOf c.label), .string (bsOf c.on), .slice pN' c.n.length sN', .slice pS' c.st.length sS'] 61) := H.get_new' _ _
  generalize (h.new (.cells [.int .i64 z, .int .u8 (Int.ofNat c.op), .string (bsOf c.label), .string (bsOf c.on), .slice pN c.n.length sN, .slice pS c.st.length sS] 61)).new (.cells [.int .i64 z, .int .u8 (Int.ofNat c.op), .string (bsOf c.label), .string (bsOf c.on), .slice pN' c.n.length sN', .slice pS' c.st.length sS'] 61) = h1 at hg1 ha1 hb1 ⊢
  have vN := hN.grows hg1
  have vN' := hN'.grows hg1
  have vS := hS.grows hg1
  have vS' := hS'.grows hg1
  repeat (refine W.seq ?_)
  refine W.reg0 ?_
  simp only [go_sem, Nat.reduceEqDiff, reduceIte, Nat.reduceLT, loadA, loadC, rd, ha1, seg, ofCells, hb1, bne_self_eq_false, ne_eq, not_true_eq_false]
  repeat (refine W.seq ?_)
  refine W.cond2 ?_
  simp only [go_sem, Nat.reduceEqDiff, reduceIte]
  refine ⟨fun hc => (by simp at hc), fun _ => ?_⟩
  repeat (refine W.seq ?_)
  refine W.skip ?_
  simp only [go_sem]
  repeat (refine W.seq ?_)
  refine W.reg0 ?_
  simp only [go_sem, Nat.reduceEqDiff, reduceIte, Nat.reduceLT, loadA, loadC, rd, ha1, seg, ofCells]
  repeat (refine W.seq ?_)
  refine W.block ?_
  refine W.loop_inv (fun k a hh => ∃ i, k = c.n.length - i ∧ i ≤ c.n.length ∧ a.n = 87 ∧ hh = h1 ∧ a.m.get 2 = some (.pointer (some ⟨h.next, 0, none⟩)) ∧ a.m.get 3 = some (.pointer (some ⟨h.next + 1, 0, none⟩)) ∧ a.m.get 53 = some (.int .i64 (.ofNat c.n.length)) ∧ a.m.get 54 = some (.int .i64 (.ofNat i))) ?_ c.n.length _ _ ?_
  · intro k a hh ⟨i, hk, hi, hn, hhh, g2, g3, g53, g54⟩
    subst hhh
    repeat (refine W.seq ?_)
    refine W.reg0 ?_
    simp only [go_sem, g54, g53, hn, Nat.reduceLT]
    repeat (refine W.seq ?_)
    refine W.cond2 ?_
    simp only [go_sem, reduceIte]
    refine ⟨fun hlt => ?_, fun hge => ?_⟩
    · obtain ⟨rfl, o1, f1, rfl, hr1⟩ := vN.at (u64C_at hlt)
      obtain ⟨rfl, o2, f2, rfl, hr2⟩ := vN'.at (u64C_at hlt)
      have hra : rd hh h.next 4 1 = some [.slice (some ⟨o1, f1, none⟩) c.n.length 1] := rd_get ha1 rfl
      have hrb : rd hh (h.next + 1) 4 1 = some [.slice (some ⟨o2, f2, none⟩) c.n.length 1] := rd_get hb1 rfl
      repeat (refine W.seq ?_)
      refine W.skip ?_
      simp only [go_sem]
      repeat (refine W.seq ?_)
      refine W.block ?_
      repeat (refine W.seq ?_)
      refine W.reg0 ?_
      simp only [go_sem, Nat.reduceEqDiff, g54, reduceIte, Nat.reduceLT]
      repeat (refine W.seq ?_)
      refine W.plan (st := [(0, 0, false), (1, 1, false), (2, 0, false), (3, 7, false), (4, 15, false), (5, 0, false), (6, 32, false), (7, 0, false), (8, 224, false), (9, 480, false), (10, 1023, false)]) (by kernel_rfl) ?_
      simp only [go_sem, goP, stableD, hlt, Nat.reduceEqDiff, g2, reduceIte, Nat.reduceLT, hra, Nat.reduceAdd, stab_cons, all1_cons, cell1, all1_nil, sameL_refl, stab_nil, Bool.or_true, loadA, loadC, ofCells, hr1, g3, hrb, hr2]
      repeat (refine W.seq ?_)
      refine W.cond2 ?_
      simp only [go_sem, Nat.reduceEqDiff, reduceIte]
      refine ⟨fun hc => absurd rfl hc, fun _ => ?_⟩
      repeat (refine W.seq ?_)
      refine W.skip ?_
      simp only [go_sem]
      repeat (refine W.seq ?_)
      refine W.reg0 ?_
      simp only [go_sem, Nat.reduceEqDiff, g54, reduceIte, inc_nat (show i + 1 ≤ 9223372036854775807 by omega), Nat.reduceLT]
      refine ⟨c.n.length - (i + 1), by omega, i + 1, rfl, by omega, ?_⟩
      simp only [go_sem, g2, g3, g53]
    · repeat (refine W.seq ?_)
      refine W.exit ?_
      simp only [go_sem, reduceIte]
      repeat (refine W.seq ?_)
      refine W.reg0 ?_
      simp only [go_sem, Nat.reduceEqDiff, g2, reduceIte, Nat.reduceLT, loadA, loadC, rd, ha1, seg, ofCells]
      repeat (refine W.seq ?_)
      refine W.block ?_
      refine W.loop_inv (fun k a h3 => ∃ i, k = c.st.length - i ∧ i ≤ c.st.length ∧ a.n = 87 ∧ h3 = hh ∧ a.m.get 2 = some (.pointer (some ⟨h.next, 0, none⟩)) ∧ a.m.get 3 = some (.pointer (some ⟨h.next + 1, 0, none⟩)) ∧ a.m.get 71 = some (.int .i64 (.ofNat c.st.length)) ∧ a.m.get 72 = some (.int .i64 (.ofNat i))) ?_ c.st.length _ _ ?_
      · intro k a h3 ⟨i, hk, hi, hn, hhh, g2, g3, g71, g72⟩
        subst hhh
        repeat (refine W.seq ?_)
        refine W.reg0 ?_
        simp only [go_sem, g72, g71, hn, Nat.reduceLT]
        repeat (refine W.seq ?_)
        refine W.cond2 ?_
        simp only [go_sem, reduceIte]
        refine ⟨fun hlt => ?_, fun hge => ?_⟩
        · obtain ⟨rfl, o1, f1, rfl, hr1⟩ := vS.at (u8C_at hlt)
          obtain ⟨rfl, o2, f2, rfl, hr2⟩ := vS'.at (u8C_at hlt)
          have hra : rd h3 h.next 5 1 = some [.slice (some ⟨o1, f1, none⟩) c.st.length 1] := rd_get ha1 rfl
          have hrb : rd h3 (h.next + 1) 5 1 = some [.slice (some ⟨o2, f2, none⟩) c.st.length 1] := rd_get hb1 rfl
          repeat (refine W.seq ?_)
          refine W.skip ?_
          simp only [go_sem]
          repeat (refine W.seq ?_)
          refine W.block ?_
          repeat (refine W.seq ?_)
          refine W.reg0 ?_
          simp only [go_sem, Nat.reduceEqDiff, g72, reduceIte, Nat.reduceLT]
          repeat (refine W.seq ?_)
          refine W.plan (st := [(0, 0, false), (1, 1, false), (2, 0, false), (3, 7, false), (4, 15, false), (5, 0, false), (6, 32, false), (7, 0, false), (8, 224, false), (9, 480, false), (10, 1023, false)]) (by kernel_rfl) ?_
          simp only [go_sem, goP, stableD, hlt, Nat.reduceEqDiff, g2, reduceIte, Nat.reduceLT, hra, Nat.reduceAdd, stab_cons, all1_cons, cell1, all1_nil, sameL_refl, stab_nil, Bool.or_true, loadA, loadC, ofCells, hr1, g3, hrb, hr2]
          repeat (refine W.seq ?_)
          refine W.cond2 ?_
          simp only [go_sem, Nat.reduceEqDiff, reduceIte]
          refine ⟨fun hc => absurd rfl hc, fun _ => ?_⟩
          repeat (refine W.seq ?_)
          refine W.skip ?_
          simp only [go_sem]
          repeat (refine W.seq ?_)
          refine W.reg0 ?_
          simp only [go_sem, Nat.reduceEqDiff, g72, reduceIte, inc_nat (show i + 1 ≤ 9223372036854775807 by omega), Nat.reduceLT]
          refine ⟨c.st.length - (i + 1), by omega, i + 1, rfl, by omega, ?_⟩
          simp only [go_sem, g2, g3, g71]
        · repeat (refine W.seq ?_)
          refine W.exit ?_
          simp only [go_sem, reduceIte]
          repeat (refine W.seq ?_)
          refine W.reg0 ?_
          simp only [go_sem, Nat.reduceLT]
          repeat (refine W.seq ?_)
          refine W.ret ?_
          simp only [go_sem, outW, resultA, resA, Nat.reduceEqDiff, reduceIte]
          exact ⟨trivial, _, rfl, hg1, rfl⟩
      · simp only [go_sem, Nat.reduceEqDiff, reduceIte]
        exact ⟨0, rfl, Nat.zero_le _, (by first | trivial | exact hn), (by first | trivial | rfl), (by first | trivial | exact g2), (by first | trivial | exact g3), (by first | trivial | rfl), (by first | trivial | rfl)⟩
  · simp only [go_sem, Nat.reduceEqDiff, reduceIte]
    exact ⟨0, rfl, Nat.zero_le _, trivial, trivial, (by first | trivial | rfl), (by first | trivial | rfl), (by first | trivial | rfl), (by first | trivial | rfl)⟩

set_option maxHeartbeats 4000000 in
theorem x_same2 (px : PX X) (l : List Cmd) (v v' : Value) (h : H) (hl : l.length ≤ 2000) (hN : ∀ c ∈ l, c.n.length ≤ 900000 ∧ c.st.length ≤ 900000) (hv : CmdsV h v l) (hv' : CmdsV h v' l) :
    ∃ r h', callS (EX X) 10 [v, v', .bool false] h = some (r, h') ∧ (Grows h h' ∧ r = .bool true) := by
  refine call_of px.n10 (gf10 X) rfl (rs := [.tmp 6]) rfl (m := 38) rfl ?_
  obtain ⟨vo, h1, e1, hg1, hof⟩ := x_ofv px l v h hl hv
  obtain ⟨el0, hrow0, _⟩ := hv
  obtain ⟨p0, s0, e⟩ := hrow0.len
  subst e
  obtain ⟨el', hrow', hels'⟩ := hv'.grows hg1
  obtain ⟨el, hrow, hels⟩ := hof
  obtain ⟨po, so, e⟩ := hrow.len
  subst e
  obtain ⟨pv', sv', e⟩ := hrow'.len
  subst e
  repeat (refine W.seq ?_)
  refine W.reg0 ?_
  simp only [go_sem, Nat.reduceAdd, Nat.reduceSub, Nat.reduceLT]
  repeat (refine W.seq ?_)
  refine W.reg0 ?_
  simp only [go_sem, Nat.reduceEqDiff, reduceIte, Nat.reduceLT]
  repeat (refine W.seq ?_)
  refine W.cond2 ?_
  simp only [go_sem, Nat.reduceEqDiff, reduceIte]
  refine ⟨fun hc => absurd rfl hc, fun _ => ?_⟩
  repeat (refine W.seq ?_)
  refine W.skip ?_
  simp only [go_sem]
  repeat (refine W.seq ?_)
  refine W.reg0 ?_
  simp only [go_sem, Nat.reduceEqDiff, reduceIte, Nat.reduceLT, e1]
  repeat (refine W.seq ?_)
  refine W.block ?_
  refine W.loop_inv (fun k a hh => ∃ i, k = l.length - i ∧ i ≤ l.length ∧ a.n = 38 ∧ Grows h1 hh ∧ a.m.get 1 = some (.slice pv' l.length sv') ∧ a.m.get 2 = some (.bool false) ∧ a.m.get 15 = some (.slice po l.length so) ∧ a.m.get 16 = some (.int .i64 (.ofNat l.length)) ∧ a.m.get 17 = some (.int .i64 (.ofNat i))) ?_ l.length _ _ ?_
  · intro k a hh ⟨i, hk, hi, hn, hg, g1, g2, g15, g16, g17⟩
    repeat (refine W.seq ?_)
    refine W.reg0 ?_
    simp only [go_sem, g17, g16, hn, Nat.reduceLT]
    repeat (refine W.seq ?_)
    refine W.cond2 ?_
    simp only [go_sem, reduceIte]
    refine ⟨fun hlt => ?_, fun hge => ?_⟩
    · obtain ⟨rfl, o, off, rfl, hrd⟩ := (hrow.grows hg).at hlt
      obtain ⟨rfl, o', off', rfl, hrd'⟩ := (hrow'.grows hg).at hlt
      have ho' : o' < h1.next := by
        obtain ⟨p3, s3, e3, h3⟩ := hrow'
        simp only [Value.slice.injEq, true_and] at e3
        obtain ⟨rfl, rfl⟩ := e3
        obtain ⟨_, o3, f3, e4, h4, _⟩ := h3 i hlt
        simp only [Option.some.injEq, Addr.mk.injEq, and_true] at e4
        obtain ⟨rfl, rfl⟩ := e4
        exact h4
      obtain ⟨z, vN, vS, hel, hN1, hS1⟩ := hels i hlt
      obtain ⟨z', vN', vS', hel', hN2, hS2⟩ := hels' i hlt
      have hmem := hN l[i] (by simp)
      generalize l[i] = c at hel hel' hN1 hN2 hS1 hS2 hmem
      obtain ⟨p1, s1, e⟩ := hN1.len
      subst e
      obtain ⟨p2, s2, e⟩ := hS1.len
      subst e
      obtain ⟨p1', s1', e⟩ := hN2.len
      subst e
      obtain ⟨p2', s2', e⟩ := hS2.len
      subst e
      rw [hel] at hrd
      rw [hel'] at hrd'
      repeat (refine W.seq ?_)
      refine W.skip ?_
      simp only [go_sem]
      repeat (refine W.seq ?_)
      refine W.block ?_
      repeat (refine W.seq ?_)
      refine W.reg0 ?_
      simp only [go_sem, hlt, Nat.reduceEqDiff, g17, reduceIte, Nat.reduceLT, g15, loadA, loadC, hrd, ofCells, bs_nil, List.all_cons, List.all_nil, effA, Nat.reduceAdd]
      have hg2 : Grows hh ((hh.new (.cells [.int .i64 (Int.ofNat 0), .int .u8 (Int.ofNat 0), .string (bsOf []), .string (bsOf []), .slice none 0 0, .slice none 0 0] 61)).set hh.next (.cells [.int .i64 z, .int .u8 (Int.ofNat c.op), .string (bsOf c.label), .string (bsOf c.on), .slice p1 (u64C c.n).length s1, .slice p2 (u8C c.st).length s2] 61)) := ((Grows.refl hh).new _).set (Nat.le_refl _) _
      have hx2 : ((hh.new (.cells [.int .i64 (Int.ofNat 0), .int .u8 (Int.ofNat 0), .string (bsOf []), .string (bsOf []), .slice none 0 0, .slice none 0 0] 61)).set hh.next (.cells [.int .i64 z, .int .u8 (Int.ofNat c.op), .string (bsOf c.label), .string (bsOf c.on), .slice p1 (u64C c.n).length s1, .slice p2 (u8C c.st).length s2] 61)).get hh.next = some (.cells [.int .i64 z, .int .u8 (Int.ofNat c.op), .string (bsOf c.label), .string (bsOf c.on), .slice p1 (u64C c.n).length s1, .slice p2 (u8C c.st).length s2] 61) := by rw [H.get_set, if_pos rfl]
      generalize (hh.new (.cells [.int .i64 (Int.ofNat 0), .int .u8 (Int.ofNat 0), .string (bsOf []), .string (bsOf []), .slice none 0 0, .slice none 0 0] 61)).set hh.next (.cells [.int .i64 z, .int .u8 (Int.ofNat c.op), .string (bsOf c.label), .string (bsOf c.on), .slice p1 (u64C c.n).length s1, .slice p2 (u8C c.st).length s2] 61) = h2 at hg2 hx2 ⊢
      have hg12 := hg.trans hg2
      have hz' : rd h2 o' (off' + i * 6) 1 = some [.int .i64 z'] := by
        rw [rd_kept hg2 (Nat.lt_of_lt_of_le ho' hg.next)]
        exact rd_part (i := 0) hrd' rfl
      repeat (refine W.seq ?_)
      refine W.reg0 ?_
      simp only [go_sem, Nat.reduceEqDiff, g2, reduceIte, Nat.reduceLT]
      repeat (refine W.seq ?_)
      refine W.cond2 ?_
      simp only [go_sem, Nat.reduceEqDiff, reduceIte]
      refine ⟨fun _ => ?_, fun hc => (by simp at hc)⟩
      repeat (refine W.seq ?_)
      refine W.reg0 ?_
      simp only [go_sem, Nat.reduceEqDiff, g1, reduceIte, Nat.reduceLT, hlt, loadA, loadC, hz', ofCells, effA, hx2]
      have hg3 : Grows hh (h2.set hh.next (.cells [.int .i64 z', .int .u8 (Int.ofNat c.op), .string (bsOf c.label), .string (bsOf c.on), .slice p1 (u64C c.n).length s1, .slice p2 (u8C c.st).length s2] 61)) := hg2.set (Nat.le_refl _) _
      have hx3 : rd (h2.set hh.next (.cells [.int .i64 z', .int .u8 (Int.ofNat c.op), .string (bsOf c.label), .string (bsOf c.on), .slice p1 (u64C c.n).length s1, .slice p2 (u8C c.st).length s2] 61)) hh.next 0 6 = some [.int .i64 z', .int .u8 (Int.ofNat c.op), .string (bsOf c.label), .string (bsOf c.on), .slice p1 (u64C c.n).length s1, .slice p2 (u8C c.st).length s2] := rd_get (by rw [H.get_set, if_pos rfl]) rfl
      generalize h2.set hh.next (.cells [.int .i64 z', .int .u8 (Int.ofNat c.op), .string (bsOf c.label), .string (bsOf c.on), .slice p1 (u64C c.n).length s1, .slice p2 (u8C c.st).length s2] 61) = h3 at hg3 hx3 ⊢
      have hg13 := hg.trans hg3
      have hrd2 : rd h3 o' (off' + i * 6) 6 = some [.int .i64 z', .int .u8 (Int.ofNat c.op), .string (bsOf c.label), .string (bsOf c.on), .slice p1' (u64C c.n).length s1', .slice p2' (u8C c.st).length s2'] := by
        rw [rd_kept hg3 (Nat.lt_of_lt_of_le ho' hg.next)]; exact hrd'
      obtain ⟨rv, h4, e4, hg4, rfl⟩ := x_same1r px c z' p1 p1' p2 p2' s1 s1' s2 s2' h3 (hN1.grows hg13) (hN2.grows hg13) (hS1.grows hg13) (hS2.grows hg13) hmem.1 hmem.2
      repeat (refine W.seq ?_)
      refine W.plan (st := [(0, 0, false), (1, 0, false), (2, 0, false), (3, 6, false), (4, 14, false), (5, 31, true), (6, 63, false)]) (by kernel_rfl) ?_
      simp only [go_sem, goP, stableD, Nat.reduceEqDiff, reduceIte, hx3, Nat.reduceAdd, stab_cons, List.all_cons, cell1, List.all_nil, sameL_refl, stab_nil, Bool.or_true, loadA, loadC, ofCells, Nat.reduceLT, g1, hlt, hrd2, e4]
      repeat (refine W.seq ?_)
      refine W.cond2 ?_
      simp only [go_sem, Nat.reduceEqDiff, reduceIte]
      refine ⟨fun hc => (by simp at hc), fun _ => ?_⟩
      repeat (refine W.seq ?_)
      refine W.skip ?_
      simp only [go_sem]
      repeat (refine W.seq ?_)
      refine W.reg0 ?_
      simp only [go_sem, Nat.reduceEqDiff, g17, reduceIte, inc_nat (show i + 1 ≤ 9223372036854775807 by omega), Nat.reduceLT]
      refine ⟨l.length - (i + 1), by omega, i + 1, rfl, by omega, ?_⟩
      simp only [go_sem, g1, g2, g15, g16]
      exact ⟨trivial, hg13.trans hg4, trivial⟩
    · repeat (refine W.seq ?_)
      refine W.exit ?_
      simp only [go_sem, reduceIte]
      repeat (refine W.seq ?_)
      refine W.reg0 ?_
      simp only [go_sem, Nat.reduceLT]
      repeat (refine W.seq ?_)
      refine W.ret ?_
      simp only [go_sem, outW, resultA, resA, Nat.reduceEqDiff, reduceIte]
      exact ⟨trivial, _, rfl, hg1.trans hg, rfl⟩
  · simp only [go_sem, Nat.reduceEqDiff, reduceIte]
    exact ⟨0, rfl, Nat.zero_le _, trivial, Grows.refl _, (by first | trivial | rfl), (by first | trivial | rfl), (by first | trivial | rfl), (by first | trivial | rfl), (by first | trivial | rfl)⟩
end Go.Proofs.YtkoccbggjfbgaaaGreatDoor
end

section
open Go.Eng
set_option maxRecDepth 100000
set_option linter.unusedSimpArgs false
set_option linter.unusedVariables false
namespace Go.Proofs.YtkoccbggjfbgaaaGreatDoor
variable {X : Tr Nat}

theorem gf6 (X : Tr Nat) : (EX X).F.get 6 = some Tryz.f6 := by kernel_rfl

theorem CmdAt.cmdV {b : Nat} {h : H} {cs : List Value} {c : Cmd} (a : CmdAt b h cs c) : CmdV h cs c := by
  obtain ⟨vN, vS, e, h1, h2⟩ := a
  exact ⟨_, vN, vS, e, NewRow.view h1, NewRow.view h2⟩
theorem CmdsAt.cmdsV {b : Nat} {h : H} {v : Value} {l : List Cmd} (a : CmdsAt b h v l) : CmdsV h v l := by
  obtain ⟨cs, hr, hc⟩ := a
  obtain ⟨hlen, hat⟩ := hc.at
  refine ⟨fun i => (seg cs (i * 6) 6).getD [], rrow_new hr fun j hj => ?_, fun i hi => ?_⟩
  · obtain ⟨c1, h1, _⟩ := hat j hj
    rw [h1]; rfl
  · obtain ⟨c1, h1, h2, _⟩ := hat i hi
    show CmdV h ((seg cs (i * 6) 6).getD []) l[i]
    rw [h1]; exact h2.cmdV
theorem relab_length : ∀ (l : List Cmd) (i : Nat), (relab i l).length = l.length
  | [], _ => rfl
  | c :: l, i => by simp [relab, relab_length l]
theorem relab_get : ∀ (l : List Cmd) (i k : Nat) (h : k < (relab i l).length) (h' : k < l.length), (relab i l)[k] = { l[k] with line := i + k }
  | c :: l, i, 0, _, _ => rfl
  | c :: l, i, k + 1, h, h' => by
    have := relab_get l (i + 1) k (by simpa [relab] using h) (by simpa using h')
    simp only [relab, List.getElem_cons_succ, this]
    congr 1; omega
theorem CmdsV.relab {h : H} {v : Value} {l : List Cmd} {i : Nat} (a : CmdsV h v (relab i l)) : CmdsV h v l := by
  obtain ⟨el, h1, h2⟩ := a
  rw [relab_length] at h1
  refine ⟨el, h1, fun k hk => ?_⟩
  have := h2 k (by rw [relab_length]; exact hk)
  rw [relab_get l i k (by rw [relab_length]; exact hk) hk] at this
  exact this

set_option maxHeartbeats 16000000 in
theorem x_law6 (px : PX X) (pp : PP X) (n6 : X.get 6 = none) (h7 : X.get 7 = some 10) (cores tasks : Int) (tick slice origin : Nat) (l : List Cmd) (v : Value) (t : List UInt8) (h : H) (hT : tick ≤ 18446744073709551615 ∧ slice ≤ 18446744073709551615 ∧ origin ≤ 18446744073709551615)
    (hR : ∀ c ∈ l, c.op < 256 ∧ (∀ x ∈ c.n, x ≤ 18446744073709551615) ∧ (∀ x ∈ c.st, x < 256)) (ht : HT h) (hok : HOk h) (hv : CmdsV h v l) :
    ∃ r h', callS (EX X) 6 [.agg #[.int .i64 cores, .int .i64 tasks, .int .u64 (Int.ofNat tick), .int .u64 (Int.ofNat slice), .int .u64 (Int.ofNat origin)], v, .string (bsOf t)] h = some (r, h') ∧ (Grows h h' ∧ r = .bool true) := by
  refine call_of n6 (gf6 X) rfl (rs := [.tmp 6]) rfl (m := 106) rfl ?_
  have hsz : (bsOf t).size = t.length := bsOf_size t
  have hvs := hv
  obtain ⟨el, hrow, hels⟩ := hv
  obtain ⟨p, s, e⟩ := hrow.len
  subst e
  repeat (refine W.seq ?_)
  refine W.reg0 ?_
  simp only [go_sem, Nat.reduceAdd, Nat.reduceSub, Nat.reduceEqDiff, reduceIte, Nat.reduceLT]
  have hg1 : Grows h (h.new (.cells [.int .i64 cores, .int .i64 tasks, .int .u64 (Int.ofNat tick), .int .u64 (Int.ofNat slice), .int .u64 (Int.ofNat origin)] 25)) := (Grows.refl h).new _
  have ha1 : (h.new (.cells [.int .i64 cores, .int .i64 tasks, .int .u64 (Int.ofNat tick), .int .u64 (Int.ofNat slice), .int .u64 (Int.ofNat origin)] 25)).get h.next = some (.cells [.int .i64 cores, .int .i64 tasks, .int .u64 (Int.ofNat tick), .int .u64 (Int.ofNat slice), .int .u64 (Int.ofNat origin)] 25) := H.get_new' _ _
  have hn1 : (h.new (.cells [.int .i64 cores, .int .i64 tasks, .int .u64 (Int.ofNat tick), .int .u64 (Int.ofNat slice), .int .u64 (Int.ofNat origin)] 25)).next = h.next + 1 := rfl
  generalize h.new (.cells [.int .i64 cores, .int .i64 tasks, .int .u64 (Int.ofNat tick), .int .u64 (Int.ofNat slice), .int .u64 (Int.ofNat origin)] 25) = h1 at hg1 ha1 hn1 ⊢
  have haw : callS (EX X) 7 [] h1 = some (.bool true, h1) := (call_hook h7).trans rfl
  have rc : ∀ {hh : H}, Grows h1 hh → rd hh h.next 0 5 = some [.int .i64 cores, .int .i64 tasks, .int .u64 (Int.ofNat tick), .int .u64 (Int.ofNat slice), .int .u64 (Int.ofNat origin)] := fun {hh} g => by
    rw [rd_kept g (by omega)]
    exact rd_get ha1 rfl
  repeat (refine W.seq ?_)
  refine W.reg0 ?_
  simp only [go_sem, haw, Nat.reduceLT, Nat.reduceEqDiff, reduceIte]
  repeat (refine W.seq ?_)
  refine W.cond2 ?_
  simp only [go_sem, Nat.reduceEqDiff, reduceIte]
  refine ⟨fun hc => (by simp at hc), fun _ => ?_⟩
  repeat (refine W.seq ?_)
  refine W.skip ?_
  simp only [go_sem]
  obtain ⟨_, h2, e2, hg2, lb, rfl, hlb⟩ := x_light px pp l _ h1 (hvs.grows hg1)
  cases lb with
  | false =>
    repeat (refine W.seq ?_)
    refine W.reg0 ?_
    simp only [go_sem, Bool.not_true, Nat.reduceEqDiff, reduceIte, Nat.reduceLT, e2, Bool.not_false]
    repeat (refine W.seq ?_)
    refine W.cond2 ?_
    simp only [go_sem, Nat.reduceEqDiff, reduceIte]
    refine ⟨fun _ => ?_, fun hc => (by simp at hc)⟩
    repeat (refine W.seq ?_)
    refine W.reg0 ?_
    simp only [go_sem, Nat.reduceLT]
    repeat (refine W.seq ?_)
    refine W.ret ?_
    simp only [go_sem, outW, resultA, resA, Nat.reduceEqDiff, reduceIte]
    exact ⟨trivial, _, rfl, hg1.trans hg2, rfl⟩
  | true =>
  obtain ⟨hlen, hlight⟩ := hlb rfl
  have hB : ∀ c ∈ l, CmdB c := fun c hc => by
    obtain ⟨r1, r2, r3⟩ := hR c hc
    obtain ⟨q1, q2, q3, q4⟩ := hlight c hc
    exact ⟨r1, by omega, by omega, by omega, by omega, r2, r3⟩
  by_cases b1 : 60 < l.length
  · repeat (refine W.seq ?_)
    refine W.reg0 ?_
    simp only [go_sem, Bool.not_true, Nat.reduceEqDiff, reduceIte, Nat.reduceLT, e2, b1]
    repeat (refine W.seq ?_)
    refine W.cond2 ?_
    simp only [go_sem, Nat.reduceEqDiff, reduceIte]
    refine ⟨fun _ => ?_, fun hc => (by simp at hc)⟩
    repeat (refine W.seq ?_)
    refine W.reg0 ?_
    simp only [go_sem, Nat.reduceLT]
    repeat (refine W.seq ?_)
    refine W.ret ?_
    simp only [go_sem, outW, resultA, resA, Nat.reduceEqDiff, reduceIte]
    exact ⟨trivial, _, rfl, hg1.trans hg2, rfl⟩
  by_cases b2 : 8000 < t.length
  · repeat (refine W.seq ?_)
    refine W.reg0 ?_
    simp only [go_sem, Bool.not_true, Nat.reduceEqDiff, reduceIte, Nat.reduceLT, e2, b1, hsz, b2]
    repeat (refine W.seq ?_)
    refine W.cond2 ?_
    simp only [go_sem, Nat.reduceEqDiff, reduceIte]
    refine ⟨fun _ => ?_, fun hc => (by simp at hc)⟩
    repeat (refine W.seq ?_)
    refine W.reg0 ?_
    simp only [go_sem, Nat.reduceLT]
    repeat (refine W.seq ?_)
    refine W.ret ?_
    simp only [go_sem, outW, resultA, resA, Nat.reduceEqDiff, reduceIte]
    exact ⟨trivial, _, rfl, hg1.trans hg2, rfl⟩
  repeat (refine W.seq ?_)
  refine W.reg0 ?_
  simp only [go_sem, Bool.not_true, Nat.reduceEqDiff, reduceIte, Nat.reduceLT, e2, b1, hsz, b2]
  repeat (refine W.seq ?_)
  refine W.cond2 ?_
  simp only [go_sem, Nat.reduceEqDiff, reduceIte]
  refine ⟨fun hc => (by simp at hc), fun _ => ?_⟩
  repeat (refine W.seq ?_)
  refine W.skip ?_
  simp only [go_sem]
  have hg02 := hg1.trans hg2
  obtain ⟨_, h3, e3, hg3, rfl⟩ := x_print px pp cores tasks tick slice origin l _ h2 hT hB (ht.g hg02) (hvs.grows hg02)
  have r2 := rc hg2
  repeat (refine W.seq ?_)
  refine W.reg0 ?_
  simp only [go_sem, Nat.reduceEqDiff, reduceIte, loadA, loadC, r2, ofCells, Nat.reduceLT, e3]
  have hg13 := hg2.trans hg3
  have hnl : ∀ c ∈ l, ∀ x ∈ c.n, x ≤ 18446744073709551615 := fun c hc => (hR c hc).2.1
  have hpp := print_parse (cores := cores) (tasks := tasks) (l := l) hT hnl
  generalize printS cores tasks tick slice origin l = P at hpp ⊢
  repeat (refine W.seq ?_)
  refine W.reg0 ?_
  simp only [go_sem, Nat.reduceEqDiff, reduceIte, Nat.reduceLT]
  repeat (refine W.seq ?_)
  refine W.cond2 ?_
  simp only [go_sem, Nat.reduceEqDiff, reduceIte]
  refine ⟨fun hp => ?a, fun hp => ?b⟩
  case' a =>
    have hp : P.2 = 0 := by simpa using hp
    obtain ⟨hps, hpl, hc0, ht0, hl1000⟩ := hpp hp
    obtain ⟨cn, rfl⟩ : ∃ n : Nat, cores = Int.ofNat n := ⟨cores.toNat, by show cores = ((cores.toNat : Nat) : Int); omega⟩
    obtain ⟨tn, rfl⟩ : ∃ n : Nat, tasks = Int.ofNat n := ⟨tasks.toNat, by show tasks = ((tasks.toNat : Nat) : Int); omega⟩
    have hps : parseS P.1 = ⟨⟨cn, tn, tick, slice, origin⟩, relab 2 l, 0, 0⟩ := hps
    obtain ⟨r4, h4, e4, hg4, v4, rfl, hc4⟩ := x_parseText px P.1 (by omega) h3 (hok.g (hg1.trans hg13))
    rw [hps] at e4 hc4
    dsimp only at e4 hc4
    have hv4 := (CmdsAt.cmdsV hc4).relab
    have hK : Grows h4 ((h4.new (.cells Cfg.zero.cells 25)).set h4.next (.cells (Cfg.mk cn tn tick slice origin).cells 25)) := ((Grows.refl h4).new _).set (Nat.le_refl _) _
    have hx5 : ((h4.new (.cells Cfg.zero.cells 25)).set h4.next (.cells (Cfg.mk cn tn tick slice origin).cells 25)).get h4.next = some (.cells (Cfg.mk cn tn tick slice origin).cells 25) := by rw [H.get_set, if_pos rfl]
    have hn5 : ((h4.new (.cells Cfg.zero.cells 25)).set h4.next (.cells (Cfg.mk cn tn tick slice origin).cells 25)).next = h4.next + 1 := rfl
    simp only [Cfg.cells, Cfg.zero] at hK hx5 hn5
    repeat (refine W.seq ?_)
    refine W.reg0 ?_
    simp only [go_sem, Nat.reduceEqDiff, reduceIte, Nat.reduceLT, e4, Cfg.val, Cfg.cells, List.all_cons, List.all_nil, effA, Nat.reduceAdd]
    generalize (h4.new (.cells [Value.int .i64 (Int.ofNat 0), .int .i64 (Int.ofNat 0), .int .u64 (Int.ofNat 0), .int .u64 (Int.ofNat 0), .int .u64 (Int.ofNat 0)] 25)).set h4.next (.cells [Value.int .i64 (Int.ofNat cn), .int .i64 (Int.ofNat tn), .int .u64 (Int.ofNat tick), .int .u64 (Int.ofNat slice), .int .u64 (Int.ofNat origin)] 25) = h5 at hK hx5 hn5 ⊢
    have hg35 := hg4.trans hK
    have hg15 := hg13.trans hg35
    obtain ⟨v6, h6, e6, hg6, hv6⟩ := x_ofv px l _ h5 (by omega) (hvs.grows (hg1.trans hg15))
    obtain ⟨r7, h7', e7, hg7, rfl⟩ := x_same2 px l v4 v6 h6 (by omega) (fun c hc => by have := hB c hc; have h1 := this.nl; have h2 := this.stl; omega) (hv4.grows (hK.trans hg6)) hv6
    have r5 := rc hg15
    have r5' : rd h5 h4.next 0 5 = _ := rd_get hx5 rfl
    have hq := aeq_cfg2 (X := X) ⟨cn, tn, tick, slice, origin⟩
    dsimp only at hq
    repeat (refine W.seq ?_)
    refine W.reg0 ?_
    simp only [go_sem, Nat.reduceEqDiff, reduceIte, Nat.reduceLT, ne_eq, not_true_eq_false, loadA, loadC, r5', ofCells, r5, hq, e6, e7, Bool.not_true]
    repeat (refine W.seq ?_)
    refine W.cond2 ?_
    simp only [go_sem, Nat.reduceEqDiff, reduceIte]
    refine ⟨fun hc => (by simp at hc), fun _ => ?_⟩
    repeat (refine W.seq ?_)
    refine W.skip ?_
    simp only [go_sem]
    have hgF : Grows h1 h7' := (hg15.trans hg6).trans hg7
    generalize hQ : h7' = hh at hgF ⊢
  case' b =>
    repeat (refine W.seq ?_)
    refine W.skip ?_
    simp only [go_sem]
    have hgF : Grows h1 h3 := hg13
    generalize hQ : h3 = hh at hgF ⊢
  all_goals
    have hg0 := hg1.trans hgF
    obtain ⟨r8, h8, e8, hg8, v8, rfl, hc8⟩ := x_parseText px t (by omega) hh (hok.g hg0)
    have hpb := parse_print t (by omega)
    generalize parseS t = R at e8 hc8 hpb ⊢
    have hv8 := CmdsAt.cmdsV hc8
    have hK9 : Grows h8 ((h8.new (.cells Cfg.zero.cells 25)).set h8.next (.cells R.cfg.cells 25)) := ((Grows.refl h8).new _).set (Nat.le_refl _) _
    have hx9 : ((h8.new (.cells Cfg.zero.cells 25)).set h8.next (.cells R.cfg.cells 25)).get h8.next = some (.cells R.cfg.cells 25) := by rw [H.get_set, if_pos rfl]
    have hn9 : ((h8.new (.cells Cfg.zero.cells 25)).set h8.next (.cells R.cfg.cells 25)).next = h8.next + 1 := rfl
    simp only [Cfg.cells, Cfg.zero] at hK9 hx9 hn9
    repeat (refine W.seq ?_)
    refine W.reg0 ?_
    simp only [go_sem, Nat.reduceEqDiff, reduceIte, Nat.reduceLT, e8, Cfg.val, Cfg.cells, List.all_cons, List.all_nil, effA, Nat.reduceAdd]
    generalize (h8.new (.cells [Value.int .i64 (Int.ofNat 0), .int .i64 (Int.ofNat 0), .int .u64 (Int.ofNat 0), .int .u64 (Int.ofNat 0), .int .u64 (Int.ofNat 0)] 25)).set h8.next (.cells [Value.int .i64 (Int.ofNat R.cfg.cores), .int .i64 (Int.ofNat R.cfg.tasks), .int .u64 (Int.ofNat R.cfg.tick), .int .u64 (Int.ofNat R.cfg.slice), .int .u64 (Int.ofNat R.cfg.origin)] 25) = h9 at hK9 hx9 hn9 ⊢
    have hg89 := hg8.trans hK9
    have hg09 := hg0.trans hg89
    repeat (refine W.seq ?_)
    refine W.reg0 ?_
    simp only [go_sem, Nat.reduceEqDiff, reduceIte, Nat.reduceLT]
    repeat (refine W.seq ?_)
    refine W.cond2 ?_
    simp only [go_sem, Nat.reduceEqDiff, reduceIte]
    refine ⟨fun he => ?_, fun he => ?_⟩
    · repeat (refine W.seq ?_)
      refine W.reg0 ?_
      simp only [go_sem, Nat.reduceLT]
      repeat (refine W.seq ?_)
      refine W.ret ?_
      simp only [go_sem, outW, resultA, resA, Nat.reduceEqDiff, reduceIte]
      exact ⟨trivial, _, rfl, hg09, rfl⟩
    have he : R.err = 0 := by simpa using he
    obtain ⟨cfg, new, hR8, hCfg, hnn, hnl8, hnlen, hlt8, hpr⟩ := hpb he
    subst hR8
    obtain ⟨cb1, cb2, cb3, cb4, cb5⟩ := hCfg
    have hB8 : ∀ c ∈ new, CmdB c := fun c hc => cmdB_of (List.all_eq_true.1 hnl8 c hc) (hlt8 c hc) (hnn c hc)
    repeat (refine W.seq ?_)
    refine W.skip ?_
    simp only [go_sem]
    have hv9 := hv8.grows hK9
    obtain ⟨_, h10, e10, hg10, rfl⟩ := x_print px pp (Int.ofNat cfg.cores) (Int.ofNat cfg.tasks) cfg.tick cfg.slice cfg.origin new _ h9 ⟨cb3, cb4, cb5⟩ hB8 (ht.g hg09) hv9
    have hpp8 := print_parse (cores := Int.ofNat cfg.cores) (tasks := Int.ofNat cfg.tasks) (l := new) ⟨cb3, cb4, cb5⟩ hnn hpr
    generalize printS (Int.ofNat cfg.cores) (Int.ofNat cfg.tasks) cfg.tick cfg.slice cfg.origin new = P8 at e10 hpr hpp8 ⊢
    have r9 : rd h9 h8.next 0 5 = _ := rd_get hx9 rfl
    repeat (refine W.seq ?_)
    refine W.reg0 ?_
    simp only [go_sem, Nat.reduceEqDiff, reduceIte, loadA, loadC, r9, ofCells, Nat.reduceLT, e10]
    obtain ⟨hps8, hpl8, _, _, _⟩ := hpp8
    have hps8 : parseS P8.1 = ⟨⟨cfg.cores, cfg.tasks, cfg.tick, cfg.slice, cfg.origin⟩, relab 2 new, 0, 0⟩ := hps8
    have hg010 := hg09.trans hg10
    obtain ⟨r11, h11, e11, hg11, v11, rfl, hc11⟩ := x_parseText px P8.1 (by omega) h10 (hok.g hg010)
    rw [hps8] at e11 hc11
    dsimp only at e11 hc11
    have hv11 := (CmdsAt.cmdsV hc11).relab
    have hK12 : Grows h11 ((h11.new (.cells Cfg.zero.cells 25)).set h11.next (.cells cfg.cells 25)) := ((Grows.refl h11).new _).set (Nat.le_refl _) _
    have hx12 : ((h11.new (.cells Cfg.zero.cells 25)).set h11.next (.cells cfg.cells 25)).get h11.next = some (.cells cfg.cells 25) := by rw [H.get_set, if_pos rfl]
    simp only [Cfg.cells, Cfg.zero] at hK12 hx12
    repeat (refine W.seq ?_)
    refine W.reg0 ?_
    simp only [go_sem, Nat.reduceEqDiff, reduceIte, Nat.reduceLT, e11, Cfg.val, Cfg.cells, List.all_cons, List.all_nil, effA, Nat.reduceAdd]
    generalize (h11.new (.cells [Value.int .i64 (Int.ofNat 0), .int .i64 (Int.ofNat 0), .int .u64 (Int.ofNat 0), .int .u64 (Int.ofNat 0), .int .u64 (Int.ofNat 0)] 25)).set h11.next (.cells [Value.int .i64 (Int.ofNat cfg.cores), .int .i64 (Int.ofNat cfg.tasks), .int .u64 (Int.ofNat cfg.tick), .int .u64 (Int.ofNat cfg.slice), .int .u64 (Int.ofNat cfg.origin)] 25) = h12 at hK12 hx12 ⊢
    have hg912 := (hg10.trans hg11).trans hK12
    have r12 : rd h12 h11.next 0 5 = _ := rd_get hx12 rfl
    have r12' : rd h12 h8.next 0 5 = _ := (rd_kept hg912 (by omega)).trans r9
    obtain ⟨v13, h13, e13, hg13', hv13⟩ := x_ofv px new _ h12 (by omega) (hv9.grows hg912)
    obtain ⟨r14, h14, e14, hg14, rfl⟩ := x_same2 px new v11 v13 h13 (by omega) (fun c hc => by have := hB8 c hc; have h1 := this.nl; have h2 := this.stl; omega) (hv11.grows (hK12.trans hg13')) hv13
    repeat (refine W.seq ?_)
    refine W.reg0 ?_
    simp only [go_sem, hpr, Nat.reduceEqDiff, reduceIte, Nat.reduceLT, loadA, loadC, r12, ofCells, r12', aeq_cfg2, e13, e14]
    repeat (refine W.seq ?_)
    refine W.ret ?_
    simp only [go_sem, outW, resultA, resA, Nat.reduceEqDiff, reduceIte]
    exact ⟨trivial, _, rfl, ((hg09.trans hg912).trans hg13').trans hg14, rfl⟩
end Go.Proofs.YtkoccbggjfbgaaaGreatDoor
end

section
open Go.Eng Go.RowKit
set_option maxRecDepth 100000
namespace Go.Proofs.YtkoccbggjfbgaaaGreatDoor

def sk9 : Nat → Bool := fun b => Nat.beq b 9
theorem back_law {K : Type} {enc : TypeId × Value → K} {W : World} (hlaid : laidMetH Tryz.prog Rows.scriptParsesRow.laid W) {cores tasks : Int} {tick slice origin : Nat} (hT : tick ≤ 18446744073709551615 ∧ slice ≤ 18446744073709551615 ∧ origin ≤ 18446744073709551615) (t : ByteArray)
    {f base : Nat} {held : Bool} {v : Value} {x : DataW K × List MemPlace} (hd : DataW.trod enc Tryz.prog W base (fun _ => true) held f 26 [v] = some x) :
    Calls Tryz.prog 6 #[.agg #[.int .i64 cores, .int .i64 tasks, .int .u64 (Int.ofNat tick), .int .u64 (Int.ofNat slice), .int .u64 (Int.ofNat origin)], v, .string t] W fun e w' => e = .returned (.bool true) ∧ Below W.heap.size W w' := by
  have ht := tabAt hlaid
  obtain ⟨ty, fz, p, hc⟩ := errRange hlaid
  have S : Seen (H.empty.new (.fixed 9 ty fz [.iface 328 p])) (Pl.add (fun _ => none) 0 ⟨9, 0, 1⟩) W sk9 fx3 := ⟨rel_fixed hc, Nat.le_succ 1, fun b x v hv hb => by
    have hb : b = 9 := Nat.eq_of_beq_eq_true hb
    subst hb
    unfold World.cell? at hv
    rw [hc] at hv
    cases x with
    | zero => have hv : some (Value.iface 328 p) = some v := hv; exact ⟨_, _, (Option.some.inj hv).symm⟩
    | succ x => simp at hv, fx_ints ht⟩
  obtain ⟨v', av, l, e, hvr, hcv, hR⟩ := open_cmds S hd
  simp only [List.cons.injEq, and_true] at e
  subst e
  have hok : HOk (fomH (H.empty.new (.fixed 9 ty fz [.iface 328 p])) W sk9 fx3) := by
    refine ⟨?_, ty, fz, 328, p, [], ?_⟩
    · show 0 < 2 + W.heap.size
      omega
    · rw [fomH_get S.rel S.next, if_pos (by omega)]; exact H.get_new' _ _
  exact law_of (args := [.agg #[.int .i64 cores, .int .i64 tasks, .int .u64 (Int.ofNat tick), .int .u64 (Int.ofNat slice), .int .u64 (Int.ofNat origin)], av, .string t]) (cs := [.agg #[.int .i64 cores, .int .i64 tasks, .int .u64 (Int.ofNat tick), .int .u64 (Int.ofNat slice), .int .u64 (Int.ofNat origin)], v, .string t]) envQ (f := 6) (by kernel_rfl)
    (fom_rel S.rel S.next (fun o x p h hp => by
      unfold Pl.add at hp
      split at hp
      · simp only [Option.some.injEq] at hp; subst hp; rfl
      · simp at hp)) (fom_fixed S.rel S.next (AllFixed.empty.new _ _ _ _))
    (x_law6 pxQ ppQ (by kernel_rfl) (by kernel_rfl) cores tasks tick slice origin l av t.data.toList _ hT hR (ht_fom S rfl ht) hok hcv)
    (.cons (.agg (.cons (.int _ _) (.cons (.int _ _) (.cons (.int _ _) (.cons (.int _ _) (.cons (.int _ _) .nil)))))) (.cons hvr (.cons (.str _) .nil)))
end Go.Proofs.YtkoccbggjfbgaaaGreatDoor
end
