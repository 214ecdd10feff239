/-
  The machine at the script seat: closed facts on two types more. The words of a walk. The script seat: the document's Lines and Words, and the program's words, as plain lists. The script seat: the program's words, number, numbers. The script seat: the program's numbers, forms, fits, states. The script seat: the program's system. The script seat: the program's forms, states, and where a word stands among them. The script seat: the form of a word, whether so many words fit.
-/
import Derived.Test.YtkoccbggjfbgaaaGreatDoorK08
import Derived.Test.YtkoccbggjfbgaaaGreatDoorK09
set_option linter.all false

section
open Go.Eng
set_option maxRecDepth 100000
namespace Go.Proofs.YtkoccbggjfbgaaaGreatDoor
theorem und2 (X : Tr Nat) : (EX X).und 2 = some (.int .i64) := by kernel_rfl
theorem size2 (X : Tr Nat) : (EX X).size 2 = some 1 := by kernel_rfl
theorem zero2 (X : Tr Nat) : (EX X).zero 2 = some (.int .i64 0) := by kernel_rfl
theorem agg2 (X : Tr Nat) : (EX X).agg 2 = some false := by kernel_rfl
theorem und133 (X : Tr Nat) : (EX X).und 133 = some (.slice 3) := by kernel_rfl
theorem size133 (X : Tr Nat) : (EX X).size 133 = some 1 := by kernel_rfl
theorem zero133 (X : Tr Nat) : (EX X).zero 133 = some (.slice none 0 0) := by kernel_rfl
theorem agg133 (X : Tr Nat) : (EX X).agg 133 = some false := by kernel_rfl
theorem sl133 (X : Tr Nat) : sliceT (EX X) 133 3 1 8 = true := by kernel_rfl
theorem sub8 {i j : Nat} (h : j ≤ i) (hi : i < 256) : IntKind.wrap .u8 (Int.ofNat i - Int.ofNat j) = Int.ofNat (i - j) := by
  have : (Int.ofNat i - Int.ofNat j) = Int.ofNat (i - j) := by
    show (i : Int) - (j : Int) = ((i - j : Nat) : Int)
    omega
  rw [this]; exact wrap8 (by omega)
end Go.Proofs.YtkoccbggjfbgaaaGreatDoor
end

section
open Go.Eng
namespace Go.Proofs.YtkoccbggjfbgaaaGreatDoor
attribute [go_sem] opsA oneA wantedA opnds evs ev opA cls pureA abin2 abin putT plain newA mk bounds2 bound litO isEq List.map_cons List.map_nil List.zip_cons_cons List.zip_nil_left Tr.get_set Tr.get_nil H.get_new H.next_new ite_self Nat.succ_eq_add_one blt_iff ble_iff beq_iff decide_true decide_false regW_some thenW_normal thenW_exit thenW_ret cutQ_normal cutQ_exit cutQ_ret inv_normal inv_exit inv_ret outB_normal outB_exit outB_ret condW_bool pos1 not0 succ0 wr cellv H.get_set H.next_set H.get_del H.next_del allc_nil allc_cons Bool.and_self and_self placeS List.take_zero List.drop_zero List.toList_toArray List.size_toArray min_nat litI castI goInt_nat dlt dle dgt dge deq dne decide_eq_true_eq decide_eq_false_iff_not fillA repl splice List.append_eq cellsL_str cellsL_int cellsL_bool cellsL_slice cellsL_ptr cellsL_agg cellsN_str cellsN_int cellsN_bool cellsN_slice cellsN_ptr cellsN_agg Nat.mul_one Nat.add_zero Nat.add_sub_cancel Nat.zero_mul Nat.zero_add str_eql str_neq bsOf_list List.getElem?_cons_succ List.getElem?_cons_zero beqTT beqTF beqFT beqFF bneTT bneTF bneFT bneFF undef Option.isSome_none Option.isSome_some List.length_cons List.length_nil enterT Option.toList_some Option.toList_none List.append_nil List.nil_append List.cons_append List.singleton_append Bool.true_and Bool.and_true Bool.or_false Bool.false_or btX und3 size3 zero3 agg3 und4 size4 zero4 agg4 und5 size5 zero5 agg5 und9 size9 zero9 agg9 und12 size12 zero12 agg12 und21 size21 zero21 agg21 und23 size23 zero23 agg23 und24 size24 zero24 agg24 und25 size25 zero25 agg25 und26 size26 zero26 agg26 und27 size27 zero27 agg27 und30 size30 zero30 agg30 und31 size31 zero31 agg31 und47 size47 zero47 agg47 und48 size48 zero48 agg48 und49 size49 zero49 agg49 und50 size50 zero50 agg50 und52 size52 zero52 agg52 und61 size61 zero61 agg61 und66 size66 zero66 agg66 und94 size94 zero94 agg94 und95 size95 zero95 agg95 und96 size96 zero96 agg96 und108 size108 zero108 agg108 und75 size75 zero75 agg75 und135 size135 zero135 agg135 und2 size2 zero2 agg2 und133 size133 zero133 agg133
end Go.Proofs.YtkoccbggjfbgaaaGreatDoor
end

section
open Go.Eng
set_option maxRecDepth 100000
set_option linter.unusedSimpArgs false
set_option linter.unusedVariables false
namespace Go.Proofs.YtkoccbggjfbgaaaGreatDoor
variable {X : Tr Nat}

theorem x_lines (px : PX X) (s : ByteArray) (hs : s.size ≤ 900000) (h : H) : ∃ v h', callS (EX X) 23 [.string s] h = some (v, h') ∧ Grows h h' ∧ NewStrs 9 h.next h' v (piecesL 10 s.data.toList) := by
  refine call_of px.n23 (gf23 X) rfl (rs := [.tmp 2]) rfl (m := 31) rfl ?_
  repeat (refine W.seq ?_)
  refine W.reg0 ?_
  simp only [go_sem, Nat.reduceSub, Nat.reduceAdd, Nat.reduceLT]
  repeat (refine W.seq ?_)
  refine W.reg0 ?_
  simp only [go_sem, Nat.reduceLT]
  repeat (refine W.seq ?_)
  refine W.reg0 ?_
  simp only [go_sem, Nat.reduceLT]
  repeat (refine W.seq ?_)
  refine W.reg0 ?_
  simp only [go_sem, Nat.reduceLT]
  repeat (refine W.seq ?_)
  refine W.block ?_
  refine W.loop_inv (fun k a h' => ∃ i done cur v3, k = s.size - i ∧ i ≤ s.size ∧ a.n = 31 ∧ a.m.get 0 = some (.string s) ∧ a.m.get 3 = some v3 ∧ a.m.get 4 = some (.string (bsOf cur)) ∧ a.m.get 5 = some (.int .i64 (.ofNat i)) ∧
    NewStrs 9 h.next h' v3 done ∧ Grows h h' ∧ done.length ≤ i ∧ cur.length ≤ i ∧ piecesL 10 s.data.toList = done ++ joinHd cur (piecesL 10 (s.data.toList.drop i))) ?_ s.size _ _ ?_
  · intro k a h' ⟨i, done, cur, v3, hk, hi, hn, g0, g3, g4, g5, hv, hg, hdn, hcl, hp⟩
    repeat (refine W.seq ?_)
    refine W.reg0 ?_
    simp only [go_sem, g5, hn, Nat.reduceLT, Nat.reduceEqDiff, g0, reduceIte]
    repeat (refine W.seq ?_)
    refine W.cond2 ?_
    simp only [go_sem, Nat.reduceEqDiff, reduceIte]
    refine ⟨fun hlt => ?_, fun hge => ?_⟩
    · repeat (refine W.seq ?_)
      refine W.skip ?_
      simp only [go_sem]
      repeat (refine W.seq ?_)
      refine W.block ?_
      repeat (refine W.seq ?_)
      refine W.reg0 ?_
      simp only [go_sem, Nat.reduceEqDiff, g0, reduceIte, Nat.reduceLT, g5, bytes_at s hlt]
      repeat (refine W.seq ?_)
      refine W.cond2 ?_
      simp only [go_sem, Nat.reduceEqDiff, reduceIte]
      refine ⟨fun h10 => ?_, fun h10 => ?_⟩
      · obtain ⟨v', h2, e, hv', hg'⟩ := app_str (sl52 X) hv hg cur (by omega)
        repeat (refine W.seq ?_)
        refine W.reg0 ?_
        simp only [go_sem, Nat.reduceEqDiff, g3, reduceIte, Nat.reduceLT, g4, Nat.reduceLeDiff, effA, e]
        repeat (refine W.seq ?_)
        refine W.reg0 ?_
        simp only [go_sem, Nat.reduceLT]
        repeat (refine W.seq ?_)
        refine W.reg0 ?_
        simp only [go_sem, Nat.reduceEqDiff, g5, reduceIte, Nat.reduceLT, inc_nat (show i + 1 ≤ 9223372036854775807 by omega), g0, g3, g4]
        refine ⟨s.size - (i + 1), by omega, i + 1, done ++ [cur], [], v', rfl, by omega, ?_⟩
        simp only [go_sem, Nat.reduceLeDiff]
        refine ⟨trivial, trivial, trivial, rfl, trivial, hv', hg', by simp; omega, by simp, ?_⟩
        have hb : s.data.toList[i] = 10 := by
          exact UInt8.toNat_inj.1 h10
        rw [hp, drop_at s hlt, hb, joinHd_hit, joinHd_nil (piecesL_ne_nil _ _)]
        simp
      · repeat (refine W.seq ?_)
        refine W.reg0 ?_
        simp only [go_sem, Nat.reduceEqDiff, g4, reduceIte, Nat.reduceLT, g0, g5, inc_nat (show i + 1 ≤ 9223372036854775807 by omega), show i + 1 ≤ s.size from hlt, show i ≤ i + 1 from Nat.le_succ i, one_at s hlt, cat_bs (a := cur) (b := [s.data.toList[i]'(by rw [← Lib.size_eq]; exact hlt)]) (by simp; omega)]
        repeat (refine W.seq ?_)
        refine W.reg0 ?_
        simp only [go_sem, Nat.reduceEqDiff, g5, reduceIte, Nat.reduceLT, inc_nat (show i + 1 ≤ 9223372036854775807 by omega), g0, g3, g4]
        refine ⟨s.size - (i + 1), by omega, i + 1, done, cur ++ [s.data.toList[i]'(by rw [← Lib.size_eq]; exact hlt)], v3, rfl, by omega, ?_⟩
        simp only []
        refine ⟨trivial, trivial, trivial, trivial, trivial, hv, hg, by omega, by simp; omega, ?_⟩
        have hb : s.data.toList[i]'(by rw [← Lib.size_eq]; exact hlt) ≠ 10 := by
          intro e
          exact h10 (by rw [e]; rfl)
        rw [hp, drop_at s hlt, joinHd_miss hb]
    · obtain ⟨v', h2, e, hv', hg'⟩ := app_str (sl52 X) hv hg cur (by omega)
      repeat (refine W.seq ?_)
      refine W.exit ?_
      simp only [go_sem, reduceIte]
      repeat (refine W.seq ?_)
      refine W.reg0 ?_
      simp only [go_sem, Nat.reduceEqDiff, g3, reduceIte, Nat.reduceLT, g4, Nat.reduceLeDiff, effA, e]
      repeat (refine W.seq ?_)
      refine W.ret ?_
      simp only [go_sem, outW, resultA, resA, Nat.reduceEqDiff, reduceIte]
      refine ⟨trivial, v', rfl, hg', ?_⟩
      rw [hp, drop_end s (by omega), joinHd_end]
      exact hv'
  · simp only [go_sem, Nat.reduceEqDiff, reduceIte]
    refine ⟨0, [], [], _, rfl, Nat.zero_le _, trivial, trivial, rfl, rfl, rfl, NewRow.nil _ _ _ _, Grows.refl _, Nat.le_refl _, Nat.le_refl _, ?_⟩
    rw [joinHd_nil (piecesL_ne_nil _ _)]; rfl

theorem x_rwords (px : PX X) (s : ByteArray) (hs : s.size ≤ 900000) (h : H) : ∃ v h', callS (EX X) 24 [.string s] h = some (v, h') ∧ Grows h h' ∧ NewStrs 9 h.next h' v (wordsL s.data.toList) := by
  refine call_of px.n24 (gf24 X) rfl (rs := [.tmp 2]) rfl (m := 36) rfl ?_
  repeat (refine W.seq ?_)
  refine W.reg0 ?_
  simp only [go_sem, Nat.reduceSub, Nat.reduceAdd, Nat.reduceLT]
  repeat (refine W.seq ?_)
  refine W.reg0 ?_
  simp only [go_sem, Nat.reduceLT]
  repeat (refine W.seq ?_)
  refine W.reg0 ?_
  simp only [go_sem, Nat.reduceLT]
  repeat (refine W.seq ?_)
  refine W.reg0 ?_
  simp only [go_sem, Nat.reduceLT]
  repeat (refine W.seq ?_)
  refine W.block ?_
  refine W.loop_inv (fun k a h' => ∃ i pre cur v3, k = s.size + 1 - i ∧ a.n = 36 ∧ a.m.get 0 = some (.string s) ∧ a.m.get 3 = some v3 ∧ a.m.get 4 = some (.string (bsOf cur)) ∧ a.m.get 5 = some (.int .i64 (.ofNat i)) ∧
    NewStrs 9 h.next h' v3 (pre.filter ne0) ∧ Grows h h' ∧ (pre.filter ne0).length ≤ i ∧ cur.length ≤ i ∧ ((i ≤ s.size ∧ piecesL 32 s.data.toList = pre ++ joinHd cur (piecesL 32 (s.data.toList.drop i))) ∨ (i = s.size + 1 ∧ piecesL 32 s.data.toList = pre))) ?_ (s.size + 1) _ _ ?_
  · intro k a h' ⟨i, pre, cur, v3, hk, hn, g0, g3, g4, g5, hv, hg, hdn, hcl, hp⟩
    repeat (refine W.seq ?_)
    refine W.reg0 ?_
    simp only [go_sem, g5, hn, Nat.reduceLT, Nat.reduceEqDiff, g0, reduceIte]
    repeat (refine W.seq ?_)
    refine W.cond2 ?_
    simp only [go_sem, Nat.reduceEqDiff, reduceIte]
    refine ⟨fun hle => ?_, fun hgt => ?_⟩
    · repeat (refine W.seq ?_)
      refine W.skip ?_
      simp only [go_sem]
      obtain ⟨_, hp⟩ : i ≤ s.size ∧ piecesL 32 s.data.toList = pre ++ joinHd cur (piecesL 32 (s.data.toList.drop i)) := by
        rcases hp with hp | ⟨hp, _⟩
        · exact hp
        · omega
      repeat (refine W.seq ?_)
      refine W.block ?_
      by_cases hlt : i < s.size
      · repeat (refine W.seq ?_)
        refine W.reg0 ?_
        simp only [go_sem, Nat.reduceEqDiff, g5, reduceIte, Nat.reduceLT, g0, hlt, bytes_at s hlt]
        repeat (refine W.seq ?_)
        refine W.cond2 ?_
        simp only [go_sem, Nat.reduceEqDiff, reduceIte]
        refine ⟨fun h32 => ?_, fun h32 => ?_⟩
        · refine W.seq ?_
          repeat (refine W.seq ?_)
          refine W.reg0 ?_
          simp only [go_sem, Nat.reduceEqDiff, g4, reduceIte, Nat.reduceLT, g0, g5, inc_nat (show i + 1 ≤ 9223372036854775807 by omega), show i + 1 ≤ s.size from hlt, show i ≤ i + 1 from Nat.le_succ i, one_at s hlt, cat_bs (a := cur) (b := [s.data.toList[i]'(by rw [← Lib.size_eq]; exact hlt)]) (by simp; omega)]
          repeat (refine W.seq ?_)
          refine W.exit ?_
          simp only [go_sem, reduceIte]
          repeat (refine W.seq ?_)
          refine W.reg0 ?_
          simp only [go_sem, Nat.reduceEqDiff, g5, reduceIte, Nat.reduceLT, inc_nat (show i + 1 ≤ 9223372036854775807 by omega), g0, g3, g4]
          refine ⟨s.size + 1 - (i + 1), by omega, i + 1, pre, cur ++ [s.data.toList[i]'(by rw [← Lib.size_eq]; exact hlt)], v3, rfl, ?_⟩
          simp only [Nat.reduceEqDiff]
          refine ⟨trivial, trivial, trivial, trivial, trivial, hv, hg, by omega, by simp; omega, .inl ⟨by omega, ?_⟩⟩
          have hb : s.data.toList[i]'(by rw [← Lib.size_eq]; exact hlt) ≠ 32 := by
            intro e
            exact h32 (by rw [e]; rfl)
          rw [hp, drop_at s hlt, joinHd_miss hb]
        · repeat (refine W.seq ?_)
          refine W.skip ?_
          simp only [go_sem]
          have hb : s.data.toList[i]'(by rw [← Lib.size_eq]; exact hlt) = 32 := by
            have := Classical.not_not.1 h32
            exact UInt8.toNat_inj.1 this
          have hp2 : piecesL 32 s.data.toList = (pre ++ [cur]) ++ joinHd [] (piecesL 32 (s.data.toList.drop (i + 1))) := by
            rw [hp, drop_at s hlt, hb, joinHd_hit, joinHd_nil (piecesL_ne_nil _ _)]; simp
          repeat (refine W.seq ?_)
          refine W.reg0 ?_
          simp only [go_sem, Nat.reduceEqDiff, g4, reduceIte, Nat.reduceLT]
          repeat (refine W.seq ?_)
          refine W.cond2 ?_
          simp only [go_sem, Nat.reduceEqDiff, reduceIte]
          refine ⟨fun hne => ?_, fun hne => ?_⟩
          · obtain ⟨v', h2, e, hv', hg'⟩ := app_str (sl52 X) hv hg cur (by omega)
            repeat (refine W.seq ?_)
            refine W.reg0 ?_
            simp only [go_sem, Nat.reduceEqDiff, g3, reduceIte, Nat.reduceLT, g4, Nat.reduceLeDiff, effA, e]
            repeat (refine W.seq ?_)
            refine W.reg0 ?_
            simp only [go_sem, Nat.reduceLT]
            repeat (refine W.seq ?_)
            refine W.reg0 ?_
            simp only [go_sem, Nat.reduceEqDiff, g5, reduceIte, Nat.reduceLT, inc_nat (show i + 1 ≤ 9223372036854775807 by omega), g0, g3, g4]
            refine ⟨s.size + 1 - (i + 1), by omega, i + 1, pre ++ [cur], [], v', rfl, ?_⟩
            simp only [go_sem, Nat.reduceLeDiff, Nat.reduceEqDiff]
            have hf : (pre ++ [cur]).filter ne0 = pre.filter ne0 ++ [cur] := by
              cases cur with
              | nil => simp at hne
              | cons x r => simp [ne0]
            rw [hf]
            exact ⟨trivial, trivial, trivial, rfl, trivial, hv', hg', by simp; omega, by simp, .inl ⟨by omega, hp2⟩⟩
          · repeat (refine W.seq ?_)
            refine W.skip ?_
            simp only [go_sem]
            repeat (refine W.seq ?_)
            refine W.reg0 ?_
            simp only [go_sem, Nat.reduceLT]
            repeat (refine W.seq ?_)
            refine W.reg0 ?_
            simp only [go_sem, Nat.reduceEqDiff, g5, reduceIte, Nat.reduceLT, inc_nat (show i + 1 ≤ 9223372036854775807 by omega), g0, g3, g4]
            refine ⟨s.size + 1 - (i + 1), by omega, i + 1, pre ++ [cur], [], v3, rfl, ?_⟩
            simp only [go_sem, Nat.reduceLeDiff, Nat.reduceEqDiff]
            have hf : (pre ++ [cur]).filter ne0 = pre.filter ne0 := by
              cases cur with
              | nil => simp [ne0]
              | cons x r => simp at hne
            rw [hf]
            exact ⟨trivial, trivial, trivial, rfl, trivial, hv, hg, by omega, by simp, .inl ⟨by omega, hp2⟩⟩
      · have hi : i = s.size := by omega
        repeat (refine W.seq ?_)
        refine W.reg0 ?_
        simp only [go_sem, Nat.reduceEqDiff, g5, reduceIte, Nat.reduceLT, g0, hlt]
        repeat (refine W.seq ?_)
        refine W.cond2 ?_
        simp only [go_sem, Nat.reduceEqDiff, reduceIte]
        refine ⟨fun h32 => (by simp at h32), fun _ => ?_⟩
        repeat (refine W.seq ?_)
        refine W.skip ?_
        simp only [go_sem]
        have hp2 : piecesL 32 s.data.toList = pre ++ [cur] := by
          rw [hp, drop_end s (by omega), joinHd_end]
        repeat (refine W.seq ?_)
        refine W.reg0 ?_
        simp only [go_sem, Nat.reduceEqDiff, g4, reduceIte, Nat.reduceLT]
        repeat (refine W.seq ?_)
        refine W.cond2 ?_
        simp only [go_sem, Nat.reduceEqDiff, reduceIte]
        refine ⟨fun hne => ?_, fun hne => ?_⟩
        · obtain ⟨v', h2, e, hv', hg'⟩ := app_str (sl52 X) hv hg cur (by omega)
          repeat (refine W.seq ?_)
          refine W.reg0 ?_
          simp only [go_sem, Nat.reduceEqDiff, g3, reduceIte, Nat.reduceLT, g4, Nat.reduceLeDiff, effA, e]
          repeat (refine W.seq ?_)
          refine W.reg0 ?_
          simp only [go_sem, Nat.reduceLT]
          repeat (refine W.seq ?_)
          refine W.reg0 ?_
          simp only [go_sem, Nat.reduceEqDiff, g5, reduceIte, Nat.reduceLT, inc_nat (show i + 1 ≤ 9223372036854775807 by omega), g0, g3, g4]
          refine ⟨s.size + 1 - (i + 1), by omega, i + 1, pre ++ [cur], [], v', rfl, ?_⟩
          simp only [go_sem, Nat.reduceLeDiff, Nat.reduceEqDiff]
          have hf : (pre ++ [cur]).filter ne0 = pre.filter ne0 ++ [cur] := by
            cases cur with
            | nil => simp at hne
            | cons x r => simp [ne0]
          rw [hf]
          exact ⟨trivial, trivial, trivial, rfl, trivial, hv', hg', by simp; omega, by simp, .inr ⟨by omega, hp2⟩⟩
        · repeat (refine W.seq ?_)
          refine W.skip ?_
          simp only [go_sem]
          repeat (refine W.seq ?_)
          refine W.reg0 ?_
          simp only [go_sem, Nat.reduceLT]
          repeat (refine W.seq ?_)
          refine W.reg0 ?_
          simp only [go_sem, Nat.reduceEqDiff, g5, reduceIte, Nat.reduceLT, inc_nat (show i + 1 ≤ 9223372036854775807 by omega), g0, g3, g4]
          refine ⟨s.size + 1 - (i + 1), by omega, i + 1, pre ++ [cur], [], v3, rfl, ?_⟩
          simp only [go_sem, Nat.reduceLeDiff, Nat.reduceEqDiff]
          have hf : (pre ++ [cur]).filter ne0 = pre.filter ne0 := by
            cases cur with
            | nil => simp [ne0]
            | cons x r => simp at hne
          rw [hf]
          exact ⟨trivial, trivial, trivial, rfl, trivial, hv, hg, by omega, by simp, .inr ⟨by omega, hp2⟩⟩
    · repeat (refine W.seq ?_)
      refine W.exit ?_
      simp only [go_sem, reduceIte]
      repeat (refine W.seq ?_)
      refine W.reg0 ?_
      simp only [go_sem, Nat.reduceEqDiff, g3, reduceIte, Nat.reduceLT]
      repeat (refine W.seq ?_)
      refine W.ret ?_
      simp only [go_sem, outW, resultA, resA, Nat.reduceEqDiff, reduceIte]
      refine ⟨trivial, v3, rfl, hg, ?_⟩
      rcases hp with ⟨hp, _⟩ | ⟨_, hp⟩
      · omega
      · show NewRow 9 h.next h' v3 (wordsL s.data.toList).length 1 (strC (wordsL s.data.toList))
        unfold wordsL
        rw [hp]; exact hv
  · simp only [go_sem, Nat.reduceEqDiff, reduceIte]
    refine ⟨0, [], [], _, rfl, trivial, trivial, rfl, rfl, rfl, NewRow.nil _ _ _ _, Grows.refl _, Nat.le_refl _, Nat.le_refl _, .inl ⟨Nat.zero_le _, ?_⟩⟩
    rw [joinHd_nil (piecesL_ne_nil _ _)]; rfl
end Go.Proofs.YtkoccbggjfbgaaaGreatDoor
end

section
open Go.Eng
set_option maxRecDepth 100000
set_option linter.unusedSimpArgs false
set_option linter.unusedVariables false
namespace Go.Proofs.YtkoccbggjfbgaaaGreatDoor
variable {X : Tr Nat}

/-- the words of a line that counts -/
def lineW : List (List UInt8) → List (List UInt8)
  | (35 :: r) :: ws => []
  | ws => ws

theorem wordsL_ne (l w : List UInt8) (h : w ∈ wordsL l) : w ≠ [] := by
  unfold wordsL at h
  rw [List.mem_filter] at h
  intro e
  subst e
  simp [ne0] at h

theorem strsA_grows (t : Nat) (l : List (List UInt8)) (h : H) : ∃ v h', strsA t l h = some (v, h') ∧ Grows h h' ∧ NewStrs t h.next h' v l ∧ v = .slice (some ⟨h.next, 0, none⟩) l.length 1 := by
  refine ⟨_, _, rfl, (Grows.refl h).new _, .inr ⟨h.next, Nat.le_refl _, Nat.lt_succ_self _, rfl, ?_, by rw [strC_length]; simp⟩, rfl⟩
  rw [H.get_new, if_pos rfl]; rfl

theorem x_fields (px : PX X) (w : List UInt8) (hw : w.length ≤ 4294967296) (h : H) : callS (EX X) 43 [.string (bsOf w), .func (.func 44) #[] #[]] h = strsA 9 (wordsL w) h := by
  rw [call_hook (show (EX X).X.get 43 = some 46137501 from px.fields)]
  rw [hook_fields_eq (g := 44) (t := 9) (by decide) (by decide) (by decide)]
  unfold hFields
  have : Nat.ble (bsOf w).data.toList.length 4294967296 = true := Nat.ble_eq_true_of_le hw
  simp only [this]
  rfl

theorem x_words (px : PX X) (w : List UInt8) (hw : w.length ≤ 900000) (h : H) : ∃ v h', callS (EX X) 20 [.string (bsOf w)] h = some (v, h') ∧ Grows h h' ∧ NewStrs 9 h.next h' v (lineW (wordsL w)) := by
  refine call_of px.n20 (gf20 X) rfl (rs := [.tmp 2]) rfl (m := 17) rfl ?_
  obtain ⟨v, h', e, hg, hv, rfl⟩ := strsA_grows 9 (wordsL w) h
  repeat (refine W.seq ?_)
  refine W.reg0 ?_
  simp only [go_sem, Nat.reduceEqDiff, reduceIte, Nat.reduceAdd, Nat.reduceSub, Nat.reduceMul, Nat.reduceLT, Nat.reduceLeDiff]
  repeat (refine W.seq ?_)
  refine W.reg0 ?_
  simp only [go_sem, Nat.reduceEqDiff, reduceIte, Nat.reduceAdd, Nat.reduceSub, Nat.reduceMul, Nat.reduceLT, Nat.reduceLeDiff, effA, x_fields px w (by omega) h, e]
  cases hws : wordsL w with
  | nil =>
    repeat (refine W.seq ?_)
    refine W.reg0 ?_
    simp only [go_sem, Nat.reduceEqDiff, reduceIte, Nat.reduceAdd, Nat.reduceSub, Nat.reduceMul, Nat.reduceLT, Nat.reduceLeDiff]
    repeat (refine W.seq ?_)
    refine W.cond2 ?_
    simp only [go_sem, Nat.reduceEqDiff, reduceIte, Nat.reduceAdd, Nat.reduceSub, Nat.reduceMul, Nat.reduceLT, Nat.reduceLeDiff]
    refine ⟨fun hc => (by simp at hc), fun _ => ?_⟩
    repeat (refine W.seq ?_)
    refine W.skip ?_
    simp only [go_sem, Nat.reduceEqDiff, reduceIte, Nat.reduceAdd, Nat.reduceSub, Nat.reduceMul, Nat.reduceLT, Nat.reduceLeDiff]
    repeat (refine W.seq ?_)
    refine W.reg0 ?_
    simp only [go_sem, Nat.reduceEqDiff, reduceIte, Nat.reduceAdd, Nat.reduceSub, Nat.reduceMul, Nat.reduceLT, Nat.reduceLeDiff]
    repeat (refine W.seq ?_)
    refine W.ret ?_
    simp only [outW, resultA, resA, loadA, loadC, rd, ofCells, go_sem, Nat.reduceEqDiff, reduceIte, Nat.reduceAdd, Nat.reduceSub, Nat.reduceMul, Nat.reduceLT, Nat.reduceLeDiff]
    refine ⟨trivial, _, rfl, hg, ?_⟩
    rw [hws] at hv
    exact hv
  | cons y ys =>
    have hy : y ≠ [] := wordsL_ne w y (by rw [hws]; simp)
    obtain ⟨c, r, rfl⟩ : ∃ c r, y = c :: r := by
      cases y with
      | nil => exact absurd rfl hy
      | cons c r => exact ⟨c, r, rfl⟩
    have hget : h'.get h.next = some (.cells (strC ((c :: r) :: ys)) 9) := by
      rcases hv with ⟨e1, _⟩ | ⟨o, _, _, e1, e2, _⟩
      · simp at e1
      · simp only [Value.slice.injEq, Option.some.injEq, Addr.mk.injEq, and_true, true_and] at e1
        rw [← e1, hws] at e2; exact e2
    repeat (refine W.seq ?_)
    refine W.reg0 ?_
    simp only [go_sem, Nat.reduceEqDiff, reduceIte, Nat.reduceAdd, Nat.reduceSub, Nat.reduceMul, Nat.reduceLT, Nat.reduceLeDiff, loadA, loadC, rd, ofCells, hget, strC, seg]
    repeat (refine W.seq ?_)
    refine W.cond2 ?_
    simp only [go_sem, Nat.reduceEqDiff, reduceIte, Nat.reduceAdd, Nat.reduceSub, Nat.reduceMul, Nat.reduceLT, Nat.reduceLeDiff]
    refine ⟨fun hc => ?_, fun hc => ?_⟩
    · have hb : c = 35 := UInt8.toNat_inj.1 hc
      subst hb
      repeat (refine W.seq ?_)
      refine W.reg0 ?_
      simp only [go_sem, Nat.reduceEqDiff, reduceIte, Nat.reduceAdd, Nat.reduceSub, Nat.reduceMul, Nat.reduceLT, Nat.reduceLeDiff]
      repeat (refine W.seq ?_)
      refine W.ret ?_
      simp only [outW, resultA, resA, loadA, loadC, rd, ofCells, go_sem, Nat.reduceEqDiff, reduceIte, Nat.reduceAdd, Nat.reduceSub, Nat.reduceMul, Nat.reduceLT, Nat.reduceLeDiff]
      refine ⟨trivial, _, rfl, hg, ?_⟩
      exact NewRow.nil _ _ _ _
    · have hb : c ≠ 35 := fun e2 => hc (by rw [e2]; rfl)
      repeat (refine W.seq ?_)
      refine W.skip ?_
      simp only [go_sem, Nat.reduceEqDiff, reduceIte, Nat.reduceAdd, Nat.reduceSub, Nat.reduceMul, Nat.reduceLT, Nat.reduceLeDiff]
      repeat (refine W.seq ?_)
      refine W.reg0 ?_
      simp only [go_sem, Nat.reduceEqDiff, reduceIte, Nat.reduceAdd, Nat.reduceSub, Nat.reduceMul, Nat.reduceLT, Nat.reduceLeDiff]
      repeat (refine W.seq ?_)
      refine W.ret ?_
      simp only [outW, resultA, resA, loadA, loadC, rd, ofCells, go_sem, Nat.reduceEqDiff, reduceIte, Nat.reduceAdd, Nat.reduceSub, Nat.reduceMul, Nat.reduceLT, Nat.reduceLeDiff]
      refine ⟨trivial, _, rfl, hg, ?_⟩
      rw [hws] at hv
      have : lineW ((c :: r) :: ys) = (c :: r) :: ys := by
        unfold lineW
        split
        · rename_i h1; simp only [List.cons.injEq] at h1; exact absurd h1.1.1 hb
        · rfl
      rw [this]
      exact hv

/-! ### Numbers -/
def isDig (b : UInt8) : Bool := decide (48 ≤ b.toNat) && decide (b.toNat ≤ 57)

/-- a word's number, and what is wrong with it -/
def numS (w : List UInt8) : Nat × Nat :=
  match w with
  | [] => (0, 9)
  | 48 :: _ :: _ => (0, 9)
  | w => match w.all isDig with
    | true => match Lib.parseUint10 0 w with
      | .ok n => (n, 0)
      | _ => (0, 3)
    | false => (0, 9)

theorem parse_digs : ∀ (l : List UInt8) (acc : Nat), l.all isDig = true → Lib.parseUint10 acc l ≠ Lib.NumEnd.syntax
  | [], acc, _ => by simp [Lib.parseUint10]
  | c :: r, acc, h => by
    simp only [List.all_cons, Bool.and_eq_true, isDig, decide_eq_true_eq] at h
    unfold Lib.parseUint10
    rw [if_pos h.1]
    split
    · simp
    · split
      · simp
      · exact parse_digs r _ (by simpa [isDig] using h.2)

/-- the object 0 is the variable strconv.ErrRange -/
def HOk (h : H) : Prop := 0 < h.next ∧ ∃ t fz te pe r, h.get 0 = some (.fixed 9 t fz (.iface te pe :: r))
theorem HOk.g {h h' : H} (a : HOk h) (g : Grows h h') : HOk h' := by
  obtain ⟨h0, t, fz, te, pe, r, e⟩ := a
  exact ⟨Nat.lt_of_lt_of_le h0 g.next, t, fz, te, pe, r, (g.get 0 h0).trans e⟩

theorem x_parse (px : PX X) (w : List UInt8) (hne : w ≠ []) (hd : w.all isDig = true) (hw : w.length ≤ 4294967296) (h : H) (ho : HOk h) :
    ∃ h', Grows h h' ∧ ((∃ n, Lib.parseUint10 0 w = .ok n ∧ callS (EX X) 108 [.string (bsOf w), .int .i64 (Int.ofNat 10), .int .i64 (Int.ofNat 64)] h = some (.tuple #[.int .u64 (.ofNat n), .nilIface], h')) ∨
      (Lib.parseUint10 0 w = .range ∧ ∃ p, callS (EX X) 108 [.string (bsOf w), .int .i64 (Int.ofNat 10), .int .i64 (Int.ofNat 64)] h = some (.tuple #[.int .u64 (Int.ofNat 18446744073709551615), .iface 266 (.pointer p)], h'))) := by
  have hk : callS (EX X) 108 [.string (bsOf w), .int .i64 (Int.ofNat 10), .int .i64 (Int.ofNat 64)] h = hParseU 266 9 [.string (bsOf w), .int .i64 (Int.ofNat 10), .int .i64 (Int.ofNat 64)] h := by
    rw [call_hook (show (EX X).X.get 108 = some 151063056 from px.parse), hook_parseU_eq (t := 266) (b := 9) (by decide) (by decide) (by decide) (by decide) (by decide)]
  rw [hk]
  have hb : Nat.ble (bsOf w).data.toList.length 4294967296 = true := Nat.ble_eq_true_of_le hw
  have h1 : decide ((Int.ofNat 10 : Int) = 10) = true := rfl
  have h2 : decide ((Int.ofNat 64 : Int) = 64) = true := rfl
  rw [bsOf_list] at hb
  cases w with
  | nil => exact absurd rfl hne
  | cons x l =>
    unfold hParseU
    simp only [bsOf_list, hb, h1, h2]
    cases hp : Lib.parseUint10 0 (x :: l) with
    | ok n => exact ⟨h, Grows.refl _, .inl ⟨n, rfl, rfl⟩⟩
    | range =>
      obtain ⟨h0, t, fz, te, pe, r, e⟩ := ho
      have h9 : Nat.beq 9 9 = true := rfl
      simp only [e, h9]
      exact ⟨_, (Grows.refl h).new _, .inr ⟨trivial, _, rfl⟩⟩
    | _ => exact absurd hp (parse_digs _ _ hd)

theorem numS_zero (y : UInt8) (r : List UInt8) : numS (48 :: y :: r) = (0, 9) := rfl
theorem numS_else {x : UInt8} {r : List UInt8} (h : ¬ (x = 48 ∧ r ≠ [])) : numS (x :: r) = (match (x :: r).all isDig with
    | true => match Lib.parseUint10 0 (x :: r) with
      | .ok n => (n, 0)
      | _ => (0, 3)
    | false => (0, 9)) := by
  conv => lhs; unfold numS
  split
  · rename_i h1; simp at h1
  · rename_i h1
    simp only [List.cons.injEq] at h1
    exact absurd ⟨h1.1, by rw [h1.2]; simp⟩ h
  · rfl

theorem isDig_lo {b : UInt8} (h : b.toNat < 48) : isDig b = false := by simp [isDig]; omega
theorem isDig_hi {b : UInt8} (h : 57 < b.toNat) : isDig b = false := by simp [isDig]; omega
theorem isDig_in {b : UInt8} (h1 : ¬ b.toNat < 48) (h2 : ¬ 57 < b.toNat) : isDig b = true := by simp [isDig]; omega

theorem x_number (px : PX X) (w : List UInt8) (hw : w.length ≤ 900000) (h : H) (ho : HOk h) : ∃ v h', callS (EX X) 79 [.string (bsOf w)] h = some (v, h') ∧ Grows h h' ∧ v = .tuple #[.int .u64 (Int.ofNat (numS w).1), .int .i64 (Int.ofNat (numS w).2)] := by
  refine call_of px.n79 (gf79 X) rfl (rs := [.tmp 2, .tmp 3]) rfl (m := 43) rfl ?_
  match w, hw with
  | [], hw =>
    repeat (refine W.seq ?_)
    refine W.reg0 ?_
    simp only [go_sem, Nat.reduceEqDiff, reduceIte, Nat.reduceAdd, Nat.reduceSub, Nat.reduceMul, Nat.reduceLT, Nat.reduceLeDiff]
    repeat (refine W.seq ?_)
    refine W.reg0 ?_
    simp only [go_sem, Nat.reduceEqDiff, reduceIte, Nat.reduceAdd, Nat.reduceSub, Nat.reduceMul, Nat.reduceLT, Nat.reduceLeDiff]
    repeat (refine W.seq ?_)
    refine W.cond2 ?_
    simp only [go_sem, Nat.reduceEqDiff, reduceIte, Nat.reduceAdd, Nat.reduceSub, Nat.reduceMul, Nat.reduceLT, Nat.reduceLeDiff]
    refine ⟨fun _ => ?_, fun hc => (by simp at hc)⟩
    repeat (refine W.seq ?_)
    refine W.reg0 ?_
    simp only [go_sem, Nat.reduceEqDiff, reduceIte, Nat.reduceAdd, Nat.reduceSub, Nat.reduceMul, Nat.reduceLT, Nat.reduceLeDiff]
    repeat (refine W.seq ?_)
    refine W.ret ?_
    simp only [outW, resultA, resA, loadA, loadC, rd, ofCells, go_sem, Nat.reduceEqDiff, reduceIte, Nat.reduceAdd, Nat.reduceSub, Nat.reduceMul, Nat.reduceLT, Nat.reduceLeDiff]
    exact ⟨trivial, _, rfl, Grows.refl _, rfl⟩
  | x :: r, hw =>
    have hsz : (bsOf (x :: r)).size = r.length + 1 := by rw [bsOf_size]; rfl
    repeat (refine W.seq ?_)
    refine W.reg0 ?_
    simp only [go_sem, Nat.reduceEqDiff, reduceIte, Nat.reduceAdd, Nat.reduceSub, Nat.reduceMul, Nat.reduceLT, Nat.reduceLeDiff]
    refine W.cut (fun a h' => a.n = 43 ∧ h' = h ∧ a.m.get 0 = some (.string (bsOf (x :: r))) ∧ ¬ (x = 48 ∧ r ≠ [])) ?_ ?_
    · cases r with
      | nil =>
        repeat (refine W.seq ?_)
        refine W.reg0 ?_
        simp only [go_sem, Nat.reduceEqDiff, reduceIte, Nat.reduceAdd, Nat.reduceSub, Nat.reduceMul, Nat.reduceLT, Nat.reduceLeDiff, hsz]
        repeat (refine W.seq ?_)
        refine W.cond2 ?_
        simp only [go_sem, Nat.reduceEqDiff, reduceIte, Nat.reduceAdd, Nat.reduceSub, Nat.reduceMul, Nat.reduceLT, Nat.reduceLeDiff]
        refine ⟨fun hc => (by simp at hc), fun _ => ?_⟩
        repeat (refine W.seq ?_)
        refine W.skip ?_
        simp only [go_sem, Nat.reduceEqDiff, reduceIte, Nat.reduceAdd, Nat.reduceSub, Nat.reduceMul, Nat.reduceLT, Nat.reduceLeDiff]
        exact ⟨trivial, trivial, trivial, fun hc => hc.2 rfl⟩
      | cons y r =>
        have hlt : 1 < r.length + 1 + 1 := by omega
        repeat (refine W.seq ?_)
        refine W.reg0 ?_
        simp only [go_sem, Nat.reduceEqDiff, reduceIte, Nat.reduceAdd, Nat.reduceSub, Nat.reduceMul, Nat.reduceLT, Nat.reduceLeDiff, hsz, hlt, reduceCtorEq, not_false_eq_true]
        repeat (refine W.seq ?_)
        refine W.cond2 ?_
        simp only [go_sem, Nat.reduceEqDiff, reduceIte, Nat.reduceAdd, Nat.reduceSub, Nat.reduceMul, Nat.reduceLT, Nat.reduceLeDiff]
        refine ⟨fun hc => ?_, fun hc => ?_⟩
        · have hx : x = 48 := UInt8.toNat_inj.1 hc
          subst hx
          repeat (refine W.seq ?_)
          refine W.reg0 ?_
          simp only [go_sem, Nat.reduceEqDiff, reduceIte, Nat.reduceAdd, Nat.reduceSub, Nat.reduceMul, Nat.reduceLT, Nat.reduceLeDiff]
          repeat (refine W.seq ?_)
          refine W.ret ?_
          simp only [outW, resultA, resA, loadA, loadC, rd, ofCells, go_sem, Nat.reduceEqDiff, reduceIte, Nat.reduceAdd, Nat.reduceSub, Nat.reduceMul, Nat.reduceLT, Nat.reduceLeDiff]
          exact ⟨trivial, _, rfl, Grows.refl _, rfl⟩
        · repeat (refine W.seq ?_)
          refine W.skip ?_
          simp only [go_sem, Nat.reduceEqDiff, reduceIte, Nat.reduceAdd, Nat.reduceSub, Nat.reduceMul, Nat.reduceLT, Nat.reduceLeDiff]
          exact ⟨trivial, trivial, trivial, fun hc2 => hc (by rw [hc2.1]; rfl)⟩
    · intro a h' ⟨hn, hh, g0, hz⟩
      subst hh
      rw [numS_else hz]
      repeat (refine W.seq ?_)
      refine W.reg0 ?_
      simp only [go_sem, Nat.reduceEqDiff, reduceIte, Nat.reduceAdd, Nat.reduceSub, Nat.reduceMul, Nat.reduceLT, Nat.reduceLeDiff, hn, g0, hsz]
      repeat (refine W.seq ?_)
      refine W.block ?_
      refine W.loop_inv (fun k a h'' => ∃ i, k = (x :: r).length - i ∧ i ≤ (x :: r).length ∧ a.n = 43 ∧ h'' = h' ∧ a.m.get 0 = some (.string (bsOf (x :: r))) ∧ a.m.get 20 = some (.int .i64 (.ofNat (r.length + 1))) ∧ a.m.get 21 = some (.int .i64 (.ofNat i)) ∧ ((x :: r).take i).all isDig = true) ?_ (x :: r).length _ _ ?_
      · intro k a h'' ⟨i, hk, hi, hn, hh, g0, g20, g21, hd⟩
        subst hh
        repeat (refine W.seq ?_)
        refine W.reg0 ?_
        simp only [go_sem, Nat.reduceEqDiff, reduceIte, Nat.reduceAdd, Nat.reduceSub, Nat.reduceMul, Nat.reduceLT, Nat.reduceLeDiff, hn, g0, g20, g21]
        repeat (refine W.seq ?_)
        refine W.cond2 ?_
        simp only [go_sem, Nat.reduceEqDiff, reduceIte, Nat.reduceAdd, Nat.reduceSub, Nat.reduceMul, Nat.reduceLT, Nat.reduceLeDiff]
        refine ⟨fun hlt => ?_, fun hge => ?_⟩
        · have hlt' : i < (x :: r).length := hlt
          have hat : (x :: r)[i]? = some ((x :: r)[i]'hlt') := List.getElem?_eq_getElem _
          repeat (refine W.seq ?_)
          refine W.skip ?_
          simp only [go_sem, Nat.reduceEqDiff, reduceIte, Nat.reduceAdd, Nat.reduceSub, Nat.reduceMul, Nat.reduceLT, Nat.reduceLeDiff]
          repeat (refine W.seq ?_)
          refine W.block ?_
          repeat (refine W.seq ?_)
          refine W.reg0 ?_
          simp only [go_sem, Nat.reduceEqDiff, reduceIte, Nat.reduceAdd, Nat.reduceSub, Nat.reduceMul, Nat.reduceLT, Nat.reduceLeDiff, hn, g0, g20, g21]
          by_cases hlo : ((x :: r)[i]'hlt').toNat < 48
          · repeat (refine W.seq ?_)
            refine W.reg0 ?_
            simp only [go_sem, Nat.reduceEqDiff, reduceIte, Nat.reduceAdd, Nat.reduceSub, Nat.reduceMul, Nat.reduceLT, Nat.reduceLeDiff, hn, g0, g20, g21, hat, hlo]
            repeat (refine W.seq ?_)
            refine W.cond2 ?_
            simp only [go_sem, Nat.reduceEqDiff, reduceIte, Nat.reduceAdd, Nat.reduceSub, Nat.reduceMul, Nat.reduceLT, Nat.reduceLeDiff]
            refine ⟨fun _ => ?_, fun hc => (by simp at hc)⟩
            repeat (refine W.seq ?_)
            refine W.reg0 ?_
            simp only [go_sem, Nat.reduceEqDiff, reduceIte, Nat.reduceAdd, Nat.reduceSub, Nat.reduceMul, Nat.reduceLT, Nat.reduceLeDiff, hn]
            repeat (refine W.seq ?_)
            refine W.ret ?_
            simp only [outW, resultA, resA, loadA, loadC, rd, ofCells, go_sem, Nat.reduceEqDiff, reduceIte, Nat.reduceAdd, Nat.reduceSub, Nat.reduceMul, Nat.reduceLT, Nat.reduceLeDiff]
            have : (x :: r).all isDig = false := by
              rw [Bool.eq_false_iff]
              intro hc
              rw [List.all_eq_true] at hc
              have := hc _ (List.getElem_mem hlt')
              rw [isDig_lo hlo] at this; simp at this
            rw [this]
            exact ⟨trivial, _, rfl, Grows.refl _, rfl⟩
          · repeat (refine W.seq ?_)
            refine W.reg0 ?_
            simp only [go_sem, Nat.reduceEqDiff, reduceIte, Nat.reduceAdd, Nat.reduceSub, Nat.reduceMul, Nat.reduceLT, Nat.reduceLeDiff, hn, g0, g20, g21, hat, hlo]
            repeat (refine W.seq ?_)
            refine W.cond2 ?_
            simp only [go_sem, Nat.reduceEqDiff, reduceIte, Nat.reduceAdd, Nat.reduceSub, Nat.reduceMul, Nat.reduceLT, Nat.reduceLeDiff]
            refine ⟨fun hhi => ?_, fun hhi => ?_⟩
            · repeat (refine W.seq ?_)
              refine W.reg0 ?_
              simp only [go_sem, Nat.reduceEqDiff, reduceIte, Nat.reduceAdd, Nat.reduceSub, Nat.reduceMul, Nat.reduceLT, Nat.reduceLeDiff, hn]
              repeat (refine W.seq ?_)
              refine W.ret ?_
              simp only [outW, resultA, resA, loadA, loadC, rd, ofCells, go_sem, Nat.reduceEqDiff, reduceIte, Nat.reduceAdd, Nat.reduceSub, Nat.reduceMul, Nat.reduceLT, Nat.reduceLeDiff]
              have : (x :: r).all isDig = false := by
                rw [Bool.eq_false_iff]
                intro hc
                rw [List.all_eq_true] at hc
                have := hc _ (List.getElem_mem hlt')
                rw [isDig_hi hhi] at this; simp at this
              rw [this]
              exact ⟨trivial, _, rfl, Grows.refl _, rfl⟩
            · repeat (refine W.seq ?_)
              refine W.skip ?_
              simp only [go_sem, Nat.reduceEqDiff, reduceIte, Nat.reduceAdd, Nat.reduceSub, Nat.reduceMul, Nat.reduceLT, Nat.reduceLeDiff]
              repeat (refine W.seq ?_)
              refine W.reg0 ?_
              simp only [go_sem, Nat.reduceEqDiff, reduceIte, Nat.reduceAdd, Nat.reduceSub, Nat.reduceMul, Nat.reduceLT, Nat.reduceLeDiff, inc_nat (show i + 1 ≤ 9223372036854775807 by omega), hn, g0, g20, g21]
              refine ⟨(x :: r).length - (i + 1), by omega, i + 1, rfl, by omega, ?_⟩
              simp only [go_sem, Nat.reduceEqDiff, reduceIte, Nat.reduceAdd, Nat.reduceSub, Nat.reduceMul, Nat.reduceLT, Nat.reduceLeDiff, hn, g0, g20, g21]
              refine ⟨trivial, trivial, trivial, trivial, trivial, ?_⟩
              rw [List.take_add_one, hat]
              simp only [Option.toList_some, List.all_append, List.all_cons, List.all_nil, Bool.and_true, Bool.and_eq_true]
              exact ⟨hd, isDig_in hlo hhi⟩
        · repeat (refine W.seq ?_)
          refine W.exit ?_
          simp only [go_sem, Nat.reduceEqDiff, reduceIte, Nat.reduceAdd, Nat.reduceSub, Nat.reduceMul, Nat.reduceLT, Nat.reduceLeDiff]
          rw [List.take_of_length_le (by simp only [List.length_cons]; omega)] at hd
          obtain ⟨h2, hg2, hp⟩ := x_parse px (x :: r) (by simp) hd (by omega) h'' ho
          rw [hd]
          rcases hp with ⟨n, hp, e⟩ | ⟨hp, p, e⟩
          · rw [hp]
            repeat (refine W.seq ?_)
            refine W.reg0 ?_
            simp only [go_sem, Nat.reduceEqDiff, reduceIte, Nat.reduceAdd, Nat.reduceSub, Nat.reduceMul, Nat.reduceLT, Nat.reduceLeDiff, hn, g0, e, effA, und75]
            repeat (refine W.seq ?_)
            refine W.reg0 ?_
            simp only [go_sem, Nat.reduceEqDiff, reduceIte, Nat.reduceAdd, Nat.reduceSub, Nat.reduceMul, Nat.reduceLT, Nat.reduceLeDiff, hn, und75]
            repeat (refine W.seq ?_)
            refine W.cond2 ?_
            simp only [go_sem, Nat.reduceEqDiff, reduceIte, Nat.reduceAdd, Nat.reduceSub, Nat.reduceMul, Nat.reduceLT, Nat.reduceLeDiff]
            refine ⟨fun hc => (by simp at hc), fun _ => ?_⟩
            repeat (refine W.seq ?_)
            refine W.skip ?_
            simp only [go_sem, Nat.reduceEqDiff, reduceIte, Nat.reduceAdd, Nat.reduceSub, Nat.reduceMul, Nat.reduceLT, Nat.reduceLeDiff]
            repeat (refine W.seq ?_)
            refine W.reg0 ?_
            simp only [go_sem, Nat.reduceEqDiff, reduceIte, Nat.reduceAdd, Nat.reduceSub, Nat.reduceMul, Nat.reduceLT, Nat.reduceLeDiff, hn]
            repeat (refine W.seq ?_)
            refine W.ret ?_
            simp only [outW, resultA, resA, loadA, loadC, rd, ofCells, go_sem, Nat.reduceEqDiff, reduceIte, Nat.reduceAdd, Nat.reduceSub, Nat.reduceMul, Nat.reduceLT, Nat.reduceLeDiff]
            exact ⟨trivial, _, rfl, hg2, rfl⟩
          · rw [hp]
            repeat (refine W.seq ?_)
            refine W.reg0 ?_
            simp only [go_sem, Nat.reduceEqDiff, reduceIte, Nat.reduceAdd, Nat.reduceSub, Nat.reduceMul, Nat.reduceLT, Nat.reduceLeDiff, hn, g0, e, effA]
            repeat (refine W.seq ?_)
            refine W.reg0 ?_
            simp only [go_sem, Nat.reduceEqDiff, reduceIte, Nat.reduceAdd, Nat.reduceSub, Nat.reduceMul, Nat.reduceLT, Nat.reduceLeDiff, hn, und75, aeq]
            repeat (refine W.seq ?_)
            refine W.cond2 ?_
            simp only [go_sem, Nat.reduceEqDiff, reduceIte, Nat.reduceAdd, Nat.reduceSub, Nat.reduceMul, Nat.reduceLT, Nat.reduceLeDiff]
            refine ⟨fun _ => ?_, fun hc => (by simp at hc)⟩
            repeat (refine W.seq ?_)
            refine W.reg0 ?_
            simp only [go_sem, Nat.reduceEqDiff, reduceIte, Nat.reduceAdd, Nat.reduceSub, Nat.reduceMul, Nat.reduceLT, Nat.reduceLeDiff, hn]
            repeat (refine W.seq ?_)
            refine W.ret ?_
            simp only [outW, resultA, resA, loadA, loadC, rd, ofCells, go_sem, Nat.reduceEqDiff, reduceIte, Nat.reduceAdd, Nat.reduceSub, Nat.reduceMul, Nat.reduceLT, Nat.reduceLeDiff]
            exact ⟨trivial, _, rfl, hg2, rfl⟩
      · simp only [go_sem, Nat.reduceEqDiff, reduceIte, Nat.reduceAdd, Nat.reduceSub, Nat.reduceMul, Nat.reduceLT, Nat.reduceLeDiff, hn, g0]
        exact ⟨0, rfl, Nat.zero_le _, by simp⟩
end Go.Proofs.YtkoccbggjfbgaaaGreatDoor
end

section
open Go.Eng
set_option maxRecDepth 100000
set_option linter.unusedSimpArgs false
set_option linter.unusedVariables false
namespace Go.Proofs.YtkoccbggjfbgaaaGreatDoor
variable {X : Tr Nat}

/-- words as numbers: the numbers ahead of the first that is none; what is wrong with that -/
def numsS : List (List UInt8) → List Nat × Nat
  | [] => ([], 0)
  | w :: ws => match (numS w).2 with
    | 0 => ((numS w).1 :: (numsS ws).1, (numsS ws).2)
    | e => ([], e)

theorem numsS_ok {w : List UInt8} (ws : List (List UInt8)) (h : (numS w).2 = 0) : numsS (w :: ws) = ((numS w).1 :: (numsS ws).1, (numsS ws).2) := by
  show (match (numS w).2 with | 0 => ((numS w).1 :: (numsS ws).1, (numsS ws).2) | e => ([], e)) = _
  rw [h]; rfl
theorem numsS_bad {w : List UInt8} (ws : List (List UInt8)) (h : (numS w).2 ≠ 0) : numsS (w :: ws) = ([], (numS w).2) := by
  show (match (numS w).2 with | 0 => ((numS w).1 :: (numsS ws).1, (numsS ws).2) | e => ([], e)) = _
  cases he : (numS w).2 with
  | zero => exact absurd he h
  | succ n => rfl

theorem x_numbers (px : PX X) (l : List (List UInt8)) (v : Value) (h : H) (hl : l.length ≤ 900000) (hw : ∀ w ∈ l, w.length ≤ 900000) (hv : ViewS 9 h v l) (ho : HOk h) :
    ∃ r h', callS (EX X) 45 [v] h = some (r, h') ∧ Grows h h' ∧ ∃ u, r = .tuple #[u, .int .i64 (Int.ofNat (numsS l).2)] ∧
      (((numsS l).2 = 0 ∧ NewRow 23 h.next h' u (u64C (numsS l).1).length 1 (u64C (numsS l).1)) ∨ ((numsS l).2 ≠ 0 ∧ u = .slice none 0 0)) := by
  refine call_of px.n45 (gf45 X) rfl (rs := [.tmp 2, .tmp 3]) rfl (m := 29) rfl ?_
  obtain ⟨p, s, hvs⟩ := hv.len
  rw [strC_length] at hvs
  repeat (refine W.seq ?_)
  refine W.reg0 ?_
  simp only [go_sem, Nat.reduceSub, Nat.reduceAdd, Nat.reduceLT]
  repeat (refine W.seq ?_)
  refine W.reg0 ?_
  simp only [go_sem, Nat.reduceLT]
  repeat (refine W.seq ?_)
  refine W.reg0 ?_
  simp only [go_sem, hvs, Nat.reduceEqDiff, reduceIte, Nat.reduceLT]
  repeat (refine W.seq ?_)
  refine W.block ?_
  refine W.loop_inv (fun k a h' => ∃ i done u, k = l.length - i ∧ i ≤ l.length ∧ a.n = 29 ∧ Grows h h' ∧ a.m.get 9 = some v ∧ a.m.get 10 = some (.int .i64 (.ofNat l.length)) ∧ a.m.get 11 = some (.int .i64 (.ofNat i)) ∧ a.m.get 4 = some u ∧
    NewRow 23 h.next h' u (u64C done).length 1 (u64C done) ∧ done.length = i ∧ numsS l = (done ++ (numsS (l.drop i)).1, (numsS (l.drop i)).2)) ?_ l.length _ _ ?_
  · intro k a h' ⟨i, done, u, hk, hi, hn, hg, g9, g10, g11, g4, hu, hdl, hs⟩
    repeat (refine W.seq ?_)
    refine W.reg0 ?_
    simp only [go_sem, g11, g10, hn, Nat.reduceLT]
    repeat (refine W.seq ?_)
    refine W.cond2 ?_
    simp only [go_sem, reduceIte]
    refine ⟨fun hlt => ?_, fun hge => ?_⟩
    · have hat : l[i]? = some l[i] := List.getElem?_eq_getElem hlt
      obtain ⟨o, off, hvo, _, hrd⟩ := (hv.grows hg).at (strC_at hat)
      rw [strC_length] at hvo
      have hdrop : l.drop i = l[i] :: l.drop (i + 1) := List.drop_eq_getElem_cons hlt
      obtain ⟨rv, h2, e, hg2, hrv⟩ := x_number px l[i] (hw _ (List.getElem_mem hlt)) h' (ho.g hg)
      subst hrv
      repeat (refine W.seq ?_)
      refine W.skip ?_
      simp only [go_sem]
      repeat (refine W.seq ?_)
      refine W.block ?_
      repeat (refine W.seq ?_)
      refine W.reg0 ?_
      simp only [go_sem, hlt, Nat.reduceEqDiff, g9, hvo, reduceIte, g11, Nat.reduceLT, loadA, loadC, hrd, ofCells]
      repeat (refine W.seq ?_)
      refine W.reg0 ?_
      simp only [go_sem, Nat.reduceEqDiff, reduceIte, Nat.reduceLT, e]
      repeat (refine W.seq ?_)
      refine W.reg0 ?_
      simp only [go_sem, Nat.reduceEqDiff, reduceIte, Nat.reduceLT]
      repeat (refine W.seq ?_)
      refine W.cond2 ?_
      simp only [go_sem, Nat.reduceEqDiff, reduceIte]
      refine ⟨fun hne => ?_, fun heq => ?_⟩
      · repeat (refine W.seq ?_)
        refine W.reg0 ?_
        simp only [go_sem, Nat.reduceEqDiff, reduceIte, Nat.reduceLT]
        repeat (refine W.seq ?_)
        refine W.ret ?_
        simp only [go_sem, outW, resultA, resA, Nat.reduceEqDiff, reduceIte]
        have := numsS_bad (l.drop (i + 1)) hne
        rw [← hdrop] at this
        rw [this] at hs
        rw [hs]
        exact ⟨trivial, _, rfl, hg.trans hg2, _, rfl, .inr ⟨hne, rfl⟩⟩
      · have h0 : (numS l[i]).2 = 0 := Classical.not_not.1 heq
        obtain ⟨u', h3, e3, hu', hg3, _, _⟩ := app_one (sl47 X) (hu.grows hg2) (hg.trans hg2) (.int .u64 (Int.ofNat (numS l[i]).1)) rfl (by rw [u64C_length]; omega)
        repeat (refine W.seq ?_)
        refine W.skip ?_
        simp only [go_sem]
        repeat (refine W.seq ?_)
        refine W.reg0 ?_
        simp only [go_sem, Nat.reduceEqDiff, g4, reduceIte, Nat.reduceLT, Nat.reduceLeDiff, effA, e3]
        repeat (refine W.seq ?_)
        refine W.reg0 ?_
        simp only [go_sem, Nat.reduceEqDiff, g11, reduceIte, inc_nat (show i + 1 ≤ 9223372036854775807 by omega), Nat.reduceLT, g9, g10, g4]
        refine ⟨l.length - (i + 1), by omega, i + 1, done ++ [(numS l[i]).1], u', rfl, by omega, ?_⟩
        simp only []
        refine ⟨trivial, hg3, (by first | trivial | rw [hvo]), trivial, trivial, trivial, ?_, by simp; omega, ?_⟩
        · rw [u64C_append]; exact hu'
        · have := numsS_ok (l.drop (i + 1)) h0
          rw [← hdrop] at this
          rw [this] at hs
          rw [hs]; simp
    · have hi' : i = l.length := by omega
      repeat (refine W.seq ?_)
      refine W.exit ?_
      simp only [go_sem, reduceIte]
      repeat (refine W.seq ?_)
      refine W.reg0 ?_
      simp only [go_sem, Nat.reduceEqDiff, g4, reduceIte, Nat.reduceLT]
      repeat (refine W.seq ?_)
      refine W.ret ?_
      simp only [go_sem, outW, resultA, resA, Nat.reduceEqDiff, reduceIte]
      rw [hi', List.drop_length] at hs
      have h1 : numsS l = (done, 0) := by rw [hs]; simp [numsS]
      rw [h1]
      exact ⟨trivial, _, rfl, hg, _, rfl, .inl ⟨rfl, hu⟩⟩
  · simp only [go_sem, Nat.reduceEqDiff, reduceIte]
    exact ⟨0, [], .slice none 0 0, rfl, Nat.zero_le _, trivial, Grows.refl _, (by rw [hvs]), (by first | trivial | rfl), (by first | trivial | rfl), (by first | trivial | rfl), NewRow.nil _ _ _ _, rfl, by simp⟩
end Go.Proofs.YtkoccbggjfbgaaaGreatDoor
end

section
open Go.Eng
set_option maxRecDepth 100000
set_option linter.unusedSimpArgs false
set_option linter.unusedVariables false
namespace Go.Proofs.YtkoccbggjfbgaaaGreatDoor
variable {X : Tr Nat}

structure Cfg where
  cores : Nat
  tasks : Nat
  tick : Nat
  slice : Nat
  origin : Nat
def Cfg.zero : Cfg := ⟨0, 0, 0, 0, 0⟩
def Cfg.cells (c : Cfg) : List Value := [.int .i64 (Int.ofNat c.cores), .int .i64 (Int.ofNat c.tasks), .int .u64 (Int.ofNat c.tick), .int .u64 (Int.ofNat c.slice), .int .u64 (Int.ofNat c.origin)]
def Cfg.val (c : Cfg) : Value := .agg c.cells.toArray

def sysWord : List UInt8 := [115, 121, 115, 116, 101, 109]

def cfgOf : List Nat → Cfg
  | [a, b, c, d, e] => ⟨min a 1073741824, min b 1073741824, c, d, e⟩
  | _ => Cfg.zero

/-- what the first line tells, what is wrong with it -/
def sysS (l : List (List UInt8)) : Cfg × Nat :=
  match l with
  | [] => (Cfg.zero, 9)
  | w :: ws => if w = sysWord ∧ ws.length = 5 then (match (numsS ws).2 with | 0 => (cfgOf (numsS ws).1, 0) | e => (Cfg.zero, e)) else (Cfg.zero, 9)

theorem numsS_length : ∀ (l : List (List UInt8)), (numsS l).2 = 0 → (numsS l).1.length = l.length
  | [], _ => rfl
  | w :: ws, h => by
    by_cases h0 : (numS w).2 = 0
    · rw [numsS_ok ws h0] at h ⊢
      simp [numsS_length ws h]
    · rw [numsS_bad ws h0] at h
      exact absurd h h0

theorem x_system (px : PX X) (w : List UInt8) (ws : List (List UInt8)) (v : Value) (h : H) (hl : ws.length ≤ 800000) (hw : ∀ x ∈ w :: ws, x.length ≤ 900000) (hv : ViewS 9 h v (w :: ws)) (hok : HOk h) :
    ∃ r h', callS (EX X) 21 [v] h = some (r, h') ∧ Grows h h' ∧ r = .tuple #[(sysS (w :: ws)).1.val, .int .i64 (Int.ofNat (sysS (w :: ws)).2)] := by
  refine call_of px.n21 (gf21 X) rfl (rs := [.cell 2 25, .tmp 3]) rfl (m := 46) rfl ?_
  obtain ⟨o, off, rfl, hvt, hrd⟩ := ViewS.uncons hv
  repeat (refine W.seq ?_)
  refine W.reg0 ?_
  simp only [go_sem, Nat.reduceSub, Nat.reduceAdd, Nat.reduceEqDiff, List.all_cons, List.all_nil, Nat.reduceLT]
  have hg0 : Grows h (h.new (.cells [Value.int .i64 (Int.ofNat 0), .int .i64 (Int.ofNat 0), .int .u64 (Int.ofNat 0), .int .u64 (Int.ofNat 0), .int .u64 (Int.ofNat 0)] 25)) := (Grows.refl h).new _
  have hget0 : (h.new (.cells [Value.int .i64 (Int.ofNat 0), .int .i64 (Int.ofNat 0), .int .u64 (Int.ofNat 0), .int .u64 (Int.ofNat 0), .int .u64 (Int.ofNat 0)] 25)).get h.next = some (.cells [Value.int .i64 (Int.ofNat 0), .int .i64 (Int.ofNat 0), .int .u64 (Int.ofNat 0), .int .u64 (Int.ofNat 0), .int .u64 (Int.ofNat 0)] 25) := by
    rw [H.get_new]; simp
  have hnx0 : (h.new (.cells [Value.int .i64 (Int.ofNat 0), .int .i64 (Int.ofNat 0), .int .u64 (Int.ofNat 0), .int .u64 (Int.ofNat 0), .int .u64 (Int.ofNat 0)] 25)).next = h.next + 1 := rfl
  generalize h.new (.cells [Value.int .i64 (Int.ofNat 0), .int .i64 (Int.ofNat 0), .int .u64 (Int.ofNat 0), .int .u64 (Int.ofNat 0), .int .u64 (Int.ofNat 0)] 25) = h1 at hg0 hget0 hnx0 ⊢
  obtain ⟨o', off', e1, hvt1, hrd1⟩ := ViewS.uncons (hv.grows hg0)
  simp only [Value.slice.injEq, Option.some.injEq, Addr.mk.injEq, and_true] at e1
  obtain ⟨rfl, rfl⟩ := e1
  by_cases hsys : w = sysWord ∧ ws.length = 5
  · obtain ⟨rfl, h5⟩ := hsys
    have hspec : sysS (sysWord :: ws) = (match (numsS ws).2 with | 0 => (cfgOf (numsS ws).1, 0) | e => (Cfg.zero, e)) := by
      show (if sysWord = sysWord ∧ ws.length = 5 then _ else _) = _
      rw [if_pos ⟨rfl, h5⟩]
    rw [hspec]
    repeat (refine W.seq ?_)
    refine W.reg0 ?_
    simp only [go_sem, h5, Nat.reduceAdd, Nat.reduceEqDiff, reduceIte, Nat.reduceLT, loadA, loadC, hrd1, sysWord, ofCells, ne_eq, not_true_eq_false]
    repeat (refine W.seq ?_)
    refine W.cond2 ?_
    simp only [go_sem, Nat.reduceEqDiff, reduceIte]
    refine ⟨fun hc => (by simp at hc), fun _ => ?_⟩
    repeat (refine W.seq ?_)
    refine W.skip ?_
    simp only [go_sem]
    obtain ⟨rv, h2, e2, hg2, u, rfl, hu⟩ := x_numbers px ws _ h1 (by omega) (fun x hx => hw x (by simp [hx])) hvt1 (hok.g hg0)
    rw [h5] at e2
    repeat (refine W.seq ?_)
    refine W.reg0 ?_
    simp only [go_sem, Nat.reduceEqDiff, reduceIte, Nat.reduceLT, Nat.reduceSub, e2]
    have hget2 : h2.get h.next = some (.cells [Value.int .i64 (Int.ofNat 0), .int .i64 (Int.ofNat 0), .int .u64 (Int.ofNat 0), .int .u64 (Int.ofNat 0), .int .u64 (Int.ofNat 0)] 25) := (hg2.get _ (by omega)).trans hget0
    repeat (refine W.seq ?_)
    refine W.reg0 ?_
    simp only [go_sem, Nat.reduceEqDiff, reduceIte, Nat.reduceLT]
    repeat (refine W.seq ?_)
    refine W.cond2 ?_
    simp only [go_sem, Nat.reduceEqDiff, reduceIte]
    rcases hu with ⟨hz, hrow⟩ | ⟨hz, rfl⟩
    · refine ⟨fun hc => absurd hz hc, fun _ => ?_⟩
      repeat (refine W.seq ?_)
      refine W.skip ?_
      simp only [go_sem]
      have hlen := numsS_length ws hz
      rw [h5] at hlen
      rw [hz]
      obtain ⟨n0, n1, n2, n3, n4, hns⟩ : ∃ a b c d e, (numsS ws).1 = [a, b, c, d, e] := by
        revert hlen
        generalize (numsS ws).1 = l
        intro hlen
        match l, hlen with
        | [a, b, c, d, e], _ => exact ⟨a, b, c, d, e, rfl⟩
      rw [hns] at hrow ⊢
      have hview := hrow.is.view
      obtain ⟨q, qo, rfl, _, r0⟩ := hview.at (i := 0) (x := .int .u64 (Int.ofNat n0)) rfl
      have hq : ∀ (i : Nat) (x : Value), (u64C [n0, n1, n2, n3, n4])[i]? = some x → rd h2 q (qo + i) 1 = some [x] := by
        intro i x hx
        obtain ⟨q', qo', e1, _, r⟩ := hview.at hx
        simp only [Value.slice.injEq, Option.some.injEq, Addr.mk.injEq, and_true] at e1
        obtain ⟨rfl, rfl⟩ := e1
        exact r
      have r0 : rd h2 q qo 1 = some [.int .u64 (Int.ofNat n0)] := hq 0 _ rfl
      have r1 := hq 1 (.int .u64 (Int.ofNat n1)) rfl
      have r2 := hq 2 (.int .u64 (Int.ofNat n2)) rfl
      have r3 := hq 3 (.int .u64 (Int.ofNat n3)) rfl
      have r4 := hq 4 (.int .u64 (Int.ofNat n4)) rfl
      repeat (refine W.seq ?_)
      refine W.plan (st := [(0, 0, false), (1, 1, false), (2, 3, false), (3, 7, false), (4, 15, false), (5, 0, false), (6, 32, false), (7, 96, false), (8, 224, false), (9, 480, false), (10, 0, false), (11, 1024, false), (12, 3072, false), (13, 0, false), (14, 8192, false), (15, 24576, false), (16, 0, false), (17, 65536, false), (18, 196608, false), (19, 524287, false), (20, 1048575, true), (21, 2097151, true)]) (by kernel_rfl) ?_
      simp only [go_sem, goP, stableD, u64C, Nat.reduceAdd, Nat.reduceEqDiff, reduceIte, Nat.reduceLT, r0, stab_cons, List.all_cons, cell1, List.all_nil, sameL_refl, stab_nil, Bool.or_true, loadA, loadC, ofCells, wrapN (show min n0 1073741824 ≤ 9223372036854775807 by omega), r1, wrapN (show min n1 1073741824 ≤ 9223372036854775807 by omega), r2, r3, r4, effA, hget2]
      repeat (refine W.seq ?_)
      refine W.ret ?_
      simp only [go_sem, outW, resultA, resA, Nat.reduceEqDiff, reduceIte, loadA, loadC, rd, seg, ofCells]
      exact ⟨trivial, _, rfl, (hg0.trans hg2).set (Nat.le_refl _) _, rfl⟩
    · refine ⟨fun _ => ?_, fun hc => absurd (Classical.not_not.1 hc) hz⟩
      repeat (refine W.seq ?_)
      refine W.reg0 ?_
      simp only [go_sem, List.all_cons, List.all_nil, Nat.reduceLT, Nat.reduceEqDiff, reduceIte, effA, Nat.reduceAdd, hget2]
      repeat (refine W.seq ?_)
      refine W.ret ?_
      simp only [go_sem, outW, resultA, resA, Nat.reduceEqDiff, reduceIte, loadA, loadC, rd, seg, ofCells]
      exact ⟨trivial, _, rfl, (hg0.trans hg2).set (Nat.le_refl _) _, rfl⟩
  · have hspec : sysS (w :: ws) = (Cfg.zero, 9) := by
      show (if w = sysWord ∧ ws.length = 5 then _ else _) = _
      rw [if_neg hsys]
    rw [hspec]
    by_cases hw0 : w = sysWord
    · subst hw0
      have h5 : ¬ ws.length = 5 := fun e => hsys ⟨rfl, e⟩
      have h6 : ¬ ws.length + 1 = 6 := by omega
      repeat (refine W.seq ?_)
      refine W.reg0 ?_
      simp only [go_sem, Nat.reduceEqDiff, reduceIte, Nat.reduceLT, loadA, loadC, hrd1, sysWord, ofCells, ne_eq, not_true_eq_false, h6, not_false_eq_true]
      repeat (refine W.seq ?_)
      refine W.cond2 ?_
      simp only [go_sem, Nat.reduceEqDiff, reduceIte]
      refine ⟨fun _ => ?_, fun hc => (by simp at hc)⟩
      repeat (refine W.seq ?_)
      refine W.reg0 ?_
      simp only [go_sem, List.all_cons, List.all_nil, Nat.reduceLT, Nat.reduceEqDiff, reduceIte, effA, Nat.reduceAdd, hget0]
      repeat (refine W.seq ?_)
      refine W.ret ?_
      simp only [go_sem, outW, resultA, resA, Nat.reduceEqDiff, reduceIte, loadA, loadC, rd, seg, ofCells]
      exact ⟨trivial, _, rfl, hg0.set (Nat.le_refl _) _, rfl⟩
    · have hw0' : ¬ w = [115, 121, 115, 116, 101, 109] := hw0
      repeat (refine W.seq ?_)
      refine W.reg0 ?_
      simp only [go_sem, Nat.reduceEqDiff, reduceIte, Nat.reduceLT, loadA, loadC, hrd1, ofCells, ne_eq, hw0', not_false_eq_true]
      repeat (refine W.seq ?_)
      refine W.cond2 ?_
      simp only [go_sem, Nat.reduceEqDiff, reduceIte]
      refine ⟨fun _ => ?_, fun hc => (by simp at hc)⟩
      repeat (refine W.seq ?_)
      refine W.reg0 ?_
      simp only [go_sem, List.all_cons, List.all_nil, Nat.reduceLT, Nat.reduceEqDiff, reduceIte, effA, Nat.reduceAdd, hget0]
      repeat (refine W.seq ?_)
      refine W.ret ?_
      simp only [go_sem, outW, resultA, resA, Nat.reduceEqDiff, reduceIte, loadA, loadC, rd, seg, ofCells]
      exact ⟨trivial, _, rfl, hg0.set (Nat.le_refl _) _, rfl⟩
end Go.Proofs.YtkoccbggjfbgaaaGreatDoor
end

section
open Go.Eng
set_option maxRecDepth 100000
set_option linter.unusedSimpArgs false
set_option linter.unusedVariables false
namespace Go.Proofs.YtkoccbggjfbgaaaGreatDoor
variable {X : Tr Nat}

def formW : List (List UInt8) := [[115, 112, 97, 119, 110], [101, 120, 105, 116], [115, 108, 101, 101, 112], [119, 97, 107, 101], [119, 101, 105, 103, 104, 116], [115, 108, 105, 99, 101], [109, 105, 103, 114, 97, 116, 101], [116, 105, 99, 107], [116, 97, 115, 107], [116, 97, 115, 107, 115], [99, 111, 114, 101, 115], [114, 117, 110, 115]]
def formR : List (List UInt8) := [[76, 110, 110, 110], [104], [104], [104], [104, 110], [104, 110], [104, 110], [110], [104], [42], [], []]
def formC : List Value := (formW.zip formR).flatMap fun p => [.string (bsOf p.1), .string (bsOf p.2)]
def stateW : List (List UInt8) := [[114, 117, 110, 110, 97, 98, 108, 101], [108, 105, 110, 103, 101, 114, 105, 110, 103], [115, 108, 101, 101, 112, 105, 110, 103]]

theorem form_seg : ∀ (i : Nat) (hi : i < 12), seg formC (i * 2) 2 = some [.string (bsOf (formW[i]'hi)), .string (bsOf (formR[i]'hi))]
  | 0, _ => rfl
  | 1, _ => rfl
  | 2, _ => rfl
  | 3, _ => rfl
  | 4, _ => rfl
  | 5, _ => rfl
  | 6, _ => rfl
  | 7, _ => rfl
  | 8, _ => rfl
  | 9, _ => rfl
  | 10, _ => rfl
  | 11, _ => rfl
  | i + 12, h => by omega

theorem x_forms (px : PX X) (h : H) : callS (EX X) 47 [] h = some (.slice (some ⟨h.next, 0, none⟩) 12 2, h.new (.cells formC 96)) := by
  have : ∃ v h', callS (EX X) 47 [] h = some (v, h') ∧ (v = .slice (some ⟨h.next, 0, none⟩) 12 2 ∧ h' = h.new (.cells formC 96)) := by
    refine call_of px.n47 (gf47 X) rfl (rs := [.tmp 0]) rfl (m := 14) rfl ?_
    repeat (refine W.seq ?_)
    refine W.reg0 ?_
    simp only [go_sem, Nat.reduceSub]
    repeat (refine W.seq ?_)
    refine W.reg0 ?_
    simp only [go_sem, List.all_cons, List.all_nil, Nat.reduceLT, Nat.reduceEqDiff, reduceIte, Nat.reduceAdd, Nat.reduceMul, Nat.reduceLeDiff]
    repeat (refine W.seq ?_)
    refine W.ret ?_
    simp only [go_sem, outW, resultA, resA, Nat.reduceEqDiff, reduceIte]
    exact ⟨trivial, _, rfl, rfl, rfl⟩
  obtain ⟨v, h', e, rfl, rfl⟩ := this
  exact e

theorem x_states (px : PX X) (h : H) : callS (EX X) 63 [] h = some (.slice (some ⟨h.next, 0, none⟩) 3 1, h.new (.cells (strC stateW) 9)) := by
  have : ∃ v h', callS (EX X) 63 [] h = some (v, h') ∧ (v = .slice (some ⟨h.next, 0, none⟩) 3 1 ∧ h' = h.new (.cells (strC stateW) 9)) := by
    refine call_of px.n63 (gf63 X) rfl (rs := [.tmp 0]) rfl (m := 2) rfl ?_
    repeat (refine W.seq ?_)
    refine W.reg0 ?_
    simp only [go_sem, Nat.reduceSub]
    repeat (refine W.seq ?_)
    refine W.reg0 ?_
    simp only [go_sem, Nat.reduceLeDiff, Nat.reduceLT, reduceIte]
    repeat (refine W.seq ?_)
    refine W.ret ?_
    simp only [go_sem, outW, resultA, resA, Nat.reduceEqDiff, reduceIte]
    exact ⟨trivial, _, rfl, rfl, rfl⟩
  obtain ⟨v, h', e, rfl, rfl⟩ := this
  exact e

theorem x_index (px : PX X) (w : List UInt8) (l : List (List UInt8)) (hl : l.length ≤ 900000) (v : Value) (h : H) (hv : ViewS 9 h v l) :
    ∃ r h', callS (EX X) 80 [v, .string (bsOf w)] h = some (r, h') ∧ (Grows h h' ∧ r = idxV (fidx w l)) := by
  refine call_of px.n80 (gf80 X) rfl (rs := [.tmp 4]) rfl (m := 19) rfl ?_
  obtain ⟨p, s, hvs⟩ := hv.len
  rw [strC_length] at hvs
  repeat (refine W.seq ?_)
  refine W.reg0 ?_
  simp only [go_sem, Nat.reduceAdd, Nat.reduceSub, Nat.reduceLT]
  repeat (refine W.seq ?_)
  refine W.reg0 ?_
  simp only [go_sem, hvs, Nat.reduceEqDiff, reduceIte, Nat.reduceLT]
  repeat (refine W.seq ?_)
  refine W.block ?_
  refine W.loop_inv (fun k a h' => ∃ i, k = l.length - i ∧ i ≤ l.length ∧ a.n = 19 ∧ h' = h ∧ a.m.get 0 = some v ∧ a.m.get 1 = some (.string (bsOf w)) ∧ a.m.get 7 = some (.int .i64 (.ofNat l.length)) ∧ a.m.get 8 = some (.int .i64 (.ofNat i)) ∧
    fidx w l = (fidx w (l.drop i)).map (· + i)) ?_ l.length _ _ ?_
  · intro k a h' ⟨i, hk, hi, hn, hh, g0, g1, g7, g8, hs⟩
    subst hh
    repeat (refine W.seq ?_)
    refine W.reg0 ?_
    simp only [go_sem, g8, g7, hn, Nat.reduceLT]
    repeat (refine W.seq ?_)
    refine W.cond2 ?_
    simp only [go_sem, reduceIte]
    refine ⟨fun hlt => ?_, fun hge => ?_⟩
    · have hat : l[i]? = some l[i] := List.getElem?_eq_getElem hlt
      obtain ⟨o, off, hvo, _, hrd⟩ := hv.at (strC_at hat)
      rw [strC_length] at hvo
      repeat (refine W.seq ?_)
      refine W.skip ?_
      simp only [go_sem]
      repeat (refine W.seq ?_)
      refine W.block ?_
      repeat (refine W.seq ?_)
      refine W.reg0 ?_
      simp only [go_sem, Nat.reduceEqDiff, g8, reduceIte, Nat.reduceLT]
      repeat (refine W.seq ?_)
      refine W.reg0 ?_
      simp only [go_sem, hlt, Nat.reduceEqDiff, g1, reduceIte, Nat.reduceLT, g0, hvo, loadA, loadC, hrd, ofCells]
      repeat (refine W.seq ?_)
      refine W.cond2 ?_
      simp only [go_sem, Nat.reduceEqDiff, reduceIte]
      refine ⟨fun he => ?_, fun hne => ?_⟩
      · repeat (refine W.seq ?_)
        refine W.reg0 ?_
        simp only [go_sem, Nat.reduceEqDiff, reduceIte, Nat.reduceLT]
        repeat (refine W.seq ?_)
        refine W.ret ?_
        simp only [go_sem, outW, resultA, resA, Nat.reduceEqDiff, reduceIte]
        rw [fidx_hit hlt (of_decide_eq_true he) hs]
        exact ⟨trivial, _, rfl, Grows.refl _, rfl⟩
      · repeat (refine W.seq ?_)
        refine W.skip ?_
        simp only [go_sem]
        repeat (refine W.seq ?_)
        refine W.reg0 ?_
        simp only [go_sem, Nat.reduceEqDiff, g8, reduceIte, inc_nat (show i + 1 ≤ 9223372036854775807 by omega), Nat.reduceLT, g0, g1, g7]
        refine ⟨l.length - (i + 1), by omega, i + 1, rfl, by omega, ?_⟩
        simp only []
        exact ⟨trivial, trivial, (by first | trivial | rw [hvo]), trivial, trivial, trivial, fidx_miss hlt (of_decide_eq_false hne) hs⟩
    · repeat (refine W.seq ?_)
      refine W.exit ?_
      simp only [go_sem, reduceIte]
      repeat (refine W.seq ?_)
      refine W.reg0 ?_
      simp only [go_sem, Nat.reduceLT]
      repeat (refine W.seq ?_)
      refine W.ret ?_
      simp only [go_sem, outW, resultA, resA, Nat.reduceEqDiff, reduceIte]
      rw [fidx_end (by omega) hs]
      exact ⟨trivial, _, rfl, Grows.refl _, rfl⟩
  · simp only [go_sem, Nat.reduceEqDiff, reduceIte]
    exact ⟨0, rfl, Nat.zero_le _, trivial, trivial, (by rw [hvs]), (by first | trivial | rfl), (by first | trivial | rfl), (by first | trivial | rfl), fidx_start _ _⟩

theorem x_clo (px : PX X) (a r w : List UInt8) (ws : List (List UInt8)) (b : Nat) (lv : Value) (h : H) (hb : b < h.next) (hget : h.get b = some (.cells [lv] 52)) (hv : ViewS 9 h lv (w :: ws)) :
    ∃ v h', callS (EX X) 48 [.agg #[.string (bsOf a), .string (bsOf r)], .pointer (some ⟨b, 0, none⟩)] h = some (v, h') ∧ (Grows h h' ∧ v = .bool (decide (a = w))) := by
  refine call_of px.n48 (gf48 X) rfl (rs := [.tmp 3]) rfl (m := 10) rfl ?_
  repeat (refine W.seq ?_)
  refine W.reg0 ?_
  simp only [go_sem, Nat.reduceAdd, Nat.reduceSub, Nat.reduceEqDiff, reduceIte, Nat.reduceLT]
  have hg : Grows h (h.new (.cells [Value.string (bsOf a), .string (bsOf r)] 96)) := (Grows.refl h).new _
  have hself : rd (h.new (.cells [Value.string (bsOf a), .string (bsOf r)] 96)) h.next 0 1 = some [.string (bsOf a)] := rd_get (H.get_new' _ _) rfl
  generalize h.new (.cells [Value.string (bsOf a), .string (bsOf r)] 96) = h1 at hg hself ⊢
  have hbox : rd h1 b 0 1 = some [lv] := rd_grows hg hb (rd_get hget rfl)
  obtain ⟨o, off, rfl, _, hrd⟩ := ViewS.uncons (hv.grows hg)
  repeat (refine W.seq ?_)
  refine W.plan (st := [(0, 0, false), (1, 1, false), (2, 0, false), (3, 4, false), (4, 12, false), (5, 31, false), (6, 63, true)]) (by kernel_rfl) ?_
  simp only [go_sem, goP, stableD, Nat.reduceEqDiff, reduceIte, Nat.reduceLT, hself, Nat.reduceAdd, stab_cons, all1_cons, cell1, all1_nil, sameL_refl, stab_nil, Bool.or_true, loadA, loadC, ofCells, hbox, hrd]
  repeat (refine W.seq ?_)
  refine W.ret ?_
  simp only [go_sem, outW, resultA, resA, Nat.reduceEqDiff, reduceIte]
  exact ⟨trivial, _, rfl, hg, rfl⟩
end Go.Proofs.YtkoccbggjfbgaaaGreatDoor
end

section
open Go.Eng
set_option maxRecDepth 100000
set_option linter.unusedSimpArgs false
set_option linter.unusedVariables false
namespace Go.Proofs.YtkoccbggjfbgaaaGreatDoor
variable {X : Tr Nat}

theorem x_indexFunc (px : PX X) (w : List UInt8) (ws : List (List UInt8)) (b o : Nat) (lv : Value) (h : H) (hb : b < h.next) (hget : h.get b = some (.cells [lv] 52)) (hv : ViewS 9 h lv (w :: ws)) (ho : o < h.next) (hf : h.get o = some (.cells formC 96)) :
    ∃ r h', callS (EX X) 46 [.slice (some ⟨o, 0, none⟩) 12 2, .func (.func 48) #[] #[.pointer (some ⟨b, 0, none⟩)]] h = some (r, h') ∧ (Grows h h' ∧ r = idxV (fidx w formW)) := by
  refine call_of px.n46 (gf46 X) rfl (rs := [.tmp 4]) rfl (m := 19) rfl ?_
  have hl : formW.length = 12 := rfl
  repeat (refine W.seq ?_)
  refine W.reg0 ?_
  simp only [go_sem, Nat.reduceAdd, Nat.reduceSub, Nat.reduceLT]
  repeat (refine W.seq ?_)
  refine W.reg0 ?_
  simp only [go_sem, Nat.reduceEqDiff, reduceIte, Nat.reduceLT]
  repeat (refine W.seq ?_)
  refine W.block ?_
  refine W.loop_inv (fun k a h' => ∃ i, k = 12 - i ∧ i ≤ 12 ∧ a.n = 19 ∧ Grows h h' ∧ a.m.get 0 = some (.slice (some ⟨o, 0, none⟩) 12 2) ∧ a.m.get 1 = some (.func (.func 48) #[] #[.pointer (some ⟨b, 0, none⟩)]) ∧ a.m.get 7 = some (.int .i64 (.ofNat 12)) ∧ a.m.get 8 = some (.int .i64 (.ofNat i)) ∧
    fidx w formW = (fidx w (formW.drop i)).map (· + i)) ?_ 12 _ _ ?_
  · intro k a h' ⟨i, hk, hi, hn, hg, g0, g1, g7, g8, hs⟩
    repeat (refine W.seq ?_)
    refine W.reg0 ?_
    simp only [go_sem, g8, g7, hn, Nat.reduceLT]
    repeat (refine W.seq ?_)
    refine W.cond2 ?_
    simp only [go_sem, reduceIte]
    refine ⟨fun hlt => ?_, fun hge => ?_⟩
    · have hrd : rd h' o (0 + i * 2) 2 = some [.string (bsOf (formW[i]'hlt)), .string (bsOf (formR[i]'hlt))] := by
        rw [Nat.zero_add]
        exact rd_get ((hg.get _ ho).trans hf) (form_seg i hlt)
      rw [Nat.zero_add] at hrd
      obtain ⟨rv, h2, e, hg2, rfl⟩ := x_clo px (formW[i]'hlt) (formR[i]'hlt) w ws b lv h' (Nat.lt_of_lt_of_le hb hg.next) ((hg.get _ hb).trans hget) (hv.grows hg)
      repeat (refine W.seq ?_)
      refine W.skip ?_
      simp only [go_sem]
      repeat (refine W.seq ?_)
      refine W.block ?_
      repeat (refine W.seq ?_)
      refine W.reg0 ?_
      simp only [go_sem, Nat.reduceEqDiff, g8, reduceIte, Nat.reduceLT]
      repeat (refine W.seq ?_)
      refine W.reg0 ?_
      simp only [go_sem, hlt, Nat.reduceEqDiff, g1, reduceIte, Nat.reduceLT, g0, loadA, loadC, hrd, ofCells, e]
      repeat (refine W.seq ?_)
      refine W.cond2 ?_
      simp only [go_sem, Nat.reduceEqDiff, reduceIte]
      refine ⟨fun he => ?_, fun hne => ?_⟩
      · repeat (refine W.seq ?_)
        refine W.reg0 ?_
        simp only [go_sem, Nat.reduceEqDiff, reduceIte, Nat.reduceLT]
        repeat (refine W.seq ?_)
        refine W.ret ?_
        simp only [go_sem, outW, resultA, resA, Nat.reduceEqDiff, reduceIte]
        rw [fidx_hit (l := formW) hlt he.symm hs]
        exact ⟨trivial, _, rfl, hg.trans hg2, rfl⟩
      · repeat (refine W.seq ?_)
        refine W.skip ?_
        simp only [go_sem]
        repeat (refine W.seq ?_)
        refine W.reg0 ?_
        simp only [go_sem, Nat.reduceEqDiff, g8, reduceIte, inc_nat (show i + 1 ≤ 9223372036854775807 by omega), Nat.reduceLT, g0, g1, g7]
        refine ⟨12 - (i + 1), by omega, i + 1, rfl, by omega, ?_⟩
        simp only []
        exact ⟨trivial, hg.trans hg2, trivial, trivial, trivial, trivial, fidx_miss (l := formW) hlt (fun e => hne e.symm) hs⟩
    · repeat (refine W.seq ?_)
      refine W.exit ?_
      simp only [go_sem, reduceIte]
      repeat (refine W.seq ?_)
      refine W.reg0 ?_
      simp only [go_sem, Nat.reduceLT]
      repeat (refine W.seq ?_)
      refine W.ret ?_
      simp only [go_sem, outW, resultA, resA, Nat.reduceEqDiff, reduceIte]
      rw [fidx_end (l := formW) (by omega) hs]
      exact ⟨trivial, _, rfl, hg, rfl⟩
  · simp only [go_sem, Nat.reduceEqDiff, reduceIte]
    exact ⟨0, rfl, Nat.zero_le _, trivial, Grows.refl _, (by first | trivial | rfl), (by first | trivial | rfl), (by first | trivial | rfl), (by first | trivial | rfl), fidx_start _ _⟩

theorem x_fits (px : PX X) (a r : List UInt8) (n : Nat) (h : H) :
    ∃ v h', callS (EX X) 49 [.agg #[.string (bsOf a), .string (bsOf r)], .int .i64 (Int.ofNat n)] h = some (v, h') ∧ (Grows h h' ∧ v = .bool (decide (r = [42] ∨ n = r.length))) := by
  refine call_of px.n49 (gf49 X) rfl (rs := [.tmp 4]) rfl (m := 15) rfl ?_
  repeat (refine W.seq ?_)
  refine W.reg0 ?_
  simp only [go_sem, Nat.reduceAdd, Nat.reduceSub, Nat.reduceEqDiff, reduceIte, Nat.reduceLT]
  have hg : Grows h (h.new (.cells [Value.string (bsOf a), .string (bsOf r)] 96)) := (Grows.refl h).new _
  have hself : rd (h.new (.cells [Value.string (bsOf a), .string (bsOf r)] 96)) h.next 1 1 = some [.string (bsOf r)] := rd_get (H.get_new' _ _) rfl
  generalize h.new (.cells [Value.string (bsOf a), .string (bsOf r)] 96) = h1 at hg hself ⊢
  have hsz : (bsOf r).size = r.length := bsOf_size r
  by_cases hr : r = [42]
  · repeat (refine W.seq ?_)
    refine W.reg0 ?_
    simp only [go_sem, hr, Nat.reduceEqDiff, reduceIte, Nat.reduceLT, loadA, loadC, hself, ofCells]
    repeat (refine W.seq ?_)
    refine W.ret ?_
    simp only [go_sem, outW, resultA, resA, Nat.reduceEqDiff, reduceIte]
    exact ⟨trivial, _, rfl, hg, by simp⟩
  · repeat (refine W.seq ?_)
    refine W.reg0 ?_
    simp only [go_sem, Nat.reduceEqDiff, reduceIte, Nat.reduceLT, loadA, loadC, hself, ofCells, hr, hsz]
    repeat (refine W.seq ?_)
    refine W.ret ?_
    simp only [go_sem, outW, resultA, resA, Nat.reduceEqDiff, reduceIte]
    exact ⟨trivial, _, rfl, hg, by simp [hr]⟩
end Go.Proofs.YtkoccbggjfbgaaaGreatDoor
end
