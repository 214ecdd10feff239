/-
  Rows that are read wherever they lie; strings.Builder in the abstract machine, as what it holds.
-/
import Derived.Test.YtkoccbggjfbgaaaGreatDoorK09
import Derived.Test.YtkoccbggjfbgaaaGreatDoorK07
set_option linter.all false
set_option linter.unusedVariables false
set_option linter.unusedSimpArgs false
namespace Go.Eng

theorem rd_kept {h h' : H} (g : Grows h h') {o off n : Nat} (ho : o < h.next) : rd h' o off n = rd h o off n := by unfold rd; rw [g.get o ho]

/-! ### Rows of elements of sz cells each -/
/-- a slice whose elements (of sz cells each) can be read, wherever they lie -/
def RRow (sz : Nat) (h : H) (v : Value) (n : Nat) (el : Nat → List Value) : Prop :=
  ∃ p s, v = .slice p n s ∧ ∀ i, i < n → s = sz ∧ ∃ o off, p = some ⟨o, off, none⟩ ∧ o < h.next ∧ rd h o (off + i * sz) sz = some (el i)
theorem RRow.len {sz : Nat} {h : H} {v : Value} {n : Nat} {el : Nat → List Value} (a : RRow sz h v n el) : ∃ p s, v = .slice p n s := let ⟨p, s, e, _⟩ := a; ⟨p, s, e⟩
theorem RRow.at {sz : Nat} {h : H} {p : Option Addr} {m n s : Nat} {el : Nat → List Value} (a : RRow sz h (.slice p m s) n el) {i : Nat} (hi : i < n) : s = sz ∧ ∃ o off, p = some ⟨o, off, none⟩ ∧ rd h o (off + i * sz) sz = some (el i) := by
  obtain ⟨p', s', e, k⟩ := a
  simp only [Value.slice.injEq] at e
  obtain ⟨rfl, _, rfl⟩ := e
  obtain ⟨h1, o, off, h2, _, h3⟩ := k i hi
  exact ⟨h1, o, off, h2, h3⟩
theorem RRow.grows {sz : Nat} {h h' : H} {v : Value} {n : Nat} {el : Nat → List Value} (a : RRow sz h v n el) (g : Grows h h') : RRow sz h' v n el := by
  obtain ⟨p, s, e, k⟩ := a
  refine ⟨p, s, e, fun i hi => ?_⟩
  obtain ⟨h1, o, off, h2, h3, h4⟩ := k i hi
  exact ⟨h1, o, off, h2, Nat.lt_of_lt_of_le h3 g.next, by rw [rd_kept g h3]; exact h4⟩
/-- only what is below a bound must stay -/
theorem RRow.low {sz b : Nat} {h h' : H} {v : Value} {n : Nat} {el : Nat → List Value} (a : RRow sz h v n el) (hn : h.next ≤ h'.next) (hb : h.next ≤ b) (g : ∀ x, x < b → h'.get x = h.get x) : RRow sz h' v n el :=
  a.grows ⟨hn, fun o ho => g o (Nat.lt_of_lt_of_le ho hb)⟩

/-- a slice of cells of one each, wherever they lie -/
def RView (h : H) (v : Value) (cs : List Value) : Prop :=
  ∃ p s, v = .slice p cs.length s ∧ ∀ i x, cs[i]? = some x → s = 1 ∧ ∃ o off, p = some ⟨o, off, none⟩ ∧ o < h.next ∧ rd h o (off + i) 1 = some [x]
theorem RView.len {h : H} {v : Value} {cs : List Value} (a : RView h v cs) : ∃ p s, v = .slice p cs.length s := let ⟨p, s, e, _⟩ := a; ⟨p, s, e⟩
theorem RView.at {h : H} {p : Option Addr} {n s : Nat} {cs : List Value} (a : RView h (.slice p n s) cs) {i : Nat} {x : Value} (hx : cs[i]? = some x) : s = 1 ∧ ∃ o off, p = some ⟨o, off, none⟩ ∧ rd h o (off + i) 1 = some [x] := by
  obtain ⟨p', s', e, k⟩ := a
  simp only [Value.slice.injEq] at e
  obtain ⟨rfl, _, rfl⟩ := e
  obtain ⟨h1, o, off, h2, _, h3⟩ := k i x hx
  exact ⟨h1, o, off, h2, h3⟩
theorem RView.grows {h h' : H} {v : Value} {cs : List Value} (a : RView h v cs) (g : Grows h h') : RView h' v cs := by
  obtain ⟨p, s, e, k⟩ := a
  refine ⟨p, s, e, fun i x hx => ?_⟩
  obtain ⟨h1, o, off, h2, h3, h4⟩ := k i x hx
  exact ⟨h1, o, off, h2, Nat.lt_of_lt_of_le h3 g.next, by rw [rd_kept g h3]; exact h4⟩
theorem RView.nil (h : H) : RView h (.slice none 0 0) [] := ⟨none, 0, rfl, fun i x hx => by simp at hx⟩
theorem RView.tail {h : H} {o off n : Nat} {x : Value} {cs : List Value} (a : RView h (.slice (some ⟨o, off, none⟩) n 1) (x :: cs)) (hn : n = cs.length + 1) : RView h (.slice (some ⟨o, off + 1, none⟩) cs.length 1) cs := by
  refine ⟨_, _, rfl, fun i y hy => ?_⟩
  obtain ⟨p', s', e, k⟩ := a
  simp only [Value.slice.injEq] at e
  obtain ⟨rfl, _, rfl⟩ := e
  obtain ⟨_, o', off', h2, h3, h4⟩ := k (i + 1) y (by simpa using hy)
  simp only [Option.some.injEq, Addr.mk.injEq, and_true] at h2
  obtain ⟨rfl, rfl⟩ := h2
  exact ⟨rfl, _, _, rfl, h3, by rw [← h4]; congr 1; omega⟩
/-- a row of its own -/
theorem NewRow.view {t b : Nat} {h : H} {v : Value} {n : Nat} {cs : List Value} (a : NewRow t b h v n 1 cs) : RView h v cs := by
  rcases a with ⟨rfl, rfl, rfl⟩ | ⟨o, _, h2, rfl, h4, h5⟩
  · exact RView.nil h
  · refine ⟨_, 1, by rw [h5, Nat.mul_one], fun i x hx => ⟨rfl, o, 0, rfl, h2, ?_⟩⟩
    unfold rd
    rw [h4, Nat.zero_add]
    exact seg_one _ _ _ hx

/-! ### Builders -/
/-- the builder at o holds l; it and its row are not older than b -/
def Bld (tb e b : Nat) (h : H) (o : Nat) (l : List UInt8) : Prop := b ≤ o ∧ o < h.next ∧ ∃ r, bldA tb e o h = some (l, r) ∧ ∀ q, r = some q → b ≤ q ∧ q < h.next ∧ q ≠ o

theorem Bld.new {tb e b : Nat} {h : H} (hb : b ≤ h.next) (u : Bool) : Bld tb e b (h.new (.bvar tb u none)) h.next [] := by
  refine ⟨hb, Nat.lt_succ_self _, none, ?_, fun q hq => by simp at hq⟩
  unfold bldA
  rw [H.get_new']
  have : Nat.beq tb tb = true := Nat.beq_refl tb
  simp only [this]

theorem bldA_row {tb e o : Nat} {h : H} {l : List UInt8} {r : Option Nat} (hb : bldA tb e o h = some (l, r)) : ∃ u row, h.get o = some (.bvar tb u row) ∧ (∀ q, r = some q → h.get q = some (.bbuf l e) ∧ row = some (q, l.length)) ∧ (r = none → row = none ∧ l = []) := by
  unfold bldA at hb
  split at hb
  case h_2 => simp at hb
  rename_i t u row hg
  split at hb
  case h_2 => simp at hb
  rename_i ht
  have ht := Nat.eq_of_beq_eq_true ht
  subst ht
  split at hb
  · simp only [Option.some.injEq, Prod.mk.injEq] at hb
    obtain ⟨rfl, rfl⟩ := hb
    exact ⟨u, none, hg, fun q hq => by simp at hq, fun _ => ⟨rfl, rfl⟩⟩
  · rename_i r' n
    split at hb
    case h_2 => simp at hb
    rename_i l' e' hr
    split at hb
    case h_2 => simp at hb
    rename_i h1 h2
    simp only [Option.some.injEq, Prod.mk.injEq] at hb
    obtain ⟨rfl, rfl⟩ := hb
    have h1 := Nat.eq_of_beq_eq_true h1
    have h2 := Nat.eq_of_beq_eq_true h2
    subst h1; subst h2
    exact ⟨u, _, hg, fun q hq => by simp only [Option.some.injEq] at hq; subst hq; exact ⟨hr, rfl⟩, fun hc => by simp at hc⟩

theorem bldA_mk {tb e o q : Nat} {h : H} {l : List UInt8} {u : Bool} (h1 : h.get o = some (.bvar tb u (some (q, l.length)))) (h2 : h.get q = some (.bbuf l e)) : bldA tb e o h = some (l, some q) := by
  unfold bldA
  rw [h1]
  have a : Nat.beq tb tb = true := Nat.beq_refl tb
  have b : Nat.beq e e = true := Nat.beq_refl e
  have c : Nat.beq l.length l.length = true := Nat.beq_refl _
  simp only [a, h2, b, c]

theorem Bld.grows {tb e b : Nat} {h h' : H} {o : Nat} {l : List UInt8} (a : Bld tb e b h o l) (g : Grows h h') : Bld tb e b h' o l := by
  obtain ⟨h1, h2, r, h3, h4⟩ := a
  refine ⟨h1, Nat.lt_of_lt_of_le h2 g.next, r, ?_, fun q hq => let ⟨a, b, c⟩ := h4 q hq; ⟨a, Nat.lt_of_lt_of_le b g.next, c⟩⟩
  unfold bldA at h3 ⊢
  rw [g.get o h2]
  obtain ⟨u, row, e1, e2, e3⟩ := bldA_row (show bldA tb e o h = some (l, r) from h3)
  rw [e1] at h3 ⊢
  cases r with
  | none =>
    obtain ⟨rfl, rfl⟩ := e3 rfl
    exact h3
  | some q =>
    obtain ⟨e4, rfl⟩ := e2 q rfl
    have : h'.get q = h.get q := g.get q (h4 q rfl).2.1
    simp only [this]
    exact h3

theorem wrote {tb e b : Nat} {h : H} {o : Nat} (l : List UInt8) (hb : b ≤ o) (ho : o < h.next) : Bld tb e b (wroteA tb e o l h) o l ∧ h.next ≤ (wroteA tb e o l h).next ∧ ∀ x, x < b → (wroteA tb e o l h).get x = h.get x := by
  unfold wroteA
  refine ⟨⟨hb, Nat.lt_succ_of_lt ho, some h.next, ?_, fun q hq => ?_⟩, Nat.le_succ _, fun x hx => ?_⟩
  · refine bldA_mk (u := true) ?_ ?_
    · rw [H.get_set, if_pos rfl]
    · rw [H.get_set, if_neg (by omega)]; exact H.get_new' _ _
  · simp only [Option.some.injEq] at hq
    subst hq
    exact ⟨by omega, Nat.lt_succ_self _, by omega⟩
  · rw [H.get_set, if_neg (by omega), H.get_new, if_neg (by omega)]

theorem Bld.write {tb e b : Nat} {h : H} {o : Nat} {l : List UInt8} (a : Bld tb e b h o l) (s : ByteArray) (hl : l.length + s.data.toList.length ≤ 140737488355328) :
    ∃ h', hWrite tb e [.pointer (some ⟨o, 0, none⟩), .string s] h = some (.tuple #[.int .i64 (Int.ofNat s.data.toList.length), .nilIface], h') ∧ Bld tb e b h' o (l ++ s.data.toList) ∧ h.next ≤ h'.next ∧ ∀ x, x < b → h'.get x = h.get x := by
  obtain ⟨h1, h2, r, h3, h4⟩ := a
  unfold hWrite
  simp only [h3, Nat.ble_eq_true_of_le hl]
  cases r with
  | none =>
    obtain ⟨u, row, e1, _, e3⟩ := bldA_row h3
    obtain ⟨_, rfl⟩ := e3 rfl
    cases hs : s.data.toList with
    | nil =>
      refine ⟨_, rfl, ⟨h1, h2, none, ?_, fun q hq => by simp at hq⟩, Nat.le_refl _, fun x hx => by rw [H.get_set, if_neg (by omega)]⟩
      unfold bldA
      rw [H.get_set, if_pos rfl]
      have : Nat.beq tb tb = true := Nat.beq_refl tb
      simp only [this, List.append_nil]
    | cons y m =>
      obtain ⟨w1, w2, w3⟩ := wrote (tb := tb) (e := e) (y :: m) h1 h2
      exact ⟨_, rfl, by simpa using w1, w2, w3⟩
  | some q =>
    obtain ⟨q1, q2, q3⟩ := h4 q rfl
    obtain ⟨w1, w2, w3⟩ := wrote (tb := tb) (e := e) (h := h.del q) (l ++ s.data.toList) h1 h2
    exact ⟨_, rfl, w1, w2, fun x hx => by rw [w3 x hx, H.get_del, if_neg (by omega)]⟩

theorem Bld.len {tb e b : Nat} {h : H} {o : Nat} {l : List UInt8} (a : Bld tb e b h o l) : hLen tb e [.pointer (some ⟨o, 0, none⟩)] h = some (.int .i64 (Int.ofNat l.length), h) := by
  obtain ⟨h1, h2, r, h3, h4⟩ := a
  unfold hLen
  simp only [h3]
theorem Bld.str {tb e b : Nat} {h : H} {o : Nat} {l : List UInt8} (a : Bld tb e b h o l) : hStr tb e [.pointer (some ⟨o, 0, none⟩)] h = some (.string (bsOf l), h) := by
  obtain ⟨h1, h2, r, h3, h4⟩ := a
  unfold hStr
  simp only [h3]
/-- Grow of a new builder -/
theorem grow_new {tb e b o : Nat} {h : H} (hb : b ≤ o) (ho : o < h.next) (hg : h.get o = some (.bvar tb false none)) (n : Nat) (hn : n ≤ 281474976710656) :
    ∃ h', hGrow tb e [.pointer (some ⟨o, 0, none⟩), .int .i64 (Int.ofNat n)] h = some (.tuple #[], h') ∧ Bld tb e b h' o [] ∧ h.next ≤ h'.next ∧ ∀ x, x < b → h'.get x = h.get x := by
  unfold hGrow
  have ht : Nat.beq tb tb = true := Nat.beq_refl tb
  cases n with
  | zero =>
    have h0 : Nat.ble 0 281474976710656 = true := rfl
    show ∃ h', (match Nat.ble 0 281474976710656, h.get o with
      | true, some (.bvar t false none) => match Nat.beq t tb with
        | true => some (Value.tuple #[], h.set o (.bvar tb true none))
        | false => none
      | _, _ => none) = some (.tuple #[], h') ∧ _
    simp only [h0, hg, ht]
    refine ⟨_, rfl, ⟨hb, ho, none, ?_, fun q hq => by simp at hq⟩, Nat.le_refl _, fun x hx => by rw [H.get_set, if_neg (by omega)]⟩
    unfold bldA
    rw [H.get_set, if_pos rfl]
    simp only [ht]
  | succ n =>
    obtain ⟨w1, w2, w3⟩ := wrote (tb := tb) (e := e) (h := h) [] hb ho
    refine ⟨_, ?_, w1, w2, w3⟩
    show (match Nat.ble (n + 1) 281474976710656, h.get o with
      | true, some (.bvar t false none) => match Nat.beq t tb with
        | true => some (Value.tuple #[], wroteA tb e o [] h)
        | false => none
      | _, _ => none) = _
    simp only [Nat.ble_eq_true_of_le hn, hg, ht]

/-! ### What the hooks are -/
theorem hook_write_eq {k tb e : Nat} (hk : k % 16 = 7) (h1 : k / 16 / 65536 = tb) (h2 : k / 16 % 65536 = e) (args : List Value) (h : H) : hook k args h = hWrite tb e args h := by
  rw [hook_gen2 hk (.inl ⟨by decide, by decide⟩)]
  unfold hGen
  rw [show Nat.mod k 16 = 7 from hk]
  simp only [show Nat.div (Nat.div k 16) 65536 = tb from h1, show Nat.mod (Nat.div k 16) 65536 = e from h2]
theorem hook_grow_eq {k tb e : Nat} (hk : k % 16 = 8) (h1 : k / 16 / 65536 = tb) (h2 : k / 16 % 65536 = e) (args : List Value) (h : H) : hook k args h = hGrow tb e args h := by
  rw [hook_gen2 hk (.inl ⟨by decide, by decide⟩)]
  unfold hGen
  rw [show Nat.mod k 16 = 8 from hk]
  simp only [show Nat.div (Nat.div k 16) 65536 = tb from h1, show Nat.mod (Nat.div k 16) 65536 = e from h2]
theorem hook_len_eq {k tb e : Nat} (hk : k % 16 = 9) (h1 : k / 16 / 65536 = tb) (h2 : k / 16 % 65536 = e) (args : List Value) (h : H) : hook k args h = hLen tb e args h := by
  rw [hook_gen2 hk (.inl ⟨by decide, by decide⟩)]
  unfold hGen
  rw [show Nat.mod k 16 = 9 from hk]
  simp only [show Nat.div (Nat.div k 16) 65536 = tb from h1, show Nat.mod (Nat.div k 16) 65536 = e from h2]
theorem hook_str_eq {k tb e : Nat} (hk : k % 16 = 11) (h1 : k / 16 / 65536 = tb) (h2 : k / 16 % 65536 = e) (args : List Value) (h : H) : hook k args h = hStr tb e args h := by
  rw [hook_gen2 hk (.inl ⟨by decide, by decide⟩)]
  unfold hGen
  rw [show Nat.mod k 16 = 11 from hk]
  simp only [show Nat.div (Nat.div k 16) 65536 = tb from h1, show Nat.mod (Nat.div k 16) 65536 = e from h2]
theorem hook_dec_eq {k o b : Nat} (hk : k % 16 = 4) (h1 : k / 16 / 65536 = o) (h2 : k / 16 % 65536 = b) (args : List Value) (h : H) : hook k args h = hDec o b args h := by
  rw [hook_gen2 hk (.inl ⟨by decide, by decide⟩)]
  unfold hGen
  rw [show Nat.mod k 16 = 4 from hk]
  simp only [show Nat.div (Nat.div k 16) 65536 = o from h1, show Nat.mod (Nat.div k 16) 65536 = b from h2]
theorem hook_itoa_eq {k o b : Nat} (hk : k % 16 = 15) (h1 : k / 16 / 65536 = o) (h2 : k / 16 % 65536 = b) (args : List Value) (h : H) : hook k args h = hItoa o b args h := by
  rw [hook_gen2 hk (.inl ⟨by decide, by decide⟩)]
  unfold hGen
  rw [show Nat.mod k 16 = 15 from hk]
  simp only [show Nat.div (Nat.div k 16) 65536 = o from h1, show Nat.mod (Nat.div k 16) 65536 = b from h2]

/-! ### A row behind a row -/
theorem appendA_none {E : Env} {t el sz by' : Nat} (hT : sliceT E t el sz by' = true) {b : Nat} {h : H} {v x : Value} {n : Nat} {cs : List Value} (hv : NewRow el b h v n sz cs) (hx : srcA h sz x = some (0, []))
    (hbd : n * (by' + 1) ≤ 16777216) : appendA E t v x h = some (v, h) := by
  unfold sliceT at hT
  split at hT
  case h_2 => simp at hT
  rename_i el' i hu hi
  split at hT
  case h_2 => simp at hT
  rename_i z hz
  simp only [Bool.and_eq_true, Nat.beq_eq, Nat.ble_eq] at hT
  obtain ⟨⟨⟨⟨⟨rfl, hs⟩, hp⟩, hzs⟩, hby⟩, h1⟩ := hT
  subst hs; subst hby
  obtain ⟨s1, hs1⟩ : ∃ s1, i.size = s1 + 1 := ⟨i.size - 1, by omega⟩
  have hb' : Nat.ble ((n + 0) * Nat.succ i.bytes) 16777216 = true := Nat.ble_eq_true_of_le hbd
  have hzs' : Nat.beq z.cells.size (s1 + 1) = true := by rw [hzs, hs1]; exact Nat.beq_refl _
  rw [hs1] at hx
  rcases hv with ⟨rfl, rfl, rfl⟩ | ⟨o, g1, g2, rfl, g3, g4⟩
  · unfold appendA
    simp only [hu, hi, hs1, hz, hx, hp, hzs', hb', List.all_nil]
  · unfold appendA
    rw [show i.size = s1 + 1 from hs1]
    simp only [hu, hi, hs1, hz, hx, hp, hzs', hb', List.all_nil]

/-- strings behind strings -/
theorem app_strs {E : Env} {t el : Nat} (hT : sliceT E t el 1 16 = true) {h0 h : H} {b : Nat} {v x : Value} {l m : List (List UInt8)} (hv : NewStrs el h0.next h v l) (hg : Grows h0 h) (hx : NewStrs el b h x m) (hb : l.length + m.length ≤ 900000) :
    ∃ v' h2, appendA E t v x h = some (v', h2) ∧ NewStrs el h0.next h2 v' (l ++ m) ∧ Grows h0 h2 := by
  cases m with
  | nil =>
    have hsrc : srcA h 1 x = some (0, []) := by
      rcases hx with ⟨rfl, _⟩ | ⟨o, _, _, rfl, h4, h5⟩
      · rfl
      · show (match rd h o 0 (0 * 1) with
          | some l => some (0, l)
          | none => none) = _
        unfold rd
        rw [h4]
        simp [seg]
    exact ⟨v, h, appendA_none hT hv hsrc (by simp only [List.length_nil] at hb; omega), by simpa using hv, hg⟩
  | cons y ys =>
    have hsrc : srcA h 1 x = some (ys.length + 1, strC (y :: ys)) := by
      rcases hx with ⟨_, h1, _⟩ | ⟨o, _, _, rfl, h4, h5⟩
      · simp at h1
      · show (match rd h o 0 ((y :: ys).length * 1) with
          | some l => some ((y :: ys).length, l)
          | none => none) = _
        unfold rd
        rw [h4]
        simp only
        rw [seg_all (strC (y :: ys)) (by rw [h5])]
        rfl
    obtain ⟨v', h2, e1, e2, e3, e4⟩ := appendA_new hT hv hg.next hsrc (strC_cellv _) (by simp [strC_length]) (by simp only [List.length_cons] at hb; omega)
    refine ⟨v', h2, e1, ?_, ?_⟩
    · have : strC l ++ strC (y :: ys) = strC (l ++ y :: ys) := (strC_append _ _).symm
      rw [this] at e2
      simpa [NewStrs] using e2
    · refine ⟨Nat.le_trans hg.next e3, fun o ho => ?_⟩
      rw [e4 o (Nat.lt_of_lt_of_le ho hg.next) ?_, hg.get o ho]
      intro m s e
      rcases hv with ⟨rfl, _⟩ | ⟨o', h1, _, rfl, _⟩
      · simp at e
      · simp only [Value.slice.injEq, Option.some.injEq, Addr.mk.injEq] at e
        omega

/-- a slice whose row the machine knows to be of strings -/
theorem NewStrs.view {t b : Nat} {h : H} {v : Value} {l : List (List UInt8)} (a : NewStrs t b h v l) : RView h v (strC l) := NewRow.view a
end Go.Eng
