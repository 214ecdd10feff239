/-
  Reasoning about the abstract machine: regions that draw their order, by a plan that is computed once. Reasoning about the abstract machine: slices of cells that are looked at. Reasoning about the abstract machine: rows beside other objects. Pieces and words: how long they are; rows of elements of more than one cell. Pieces of lists of cells by their length. Numbers as digits of base 10000, the lowest first: plain facts.
-/
import Derived.Test.YtkoccbggjfbgaaaGreatDoorK07
set_option linter.all false

section
set_option linter.unusedSimpArgs false
namespace Go.Eng
variable {E : Env}

/-- the steps of a region in the machine's own order: which operation, what lies surely ahead of it, does it stay in its place -/
noncomputable def walkP (E : Env) (all : List Oper) (bs : List Nat) : Nat → List Nat → Option (List (Nat × Nat × Bool))
  | done, [] => match Nat.beq (Nat.succ done) (Nat.pow 2 all.length) with
    | true => some []
    | false => none
  | done, i :: r => match all[i]?, bs[i]? with
    | some o, some b => match Nat.beq (Nat.land b done) b, Nat.testBit done i with
      | true, false => match anch E o with
        | true => match Nat.beq (Nat.land done b) done with
          | true => match walkP E all bs (Nat.lor done (Nat.pow 2 i)) r with
            | some l => some ((i, b, true) :: l)
            | none => none
          | false => none
        | false => match walkP E all bs (Nat.lor done (Nat.pow 2 i)) r with
          | some l => some ((i, b, false) :: l)
          | none => none
      | _, _ => none
    | _, _ => none

noncomputable def planP (E : Env) (all : List Oper) : Option (List (Nat × Nat × Bool)) :=
  match okR E all (preds [] all) all 0 with
  | true => walkP E all (preds [] all) 0 (ordA (preds [] all) (splitE E all 0).1 (splitE E all 0).2)
  | false => none

noncomputable def goP (E : Env) (call : CallF) (all : List Oper) : List (Nat × Nat × Bool) → Tmps → H → List (Nat × H) → Option (Tmps × H)
  | [], a, h, _ => some (a, h)
  | (i, b, an) :: r, a, h, hist => match all[i]? with
    | some o => match an with
      | true => match oneA E call all o a h with
        | some (a, h') => goP E call all r a h' ((i, h') :: hist)
        | none => none
      | false => match stableD E all o b ⟨0, a, h, hist⟩ with
        | true => match oneA E call all o a h with
          | some (a, h') => goP E call all r a h' hist
          | none => none
        | false => none
    | none => none

theorem go_of_plan {call : CallF} {all : List Oper} {bs : List Nat} : ∀ {is : List Nat} {st : List (Nat × Nat × Bool)} {done : Nat} {a : Tmps} {h : H} {hist : List (Nat × H)} {r : Tmps × H},
    walkP E all bs done is = some st → goP E call all st a h hist = some r → ∃ s, goD E call all bs is ⟨done, a, h, hist⟩ = some s ∧ (s.a, s.h) = r ∧ Nat.beq (Nat.succ s.done) (Nat.pow 2 all.length) = true
  | [], st, done, a, h, hist, r, hw, hg => by
    unfold walkP at hw
    split at hw
    · rename_i hd
      simp only [Option.some.injEq] at hw; subst hw
      simp only [goP, Option.some.injEq] at hg; subst hg
      exact ⟨_, rfl, rfl, hd⟩
    · simp at hw
  | i :: is, st, done, a, h, hist, r, hw, hg => by
    unfold walkP at hw
    split at hw
    case h_2 => simp at hw
    rename_i o b ho hb
    split at hw
    case h_2 => simp at hw
    rename_i h1 h2
    split at hw
    · rename_i han
      split at hw
      case h_2 => simp at hw
      rename_i h3
      split at hw
      case h_2 => simp at hw
      rename_i l hl
      simp only [Option.some.injEq] at hw; subst hw
      simp only [goP, ho] at hg
      split at hg
      case h_2 => simp at hg
      rename_i a' h' hone
      obtain ⟨s, e1, e2, e3⟩ := go_of_plan hl hg
      refine ⟨s, ?_, e2, e3⟩
      unfold goD
      have : stepD E call all bs i ⟨done, a, h, hist⟩ = some ⟨Nat.lor done (Nat.pow 2 i), a', h', (i, h') :: hist⟩ := by
        unfold stepD
        simp only [ho, hb, h1, h2, han, h3, hone]
      rw [this]
      exact e1
    · rename_i han
      split at hw
      case h_2 => simp at hw
      rename_i l hl
      simp only [Option.some.injEq] at hw; subst hw
      simp only [goP, ho] at hg
      split at hg
      case h_2 => simp at hg
      rename_i hst
      split at hg
      case h_2 => simp at hg
      rename_i a' h' hone
      obtain ⟨s, e1, e2, e3⟩ := go_of_plan hl hg
      refine ⟨s, ?_, e2, e3⟩
      unfold goD
      have hst' : stableD E all o b ⟨done, a, h, hist⟩ = true := hst
      have : stepD E call all bs i ⟨done, a, h, hist⟩ = some ⟨Nat.lor done (Nat.pow 2 i), a', h', hist⟩ := by
        unfold stepD
        simp only [ho, hb, h1, h2, han, hst', hone]
      rw [this]
      exact e1

theorem regD_plan {call : CallF} {all : List Oper} {st : List (Nat × Nat × Bool)} {a : Tmps} {h : H} {r : Tmps × H} (hp : planP E all = some st) (hg : goP E call all st a h [(all.length, h)] = some r) : regD E call all a h = some r := by
  unfold planP at hp
  split at hp
  case h_2 => simp at hp
  rename_i hok
  obtain ⟨s, e1, e2, e3⟩ := go_of_plan hp hg
  unfold regD
  split
  rename_i hes
  rw [hes] at e1
  simp only [hok, e1]
  have e3' : Nat.beq (Nat.succ s.done) (Nat.pow 2 all.length) = true := e3
  rw [e3', ← e2]

/-- a region that draws, by its plan -/
theorem W.plan {st : List (Nat × Nat × Bool)} {i : Nat} {os : Array Oper} {a : Tmps} {h : H} {Q : X → Tmps → H → Prop} (hp : planP E os.toList = some st)
    (hw : regW (goP E (callS E) os.toList st a h [(os.toList.length, h)]) Q) : W E (.region i os true) a h Q := by
  unfold regW at hw
  split at hw
  · rename_i a' h' he
    exact W.region (show regR E true (callS E) os.toList a h = some (a', h') from regD_plan hp he) hw
  · exact hw.elim

theorem stab_cons (b o off n : Nat) (l : List Value) (i : Nat) (h : H) (r : List (Nat × H)) : stab b o off n l ((i, h) :: r) = match rd h o off n with
    | some l' => match sameL l l' with
      | true => (Nat.testBit b i || stab b o off n l r)
      | false => false
    | none => false := by
  conv => lhs; unfold stab
  cases rd h o off n with
  | none => rfl
  | some l' => cases h1 : sameL l l' <;> cases h2 : Nat.testBit b i <;> simp [h1, h2]
theorem stab_nil (b o off n : Nat) (l : List Value) : stab b o off n l [] = true := rfl

/-- a value of one cell that is like itself -/
def cell1 : Value → Bool
  | .bool _ => true
  | .int _ _ => true
  | .string _ => true
  | .pointer none => true
  | .pointer (some ⟨_, _, none⟩) => true
  | .slice _ _ _ => true
  | .nilIface => true
  | .nilFunc => true
  | _ => false

theorem all1_nil : ([] : List Value).all cell1 = true := rfl
theorem all1_cons (x : Value) (l : List Value) : (x :: l).all cell1 = (cell1 x && l.all cell1) := rfl
theorem sameV_refl : ∀ {v : Value}, cell1 v = true → sameV v v = true := by
  intro v h
  unfold cell1 at h
  split at h
  case h_6 p n s =>
    have : sameA p p = true := by
      unfold sameA
      rcases p with _ | ⟨o, f, _ | s⟩ <;> simp
    simp [sameV, this]
  all_goals simp_all [sameV, sameA]
theorem sameL_refl : ∀ {l : List Value}, l.all cell1 = true → sameL l l = true
  | [], _ => rfl
  | x :: l, h => by
    simp only [List.all_cons, Bool.and_eq_true] at h
    simp [sameL, sameV_refl h.1, sameL_refl h.2]

end Go.Eng
end

section
set_option linter.unusedSimpArgs false
namespace Go.Eng
variable {E : Env}

/-- a slice of elements of one cell: what they hold -/
def View (t : TypeId) (h : H) (v : Value) (cs : List Value) : Prop :=
  ∃ p s, v = .slice p cs.length s ∧ (cs ≠ [] → s = 1 ∧ ∃ o off all, p = some ⟨o, off, none⟩ ∧ o < h.next ∧ h.get o = some (.cells all t) ∧ ∀ i x, cs[i]? = some x → all[off + i]? = some x)

theorem View.grows {t : TypeId} {h h' : H} {v : Value} {cs : List Value} (a : View t h v cs) (g : Grows h h') : View t h' v cs := by
  obtain ⟨p, s, e, k⟩ := a
  refine ⟨p, s, e, fun hne => ?_⟩
  obtain ⟨hs, o, off, all, e1, e2, e3, e4⟩ := k hne
  exact ⟨hs, o, off, all, e1, Nat.lt_of_lt_of_le e2 g.next, (g.get o e2).trans e3, e4⟩

theorem IsRow.view {t : TypeId} {h : H} {v : Value} {n : Nat} {cs : List Value} (a : IsRow t h v n 1 cs) : View t h v cs := by
  rcases a with ⟨rfl, rfl, rfl⟩ | ⟨o, h1, rfl, h2, h3⟩
  · exact ⟨none, 0, rfl, fun h => absurd rfl h⟩
  · exact ⟨some ⟨o, 0, none⟩, 1, by rw [h3, Nat.mul_one], fun _ => ⟨rfl, o, 0, cs, rfl, h1, h2, fun i x hx => by rw [Nat.zero_add]; exact hx⟩⟩

theorem seg_one {α : Type} : ∀ (l : List α) (k : Nat) (x : α), l[k]? = some x → seg l k 1 = some [x]
  | [], k, x, h => by simp at h
  | y :: r, 0, x, h => by simp at h; subst h; simp [seg]
  | y :: r, k + 1, x, h => by simpa [seg] using seg_one r k x (by simpa using h)

/-- an element of a slice that is looked at: the slice's own form, what is loaded -/
theorem View.at {t : TypeId} {h : H} {v : Value} {cs : List Value} (a : View t h v cs) {i : Nat} {x : Value} (hx : cs[i]? = some x) :
    ∃ o off, v = .slice (some ⟨o, off, none⟩) cs.length 1 ∧ i < cs.length ∧ rd h o (off + i) 1 = some [x] := by
  obtain ⟨p, s, e, k⟩ := a
  have hne : cs ≠ [] := by intro e; subst e; simp at hx
  obtain ⟨hs, o, off, all, e1, e2, e3, e4⟩ := k hne
  subst hs; subst e1
  refine ⟨o, off, e, (List.getElem?_eq_some_iff.1 hx).1, ?_⟩
  unfold rd
  rw [e3]
  exact seg_one _ _ _ (e4 i x hx)

theorem View.len {t : TypeId} {h : H} {v : Value} {cs : List Value} (a : View t h v cs) : ∃ p s, v = .slice p cs.length s := by
  obtain ⟨p, s, e, _⟩ := a
  exact ⟨p, s, e⟩

/-- all but the first -/
theorem View.tail {t : TypeId} {h : H} {v x : Value} {cs : List Value} (a : View t h v (x :: cs)) :
    ∃ o off, v = .slice (some ⟨o, off, none⟩) (cs.length + 1) 1 ∧ View t h (.slice (some ⟨o, off + 1 * 1, none⟩) (cs.length + 1 - 1) 1) cs := by
  obtain ⟨p, s, e, k⟩ := a
  obtain ⟨hs, o, off, all, e1, e2, e3, e4⟩ := k (by simp)
  subst hs; subst e1
  refine ⟨o, off, e, some ⟨o, off + 1, none⟩, 1, rfl, fun _ => ⟨rfl, o, off + 1, all, rfl, e2, e3, fun i y hy => ?_⟩⟩
  have := e4 (i + 1) y (by simpa using hy)
  rw [← this]
  congr 1
  omega

abbrev ViewS (t : TypeId) (h : H) (v : Value) (l : List (List UInt8)) : Prop := View t h v (strC l)

theorem strC_at {l : List (List UInt8)} {i : Nat} {w : List UInt8} (h : l[i]? = some w) : (strC l)[i]? = some (.string (bsOf w)) := by
  unfold strC
  rw [List.getElem?_map, h]; rfl
theorem strC_cons (w : List UInt8) (l : List (List UInt8)) : strC (w :: l) = .string (bsOf w) :: strC l := rfl

theorem ViewS.uncons {t : TypeId} {h : H} {v : Value} {w : List UInt8} {ws : List (List UInt8)} (a : ViewS t h v (w :: ws)) :
    ∃ o off, v = .slice (some ⟨o, off, none⟩) (ws.length + 1) 1 ∧ ViewS t h (.slice (some ⟨o, off + 1, none⟩) ws.length 1) ws ∧ rd h o off 1 = some [.string (bsOf w)] := by
  obtain ⟨o, off, e1, e2⟩ := View.tail (x := .string (bsOf w)) (cs := strC ws) a
  obtain ⟨o', off', e3, _, e4⟩ := View.at (i := 0) (x := .string (bsOf w)) (cs := strC (w :: ws)) a rfl
  rw [e1] at e3
  simp only [Value.slice.injEq, Option.some.injEq, Addr.mk.injEq, and_true] at e3
  obtain ⟨⟨rfl, rfl⟩, _⟩ := e3
  rw [strC_length] at e1 e2
  exact ⟨o, off, e1, e2, e4⟩

/-- cells of numbers -/
def u64C (l : List Nat) : List Value := l.map fun n => .int .u64 (Int.ofNat n)
def u8C (l : List Nat) : List Value := l.map fun n => .int .u8 (Int.ofNat n)
theorem u64C_append (a b : List Nat) : u64C (a ++ b) = u64C a ++ u64C b := by simp [u64C]
theorem u8C_append (a b : List Nat) : u8C (a ++ b) = u8C a ++ u8C b := by simp [u8C]
theorem u64C_length (a : List Nat) : (u64C a).length = a.length := by simp [u64C]
theorem u8C_length (a : List Nat) : (u8C a).length = a.length := by simp [u8C]

/-- one cell more behind a row that is of now -/
theorem app_one {t el by' : Nat} (hT : sliceT E t el 1 by' = true) {h0 h : H} {v : Value} {cs : List Value} (hv : NewRow el h0.next h v cs.length 1 cs) (hg : Grows h0 h) (x : Value) (hx : cellv x = true) (hb : (cs.length + 1) * (by' + 1) ≤ 16777216) :
    ∃ v' h2, appendA E t v (.slice (some ⟨h.next, 0, none⟩) 1 1) (h.new (.cells [x] el)) = some (v', h2) ∧ NewRow el h0.next h2 v' (cs ++ [x]).length 1 (cs ++ [x]) ∧ Grows h0 h2 ∧
      (∀ o, o < h.next → (∀ m s, v ≠ .slice (some ⟨o, 0, none⟩) m s) → h2.get o = h.get o) ∧ h.next ≤ h2.next := by
  have hg2 : Grows h0 (h.new (.cells [x] el)) := hg.new _
  have hv2 : NewRow el h0.next (h.new (.cells [x] el)) v cs.length 1 cs := hv.grows ((Grows.refl h).new _)
  have hsrc : srcA (h.new (.cells [x] el)) 1 (.slice (some ⟨h.next, 0, none⟩) 1 1) = some (0 + 1, [x]) := by
    simp [srcA, rd, H.get_new, seg]
  obtain ⟨v', h2, e1, e2, e3, e4⟩ := appendA_new hT hv2 hg2.next hsrc (by simp [hx]) (by simp) (by omega)
  refine ⟨v', h2, e1, ?_, ⟨Nat.le_trans hg2.next e3, fun o ho => ?_⟩, ?_, Nat.le_trans (Nat.le_succ _) e3⟩
  · simpa using e2
  · rw [e4 o (Nat.lt_of_lt_of_le ho hg2.next) ?_, hg2.get o ho]
    intro m s e
    rcases hv2 with ⟨rfl, _⟩ | ⟨o', h1, _, rfl, _⟩
    · simp at e
    · simp only [Value.slice.injEq, Option.some.injEq, Addr.mk.injEq] at e
      omega
  · intro o ho hne
    rw [e4 o (Nat.lt_succ_of_lt ho) hne, H.get_new, if_neg (by omega)]

theorem rd_get {h : H} {o off n : Nat} {cs : List Value} {t : TypeId} {l : List Value} (hg : h.get o = some (.cells cs t)) (hs : seg cs off n = some l) : rd h o off n = some l := by
  unfold rd; rw [hg]; exact hs
theorem rd_grows {h h' : H} {o off n : Nat} {l : List Value} (g : Grows h h') (ho : o < h.next) (hr : rd h o off n = some l) : rd h' o off n = some l := by
  unfold rd at hr ⊢; rw [g.get o ho]; exact hr

/-- where a word stands in a list -/
def fidx (w : List UInt8) : List (List UInt8) → Option Nat
  | [] => none
  | x :: r => if w = x then some 0 else (fidx w r).map (· + 1)
def idxV : Option Nat → Value
  | some i => .int .i64 (Int.ofNat i)
  | none => .int .i64 (-1)
theorem fidx_lt {w : List UInt8} : ∀ {l : List (List UInt8)} {i : Nat}, fidx w l = some i → l[i]? = some w
  | [], i, h => by simp [fidx] at h
  | x :: r, i, h => by
    unfold fidx at h
    split at h
    · rename_i e
      simp only [Option.some.injEq] at h
      subst h; subst e; rfl
    · obtain ⟨j, hj, rfl⟩ := Option.map_eq_some_iff.1 h
      simpa using fidx_lt hj
theorem fidx_hit {w : List UInt8} {l : List (List UInt8)} {i : Nat} (hi : i < l.length) (h : w = l[i]) (hp : fidx w l = (fidx w (l.drop i)).map (· + i)) : fidx w l = some i := by
  rw [hp, List.drop_eq_getElem_cons hi, fidx, if_pos h]; simp
theorem fidx_miss {w : List UInt8} {l : List (List UInt8)} {i : Nat} (hi : i < l.length) (h : ¬ w = l[i]) (hp : fidx w l = (fidx w (l.drop i)).map (· + i)) : fidx w l = (fidx w (l.drop (i + 1))).map (· + (i + 1)) := by
  rw [hp, List.drop_eq_getElem_cons hi, fidx, if_neg h, Option.map_map]
  congr 1
  funext x
  simp; omega
theorem fidx_end {w : List UInt8} {l : List (List UInt8)} {i : Nat} (hi : l.length ≤ i) (hp : fidx w l = (fidx w (l.drop i)).map (· + i)) : fidx w l = none := by
  rw [hp, List.drop_of_length_le hi]; rfl
theorem fidx_start (w : List UInt8) (l : List (List UInt8)) : fidx w l = (fidx w (l.drop 0)).map (· + 0) := by simp

end Go.Eng
end

section
set_option linter.unusedSimpArgs false
namespace Go.Eng
variable {E : Env}

/-- is an object no row of elements of a type? -/
def notRow (t : TypeId) (x : Option AObj) : Prop := ∀ cs, x ≠ some (.cells cs t)

theorem NewRow.keep {t : TypeId} {b : Nat} {h h' : H} {v : Value} {n sz : Nat} {cs : List Value} (a : NewRow t b h v n sz cs) (hn : h.next ≤ h'.next)
    (hk : ∀ o cs', o < h.next → h.get o = some (.cells cs' t) → h'.get o = h.get o) : NewRow t b h' v n sz cs := by
  rcases a with a | ⟨o, h1, h2, h3, h4, h5⟩
  · exact .inl a
  · exact .inr ⟨o, h1, Nat.lt_of_lt_of_le h2 hn, h3, (hk o _ h2 h4).trans h4, h5⟩

theorem NewRow.set_other {t t' : TypeId} {b : Nat} {h : H} {v : Value} {n sz : Nat} {cs cs' : List Value} (a : NewRow t b h v n sz cs) {o : Nat} (ho : h.get o = some (.cells cs' t')) (ht : t' ≠ t) (x : AObj) : NewRow t b (h.set o x) v n sz cs :=
  a.keep (Nat.le_refl _) fun k cs'' _ hk => by
    rw [H.get_set, if_neg]
    intro e
    subst e
    rw [ho] at hk
    simp only [Option.some.injEq, AObj.cells.injEq] at hk
    exact ht hk.2

/-- one cell more behind a row -/
theorem app_row {t el by' : Nat} (hT : sliceT E t el 1 by' = true) {b : Nat} {h : H} {v : Value} {cs : List Value} (hv : NewRow el b h v cs.length 1 cs) (hb : b ≤ h.next) (x : Value) (hx : cellv x = true) (hbd : (cs.length + 1) * (by' + 1) ≤ 16777216) :
    ∃ v' h2, appendA E t v (.slice (some ⟨h.next, 0, none⟩) 1 1) (h.new (.cells [x] el)) = some (v', h2) ∧ NewRow el b h2 v' (cs ++ [x]).length 1 (cs ++ [x]) ∧ h.next ≤ h2.next ∧
      (∀ o, o < b → h2.get o = h.get o) ∧ (∀ o, o < h.next → notRow el (h.get o) → h2.get o = h.get o) := by
  have hv2 : NewRow el b (h.new (.cells [x] el)) v cs.length 1 cs := hv.grows ((Grows.refl h).new _)
  have hsrc : srcA (h.new (.cells [x] el)) 1 (.slice (some ⟨h.next, 0, none⟩) 1 1) = some (0 + 1, [x]) := by
    simp [srcA, rd, H.get_new, seg]
  obtain ⟨v', h2, e1, e2, e3, e4⟩ := appendA_new hT hv2 (Nat.le_trans hb (Nat.le_succ _)) hsrc (by simp [hx]) (by simp) (by omega)
  have hold : ∀ o, o < h.next → (h.new (.cells [x] el)).get o = h.get o := fun o ho => by rw [H.get_new, if_neg (by omega)]
  refine ⟨v', h2, e1, by simpa using e2, Nat.le_trans (Nat.le_succ _) e3, fun o ho => ?_, fun o ho hr => ?_⟩
  · rw [e4 o (Nat.lt_succ_of_lt (Nat.lt_of_lt_of_le ho hb)) ?_, hold o (Nat.lt_of_lt_of_le ho hb)]
    intro m s e
    rcases hv with ⟨rfl, _⟩ | ⟨o', h1, _, rfl, _⟩
    · simp at e
    · simp only [Value.slice.injEq, Option.some.injEq, Addr.mk.injEq] at e
      omega
  · rw [e4 o (Nat.lt_succ_of_lt ho) ?_, hold o ho]
    intro m s e
    rcases hv with ⟨rfl, _⟩ | ⟨o', h1, _, rfl, h4, _⟩
    · simp at e
    · simp only [Value.slice.injEq, Option.some.injEq, Addr.mk.injEq, and_true] at e
      obtain ⟨rfl, _⟩ := e
      exact hr _ h4

theorem wrap8 {n : Nat} (h : n < 256) : IntKind.wrap .u8 (Int.ofNat n) = Int.ofNat n := by
  unfold IntKind.wrap; simp [IntKind.bits, IntKind.signed]; omega
theorem add8 {i j : Nat} (h : i + j < 256) : IntKind.wrap .u8 (Int.ofNat i + Int.ofNat j) = Int.ofNat (i + j) := by
  rw [← wrap8 h]; rfl
theorem sub64i {i j : Nat} (h : j ≤ i) (hi : i ≤ 9223372036854775807) : IntKind.wrap .i64 (Int.ofNat i - Int.ofNat j) = Int.ofNat (i - j) := by
  have : (Int.ofNat i - Int.ofNat j) = Int.ofNat (i - j) := by
    show (i : Int) - (j : Int) = ((i - j : Nat) : Int)
    omega
  rw [this]; exact wrapN (by omega)

theorem NewRow.form {t : TypeId} {b : Nat} {h : H} {v : Value} {n sz : Nat} {cs : List Value} (a : NewRow t b h v n sz cs) : ∃ p s, v = .slice p n s := by
  rcases a with ⟨rfl, rfl, _⟩ | ⟨o, _, _, rfl, _⟩
  · exact ⟨_, _, rfl⟩
  · exact ⟨_, _, rfl⟩

theorem NewRow.weaken {t : TypeId} {b b' : Nat} (hb : b' ≤ b) {h : H} {v : Value} {n sz : Nat} {cs : List Value} (a : NewRow t b h v n sz cs) : NewRow t b' h v n sz cs := by
  rcases a with a | ⟨o, h1, h2⟩
  · exact .inl a
  · exact .inr ⟨o, Nat.le_trans hb h1, h2⟩
theorem tb63_3 : Nat.testBit 63 3 = true := rfl
theorem tb7_3 : Nat.testBit 7 3 = false := rfl

end Go.Eng
end

section
set_option linter.unusedSimpArgs false
namespace Go.Eng
variable {E : Env}

theorem pieces_le (c : UInt8) : ∀ (l : List UInt8), (piecesL c l).length ≤ l.length + 1 ∧ ∀ p ∈ piecesL c l, p.length ≤ l.length
  | [] => by simp [piecesL]
  | x :: r => by
    obtain ⟨h1, h2⟩ := pieces_le c r
    by_cases h : x = c
    · subst h
      rw [piecesL_eq]
      refine ⟨by simp; omega, fun p hp => ?_⟩
      rcases List.mem_cons.1 hp with rfl | hp
      · simp
      · have := h2 p hp; simp; omega
    · rw [piecesL_ne h]
      cases hp : piecesL c r with
      | nil => exact absurd hp (piecesL_ne_nil c r)
      | cons q qs =>
        rw [hp] at h1 h2
        refine ⟨by simp [consHd] at h1 ⊢; omega, fun p hm => ?_⟩
        simp only [consHd, List.mem_cons] at hm
        rcases hm with rfl | hm
        · have := h2 q (by simp); simp; omega
        · have := h2 p (by simp [hm]); simp; omega

theorem words_le (l : List UInt8) : (wordsL l).length ≤ l.length ∧ ∀ w ∈ wordsL l, w.length ≤ l.length := by
  have key : ∀ l : List UInt8, ((piecesL 32 l).filter ne0).length ≤ l.length ∧ (∀ p ps, piecesL 32 l = p :: ps → (ps.filter ne0).length + p.length ≤ l.length) := by
    intro l
    induction l with
    | nil => simp [piecesL, ne0]
    | cons x r ih =>
      obtain ⟨h1, h2⟩ := ih
      by_cases h : x = 32
      · subst h
        rw [piecesL_eq]
        refine ⟨by simp [ne0]; omega, fun p ps e => ?_⟩
        simp only [List.cons.injEq] at e
        obtain ⟨rfl, rfl⟩ := e
        simp; omega
      · rw [piecesL_ne h]
        cases hp : piecesL 32 r with
        | nil => exact absurd hp (piecesL_ne_nil 32 r)
        | cons q qs =>
          have h3 := h2 q qs hp
          refine ⟨?_, fun p ps e => ?_⟩
          · have e1 : (consHd x (q :: qs)).filter ne0 = (x :: q) :: qs.filter ne0 := List.filter_cons_of_pos rfl
            rw [e1]; simp; omega
          · simp only [consHd, List.cons.injEq] at e
            obtain ⟨rfl, rfl⟩ := e
            simp; omega
  refine ⟨(key l).1, fun w hw => ?_⟩
  unfold wordsL at hw
  rw [List.mem_filter] at hw
  exact (pieces_le 32 l).2 w hw.1

/-- one element more, of so many cells, behind a row -/
theorem app_elem {t el sz by' : Nat} (hT : sliceT E t el sz by' = true) {b : Nat} {h : H} {v : Value} {n : Nat} {cs new : List Value} (hv : NewRow el b h v n sz cs) (hb : b ≤ h.next) (hnew : new.all cellv = true) (hlen : new.length = sz) (hbd : (n + 1) * (by' + 1) ≤ 16777216) :
    ∃ v' h2, appendA E t v (.slice (some ⟨h.next, 0, none⟩) 1 sz) (h.new (.cells new el)) = some (v', h2) ∧ NewRow el b h2 v' (n + 1) sz (cs ++ new) ∧ h.next ≤ h2.next ∧
      (∀ o, o < b → h2.get o = h.get o) ∧ (∀ o, o < h.next → notRow el (h.get o) → h2.get o = h.get o) := by
  have hv2 : NewRow el b (h.new (.cells new el)) v n sz cs := hv.grows ((Grows.refl h).new _)
  have hsrc : srcA (h.new (.cells new el)) sz (.slice (some ⟨h.next, 0, none⟩) 1 sz) = some (0 + 1, new) := by
    simp [srcA, rd, H.get_new, seg_all new (show sz = new.length from hlen.symm)]
  obtain ⟨v', h2, e1, e2, e3, e4⟩ := appendA_new hT hv2 (Nat.le_trans hb (Nat.le_succ _)) hsrc hnew (by rw [hlen]; simp) (by omega)
  have hold : ∀ o, o < h.next → (h.new (.cells new el)).get o = h.get o := fun o ho => by rw [H.get_new, if_neg (by omega)]
  refine ⟨v', h2, e1, by simpa using e2, Nat.le_trans (Nat.le_succ _) e3, fun o ho => ?_, fun o ho hr => ?_⟩
  · rw [e4 o (Nat.lt_succ_of_lt (Nat.lt_of_lt_of_le ho hb)) ?_, hold o (Nat.lt_of_lt_of_le ho hb)]
    intro m s e
    rcases hv with ⟨rfl, _⟩ | ⟨o', h1, _, rfl, _⟩
    · simp at e
    · simp only [Value.slice.injEq, Option.some.injEq, Addr.mk.injEq] at e
      omega
  · rw [e4 o (Nat.lt_succ_of_lt ho) ?_, hold o ho]
    intro m s e
    rcases hv with ⟨rfl, _⟩ | ⟨o', h1, _, rfl, h4, _⟩
    · simp at e
    · simp only [Value.slice.injEq, Option.some.injEq, Addr.mk.injEq, and_true] at e
      obtain ⟨rfl, _⟩ := e
      exact hr _ h4

end Go.Eng
end

section
set_option linter.unusedSimpArgs false
namespace Go.Eng
variable {E : Env}

theorem seg_eq {α : Type} : ∀ (l : List α) (o n : Nat), o + n ≤ l.length → seg l o n = some ((l.drop o).take n)
  | l, 0, 0, _ => by cases l <;> simp [seg]
  | [], o + 1, n, h => by simp at h
  | [], 0, n + 1, h => by simp at h
  | x :: xs, 0, n + 1, h => by
    have := seg_eq xs 0 n (by simp at h ⊢; omega)
    simp [seg, this]
  | x :: xs, o + 1, n, h => by
    have := seg_eq xs o n (by simp at h; omega)
    simp [seg, this]

theorem seg_left {α : Type} {a b : List α} {o n : Nat} {r : List α} (h : seg a o n = some r) : seg (a ++ b) o n = some r := by
  obtain ⟨h1, h2⟩ := seg_spec h
  rw [seg_eq _ _ _ (by simp; omega), h1]
  congr 1
  rw [List.drop_append_of_le_length (by omega), List.take_append_of_le_length (by simp; omega)]
theorem seg_right {α : Type} (a b : List α) : seg (a ++ b) a.length b.length = some b := by
  rw [seg_eq _ _ _ (by simp)]
  simp

end Go.Eng
end

section
set_option linter.unusedSimpArgs false
namespace Go.Eng
variable {E : Env}

def bval : List Nat → Nat
  | [] => 0
  | d :: r => d + 10000 * bval r
def small (ds : List Nat) : Prop := ∀ d ∈ ds, d < 10000
/-- no nought ahead of the highest digit -/
def lastNZ (ds : List Nat) : Prop := ∀ i, i + 1 = ds.length → ds.getD i 0 ≠ 0
def intC (l : List Nat) : List Value := l.map fun n => .int .i64 (Int.ofNat n)
theorem intC_length (l : List Nat) : (intC l).length = l.length := by simp [intC]
theorem intC_append (a b : List Nat) : intC (a ++ b) = intC a ++ intC b := by simp [intC]
theorem intC_at {l : List Nat} {i : Nat} (h : i < l.length) : (intC l)[i]? = some (.int .i64 (Int.ofNat (l.getD i 0))) := by
  unfold intC; rw [List.getElem?_map, List.getElem?_eq_getElem h, List.getD_eq_getElem?_getD, List.getElem?_eq_getElem h]; rfl
theorem getD_small {ds : List Nat} (h : small ds) (i : Nat) : ds.getD i 0 < 10000 := by
  rw [List.getD_eq_getElem?_getD]
  cases hx : ds[i]? with
  | none => simp
  | some x => simpa using h x (List.mem_of_getElem? hx)
theorem getD_out {ds : List Nat} {i : Nat} (h : ds.length ≤ i) : ds.getD i 0 = 0 := by
  rw [List.getD_eq_getElem?_getD, List.getElem?_eq_none h]; rfl

theorem bval_append : ∀ (a b : List Nat), bval (a ++ b) = bval a + 10000 ^ a.length * bval b
  | [], b => by simp [bval]
  | x :: r, b => by
    have := bval_append r b
    simp only [List.cons_append, bval, this, List.length_cons, Nat.pow_succ]
    rw [Nat.mul_add, Nat.mul_comm (10000 ^ r.length) 10000, Nat.mul_assoc]
    omega
theorem bval_drop (a : List Nat) (i : Nat) : bval (a.drop i) = a.getD i 0 + 10000 * bval (a.drop (i + 1)) := by
  by_cases h : i < a.length
  · rw [List.drop_eq_getElem_cons h, bval, List.getD_eq_getElem?_getD, List.getElem?_eq_getElem h]; rfl
  · rw [List.drop_of_length_le (by omega), List.drop_of_length_le (by omega), getD_out (by omega)]; rfl
theorem bval_lt : ∀ {a : List Nat}, small a → bval a < 10000 ^ a.length
  | [], _ => by simp [bval]
  | x :: r, h => by
    have h1 := bval_lt (a := r) fun d hd => h d (by simp [hd])
    have h2 := h x (by simp)
    simp only [bval, List.length_cons, Nat.pow_succ]
    omega
theorem bval_take (a : List Nat) {k : Nat} (h : k < a.length) : bval (a.take (k + 1)) = bval (a.take k) + 10000 ^ k * a.getD k 0 := by
  rw [List.take_succ, List.getElem?_eq_getElem h, bval_append, List.length_take, Nat.min_eq_left (by omega), List.getD_eq_getElem?_getD, List.getElem?_eq_getElem h]
  simp [bval]
theorem bval_pos {a : List Nat} (h : lastNZ a) (hne : a ≠ []) : 10000 ^ (a.length - 1) ≤ bval a := by
  have hl : 0 < a.length := List.length_pos_iff.2 hne
  have h1 := bval_take a (k := a.length - 1) (by omega)
  rw [show a.length - 1 + 1 = a.length by omega, List.take_of_length_le (Nat.le_refl _)] at h1
  have h2 := h (a.length - 1) (by omega)
  have h3 : 10000 ^ (a.length - 1) * 1 ≤ 10000 ^ (a.length - 1) * a.getD (a.length - 1) 0 := Nat.mul_le_mul_left _ (by omega)
  omega
theorem pow_le_pow {a b : Nat} (h : a ≤ b) : 10000 ^ a ≤ 10000 ^ b := Nat.pow_le_pow_right (by omega) h
/-- 10000 ^ 10 -/
theorem canon_len {a : List Nat} (h : lastNZ a) (hb : bval a < 10000 ^ 10) : a.length ≤ 10 := by
  by_cases hne : a = []
  · subst hne; simp
  · have := bval_pos h hne
    by_cases hl : a.length ≤ 10
    · exact hl
    · have := pow_le_pow (a := 10) (b := a.length - 1) (by omega)
      omega
theorem bval_zero {a : List Nat} (h : lastNZ a) (hb : bval a = 0) : a = [] := by
  by_cases hne : a = []
  · exact hne
  · have := bval_pos h hne
    have := Nat.pow_pos (n := a.length - 1) (show 0 < 10000 by omega)
    omega

theorem bval_step {out : List Nat} {d i M N : Nat} (hl : out.length = i) (h : d + 10000 * N = M) : bval (out ++ [d]) + 10000 ^ (i + 1) * N = bval out + 10000 ^ i * M := by
  subst hl; subst h
  rw [bval_append, Nat.pow_succ, Nat.mul_add]
  simp only [bval, Nat.mul_zero, Nat.add_zero, Nat.mul_assoc]
  omega
theorem bval_back {out : List Nat} {d i x y c c' va vb va0 vb0 : Nat} (hl : out.length = i) (h : d + y + c = x + 10000 * c') (hi : bval out + 10000 ^ i * (x + 10000 * va) + vb0 = va0 + 10000 ^ i * (c + (y + 10000 * vb))) :
    bval (out ++ [d]) + 10000 ^ (i + 1) * va + vb0 = va0 + 10000 ^ (i + 1) * (c' + vb) := by
  subst hl
  have h2 : 10000 ^ out.length * (d + y + c) = 10000 ^ out.length * (x + 10000 * c') := by rw [h]
  rw [bval_append, Nat.pow_succ]
  simp only [bval, Nat.mul_zero, Nat.add_zero, Nat.mul_assoc, Nat.mul_add] at hi h2 ⊢
  omega
theorem bval_set : ∀ (os : List Nat) (j e : Nat), j < os.length → bval (os.set j e) + 10000 ^ j * os.getD j 0 = bval os + 10000 ^ j * e
  | [], j, e, h => by simp at h
  | x :: r, 0, e, _ => by simp [bval]; omega
  | x :: r, j + 1, e, h => by
    have := bval_set r j e (by simpa using h)
    simp only [List.set_cons_succ, bval, List.getD_cons_succ, Nat.pow_succ]
    have h1 : 10000 ^ j * 10000 * r.getD j 0 = 10000 * (10000 ^ j * r.getD j 0) := by rw [Nat.mul_comm (10000 ^ j) 10000, Nat.mul_assoc]
    have h2 : 10000 ^ j * 10000 * e = 10000 * (10000 ^ j * e) := by rw [Nat.mul_comm (10000 ^ j) 10000, Nat.mul_assoc]
    omega
theorem bval_cell {os : List Nat} {j e c' x y c vb T : Nat} (hj : j < os.length) (h : e + 10000 * c' = os.getD j 0 + x * y + c) (hi : bval os + 10000 ^ j * (c + x * (y + 10000 * vb)) = T) :
    bval (os.set j e) + 10000 ^ (j + 1) * (c' + x * vb) = T := by
  have h1 := bval_set os j e hj
  have h2 : 10000 ^ j * (e + 10000 * c') = 10000 ^ j * (os.getD j 0 + x * y + c) := by rw [h]
  rw [Nat.pow_succ]
  have h3 : x * (10000 * vb) = 10000 * (x * vb) := by rw [Nat.mul_left_comm]
  simp only [Nat.mul_assoc, Nat.mul_add, h3] at hi h2 ⊢
  omega

/-- from the highest digit down -/
theorem bval_lt_of : ∀ (i : Nat) (a b : List Nat), small a → small b → (∀ j, i < j → a.getD j 0 = b.getD j 0) → a.getD i 0 < b.getD i 0 → bval a < bval b := by
  have key : ∀ (i : Nat) (a b : List Nat) (k : Nat), small a → small b → (∀ j, i + k < j → a.getD j 0 = b.getD j 0) → a.getD (i + k) 0 < b.getD (i + k) 0 → bval (a.drop k) < bval (b.drop k) := by
    intro i
    induction i with
    | zero =>
      intro a b k ha hb he hl
      rw [bval_drop a, bval_drop b]
      have : bval (a.drop (k + 1)) = bval (b.drop (k + 1)) := by
        have h2 : ∀ (n k' : Nat), k < k' → a.length + b.length - k' = n → bval (a.drop k') = bval (b.drop k') := by
          intro n
          induction n with
          | zero => intro k' _ hn; rw [List.drop_of_length_le (by omega), List.drop_of_length_le (by omega)]
          | succ n ih =>
            intro k' hk hn
            rw [bval_drop a, bval_drop b, he k' (by omega), ih (k' + 1) (by omega) (by omega)]
        exact h2 _ _ (Nat.lt_succ_self k) rfl
      simp only [Nat.zero_add] at hl
      omega
    | succ i ih =>
      intro a b k ha hb he hl
      have := ih a b (k + 1) ha hb (fun j hj => he j (by omega)) (by rw [show i + (k + 1) = i + 1 + k by omega]; exact hl)
      rw [bval_drop a, bval_drop b]
      have h1 := getD_small ha k
      have h2 := getD_small hb k
      omega
  intro i a b ha hb he hl
  have := key i a b 0 ha hb (by simpa using he) (by simpa using hl)
  simpa using this
theorem bval_eq_of {a b : List Nat} (h : ∀ j, a.getD j 0 = b.getD j 0) : bval a = bval b := by
  have h2 : ∀ (n k' : Nat), a.length + b.length - k' = n → bval (a.drop k') = bval (b.drop k') := by
    intro n
    induction n with
    | zero => intro k' hn; rw [List.drop_of_length_le (by omega), List.drop_of_length_le (by omega)]
    | succ n ih =>
      intro k' hn
      rw [bval_drop a, bval_drop b, h k', ih (k' + 1) (by omega)]
  simpa using h2 _ 0 rfl

theorem small_append {a : List Nat} {d : Nat} (h : small a) (hd : d < 10000) : small (a ++ [d]) := by
  intro x hx
  rcases List.mem_append.1 hx with hx | hx
  · exact h x hx
  · simp only [List.mem_singleton] at hx; omega
theorem small_take {a : List Nat} (h : small a) (k : Nat) : small (a.take k) := fun d hd => h d (List.mem_of_mem_take hd)
theorem small_set {a : List Nat} (h : small a) (j : Nat) {e : Nat} (he : e < 10000) : small (a.set j e) := by
  intro x hx
  rcases List.mem_or_eq_of_mem_set hx with hx | hx
  · exact h x hx
  · omega

/-- what is left of a division by the base, its result -/
theorem rem_nat (s m : Nat) (hm : m ≠ 0) : pureRun (Op.intDiv .rem .i64 (Int.ofNat s) (Int.ofNat m)) = some (.int .i64 (Int.ofNat (s % m))) := by
  unfold Op.intDiv
  rw [if_neg (by intro e; exact hm (Int.ofNat.inj e))]
  rfl
theorem quo_nat {s m : Nat} (hm : m ≠ 0) (hs : s ≤ 9223372036854775807) : pureRun (Op.intDiv .quo .i64 (Int.ofNat s) (Int.ofNat m)) = some (.int .i64 (Int.ofNat (s / m))) := by
  unfold Op.intDiv
  rw [if_neg (by intro e; exact hm (Int.ofNat.inj e))]
  show some (Value.int .i64 (IntKind.wrap .i64 (Int.ofNat (s / m)))) = _
  rw [wrapN (Nat.le_trans (Nat.div_le_self _ _) hs)]
theorem wrapU {n : Nat} (h : n ≤ 18446744073709551615) : IntKind.wrap .u64 (Int.ofNat n) = Int.ofNat n := by
  unfold IntKind.wrap; simp [IntKind.bits, IntKind.signed]; omega
theorem remU (s m : Nat) (hm : m ≠ 0) : pureRun (Op.intDiv .rem .u64 (Int.ofNat s) (Int.ofNat m)) = some (.int .u64 (Int.ofNat (s % m))) := by
  unfold Op.intDiv
  rw [if_neg (by intro e; exact hm (Int.ofNat.inj e))]
  rfl
theorem quoU {s m : Nat} (hm : m ≠ 0) (hs : s ≤ 18446744073709551615) : pureRun (Op.intDiv .quo .u64 (Int.ofNat s) (Int.ofNat m)) = some (.int .u64 (Int.ofNat (s / m))) := by
  unfold Op.intDiv
  rw [if_neg (by intro e; exact hm (Int.ofNat.inj e))]
  show some (Value.int .u64 (IntKind.wrap .u64 (Int.ofNat (s / m)))) = _
  rw [wrapU (Nat.le_trans (Nat.div_le_self _ _) hs)]
theorem mulU {i j : Nat} (h : i * j ≤ 18446744073709551615) : IntKind.wrap .u64 (Int.ofNat i * Int.ofNat j) = Int.ofNat (i * j) := by
  rw [← wrapU h]; rfl
theorem addU {i j : Nat} (h : i + j ≤ 18446744073709551615) : IntKind.wrap .u64 (Int.ofNat i + Int.ofNat j) = Int.ofNat (i + j) := by
  rw [← wrapU h]; rfl
theorem mul_nat {i j : Nat} (h : i * j ≤ 9223372036854775807) : IntKind.wrap .i64 (Int.ofNat i * Int.ofNat j) = Int.ofNat (i * j) := by
  rw [← wrapN h]; rfl
theorem two_new (h : H) (x y : AObj) : Grows h ((h.new x).new y) ∧ ((h.new x).new y).get h.next = some x ∧ ((h.new x).new y).get (h.next + 1) = some y ∧ ((h.new x).new y).next = h.next + 2 := by
  refine ⟨((Grows.refl h).new _).new _, ?_, H.get_new' _ _, rfl⟩
  rw [H.get_new, if_neg (show ¬ h.next = (h.new x).next by show ¬ h.next = h.next + 1; omega)]
  exact H.get_new' _ _
theorem three_new (h : H) (x y z : AObj) : Grows h (((h.new x).new y).new z) ∧ (((h.new x).new y).new z).get h.next = some x ∧ (((h.new x).new y).new z).get (h.next + 1) = some y ∧ (((h.new x).new y).new z).get (h.next + 2) = some z ∧ (((h.new x).new y).new z).next = h.next + 3 := by
  obtain ⟨h1, h2, h3, h4⟩ := two_new h x y
  refine ⟨h1.new _, ?_, ?_, H.get_new' _ _, rfl⟩
  · rw [H.get_new, if_neg (by rw [h4]; omega)]; exact h2
  · rw [H.get_new, if_neg (by rw [h4]; omega)]; exact h3

end Go.Eng
end
