/-
  maps.Keys and slices.Sorted: what the abstract machine says of them is so, where the kit's contracts are laid.
-/
import Derived.Test.YtkoccbggjfbgaaaGreatDoorK05
import Derived.Maps.Own
import Derived.Lib.SlKeysI
set_option linter.all false
open Go.RowKit Go.Maps
namespace Go.Eng

theorem hook_gen {k j : Nat} (hk : k % 16 = j) (hj : 4 ≤ j ∧ j ≠ 10) (args : List Value) (h : H) : hook k args h = hGen k args h := by
  unfold hook
  split <;> first | (exfalso; omega) | rfl

theorem hook_keys {P : Program} {f g k : Nat} (hk : k % 16 = 5) (hg : k / 16 = g) (hent : ∀ args w, (callFunc f args).run P w = .ok (.enter f args) w)
    (hc : ∀ mb w, Calls P f #[.map mb] w fun e w' => e = .returned (.func (.func g) #[] #[.pointer (some ⟨w.heap.size, 0, none⟩)]) ∧ ∃ t, w' = w.alloc (.cells #[.map mb] t)) : HookOK P f k := by
  intro vs h v h' he φ w cs hR hv
  rw [hook_gen hk ⟨by decide, by decide⟩] at he
  unfold hGen at he
  have hk' : Nat.mod k 16 = 5 := hk
  rw [hk'] at he
  simp only [hKeys] at he
  split at he
  · rename_i r
    simp only [Option.some.injEq, Prod.mk.injEq] at he; obtain ⟨rfl, rfl⟩ := he
    cases hv with
    | cons h1 t1 =>
      cases t1
      cases h1 with
      | map hp =>
        rename_i p
        right
        refine ⟨hent _ _, ?_⟩
        have hn := hR.fresh h.next (Nat.le_refl _)
        refine (hc (some p.b) w).mono ?_
        rintro e w' ⟨rfl, t, rfl⟩
        obtain ⟨g1, g2⟩ := hR.new (.cells #[.map (some p.b)] t) (.mvar r) 0 0 ⟨p, t, Pl.add_ext _ hn _ _ hp, by simp, rfl⟩
        refine ⟨_, _, rfl, ?_, g1, g2⟩
        rw [show Nat.div k 16 = g from hg]
        exact VR.func (xs := []) (ys := []) (as := [_]) (bs := [_]) g .nil (.cons (VR.ptr (off := 0) (Pl.add_self _ _ _)) .nil)
  · simp at he

/-- elements are not looked at -/
def blindR : Value → Option (DataW Unit × List MemPlace) := fun _ => some (.nil, [])

def SortedCall (P : Program) (f g et : Nat) : Prop :=
  ∀ (w : World) (Bm b nn : Nat) (D0 : DataW Unit), Bm < w.heap.size → w.cell? ⟨Bm, 0, none⟩ = some (.map (some b)) → w.ownsMap P et blindR b nn D0 → Maps.size D0 ≤ maxLen → Maps.size D0 * 8 ≤ 140737488355328 →
    Calls P f #[.func (.func g) #[] #[.pointer (some ⟨Bm, 0, none⟩)]] w fun e w' => ∃ (v : Value) (ss : List Int), e = .returned v ∧ ss.Perm (intKeys D0) ∧
      w'.ownsRow w.heap.size et 1 v ss.length ((ss.mergeSort (fun x y => decide (x ≤ y))).map encZ) ∧ (v = .slice none 0 0 ↔ ss = []) ∧ Below w.heap.size w w'

theorem insert_perm {H : Type} (x : Lit × DataW H) : ∀ l, (DataW.insert x l).Perm (x :: l)
  | [] => List.Perm.refl _
  | y :: r => by
    simp only [DataW.insert]
    split
    · exact List.Perm.refl _
    · exact ((insert_perm x r).cons y).trans (List.Perm.swap x y r)

theorem foldr_insert_perm {H : Type} : ∀ l : List (Lit × DataW H), (l.foldr DataW.insert []).Perm l
  | [] => List.Perm.refl _
  | x :: r => (insert_perm x _).trans ((foldr_insert_perm r).cons x)

theorem insI_perm (x : Int) : ∀ l, (insI x l).Perm (x :: l)
  | [] => List.Perm.refl _
  | y :: r => by
    simp only [insI]
    split
    · exact List.Perm.refl _
    · exact ((insI_perm x r).cons y).trans (List.Perm.swap x y r)

theorem insI_sorted (x : Int) : ∀ l : List Int, l.Pairwise (· ≤ ·) → (insI x l).Pairwise (· ≤ ·)
  | [], _ => by simp [insI]
  | y :: r, h => by
    simp only [insI]
    split
    · rename_i hd
      have hd : x ≤ y := by simpa using hd
      rw [List.pairwise_cons] at h ⊢
      refine ⟨fun a ha => ?_, List.pairwise_cons.2 h⟩
      rcases List.mem_cons.1 ha with rfl | ha
      · exact hd
      · exact Int.le_trans hd (h.1 a ha)
    · rename_i hd
      have hd : ¬ x ≤ y := by simpa using hd
      rw [List.pairwise_cons] at h
      rw [List.pairwise_cons]
      refine ⟨fun a ha => ?_, insI_sorted x r h.2⟩
      rcases List.mem_cons.1 ((insI_perm x r).mem_iff.1 ha) with rfl | ha
      · omega
      · exact h.1 a ha

/-- what keysA says -/
theorem keysA_ok : ∀ {es : List MapEntry} {l : List Int}, keysA es = some l → ∃ ns : List Int, es.map (·.key) = ns.map (Value.int .i64) ∧ l.Perm ns ∧ l.Pairwise (· ≤ ·) ∧ ns.Nodup ∧ ∀ n ∈ ns, -9223372036854775808 ≤ n ∧ n ≤ 9223372036854775807
  | [], l, h => by simp [keysA] at h; subst h; exact ⟨[], rfl, List.Perm.refl _, List.Pairwise.nil, List.nodup_nil, by simp⟩
  | e :: r, l, h => by
    simp only [keysA] at h
    split at h
    · rename_i n l' hk hl'
      split at h
      · rename_i h1 h2 h3
        simp only [Option.some.injEq] at h; subst h
        obtain ⟨ns, g1, g2, g3, g4, g5⟩ := keysA_ok hl'
        refine ⟨n :: ns, by simp [hk, g1], (insI_perm n l').trans (g2.cons n), insI_sorted n l' g3, List.nodup_cons.2 ⟨?_, g4⟩, ?_⟩
        · intro hm
          rw [List.all_eq_true] at h3
          have := h3 n (g2.mem_iff.2 hm)
          simp at this
        · intro m hm
          rcases List.mem_cons.1 hm with rfl | hm
          · exact ⟨by simpa using h1, by simpa using h2⟩
          · exact g5 m hm
      · simp at h
    · simp at h

theorem stampA_ok {c : Nat} : ∀ {es : List MapEntry}, stampA c es = true → (∀ x ∈ es, x.born < c) ∧ (es.map (·.born)).Nodup
  | [], _ => by simp
  | e :: r, h => by
    simp only [stampA] at h
    split at h
    · rename_i h1 h2
      obtain ⟨g1, g2⟩ := stampA_ok h
      have h1 : e.born < c := Nat.le_of_ble_eq_true h1
      refine ⟨fun x hx => ?_, ?_⟩
      · rcases List.mem_cons.1 hx with rfl | hx
        · exact h1
        · exact g1 x hx
      · rw [List.map_cons, List.nodup_cons]
        refine ⟨fun hm => ?_, g2⟩
        obtain ⟨y, hy, he⟩ := List.mem_map.1 hm
        rw [List.all_eq_true] at h2
        have := h2 y hy
        rw [he] at this
        simp at this
    · simp at h

theorem ERs.born {φ : Pl} {xs ys : List MapEntry} (h : ERs φ xs ys) : ys.map (·.born) = xs.map (·.born) := by
  induction h with
  | nil => rfl
  | cons h _ ih => simp [ih, h.2.2]
theorem ERs.len {φ : Pl} {xs ys : List MapEntry} (h : ERs φ xs ys) : ys.length = xs.length := by
  induction h with
  | nil => rfl
  | cons h _ ih => simp [ih]
theorem ERs.keys {φ : Pl} {xs ys : List MapEntry} (h : ERs φ xs ys) : ∀ {ns : List Int}, xs.map (·.key) = ns.map (Value.int .i64) → ys.map (·.key) = ns.map (Value.int .i64) := by
  induction h with
  | nil => intro ns e; simpa using e
  | @cons x y xs ys h _ ih =>
    intro ns e
    cases ns with
    | nil => simp at e
    | cons n ns =>
      simp only [List.map_cons, List.cons.injEq] at e ⊢
      refine ⟨?_, ih e.2⟩
      have h1 := h.1
      rw [e.1] at h1
      generalize y.key = q at h1
      cases h1; rfl

theorem rd_of {P : Program} {et : TypeId} (hu : P.underlying et = some (.int .i64)) {y : MapEntry} {n : Int} (hk : y.key = .int .i64 n) (h1 : -9223372036854775808 ≤ n) (h2 : n ≤ 9223372036854775807) :
    Go.WideElems.rd P et blindR y = some (.int .i64 n, .nil) := by
  have hw : (Lit.int .i64 n).wf = true := by
    have e1 : IntKind.i64.min = -9223372036854775808 := by rfl
    have e2 : IntKind.i64.max = 9223372036854775807 := by rfl
    simp only [Lit.wf, e1, e2, Bool.and_eq_true, decide_eq_true_eq]
    exact ⟨h1, h2⟩
  have : keyOf P et y.key = some (.int .i64 n) := by
    rw [hk]
    simp [keyOf, hu, mapKey, hw]
  simp [Go.WideElems.rd, this, blindR]

theorem rgs_of {P : Program} {et : TypeId} (hu : P.underlying et = some (.int .i64)) : ∀ (es : List MapEntry) (ns : List Int), es.map (·.key) = ns.map (Value.int .i64) → (∀ n ∈ ns, -9223372036854775808 ≤ n ∧ n ≤ 9223372036854775807) →
    es.map (Go.WideElems.rg P et blindR) = ns.map (fun n => ((Lit.int .i64 n, (DataW.nil : DataW Unit))))
  | [], [], _, _ => rfl
  | [], n :: ns, h, _ => by simp at h
  | e :: es, [], h, _ => by simp at h
  | e :: es, n :: ns, h, hb => by
    simp only [List.map_cons, List.cons.injEq] at h ⊢
    have := hb n List.mem_cons_self
    refine ⟨?_, rgs_of hu es ns h.2 fun m hm => hb m (List.mem_cons_of_mem _ hm)⟩
    unfold Go.WideElems.rg
    rw [rd_of hu h.1 this.1 this.2]; rfl

theorem hook_sorted {P : Program} {f g et k : Nat} (hk : k % 16 = 6) (hg : k / 16 / 65536 = g) (het : k / 16 % 65536 = et) (hu : P.underlying et = some (.int .i64))
    (hent : ∀ args w, (callFunc f args).run P w = .ok (.enter f args) w) (hc : SortedCall P f g et) : HookOK P f k := by
  intro vs h v h' he φ w cs hR hv
  rw [hook_gen hk ⟨by decide, by decide⟩] at he
  unfold hGen at he
  have hk' : Nat.mod k 16 = 6 := hk
  rw [hk'] at he
  simp only [hSorted] at he
  split at he
  case h_2 => simp at he
  rename_i f' fi ca
  split at he
  case h_2 => simp at he
  rename_i o hfg hfi hca
  split at he
  case h_2 => simp at he
  rename_i r hor
  split at he
  case h_2 => simp at he
  rename_i es c hr
  unfold sortedA at he
  split at he
  case h_2 => simp at he
  rename_i l hst hlen hkeys
  have hlen : es.length ≤ 1000000 := Nat.le_of_ble_eq_true hlen
  have hfg : f' = g := by have := Nat.eq_of_beq_eq_true hfg; rw [this]; exact hg
  subst hfg
  obtain ⟨ns, k1, k2, k3, k4, k5⟩ := keysA_ok hkeys
  obtain ⟨s1, s2⟩ := stampA_ok hst
  obtain ⟨q, hq, q', t, hq', hcell, hbase⟩ := hR.obj _ _ hor
  obtain ⟨p, hp, es', hb, hes⟩ := hR.obj _ _ hr
  rw [hp] at hq'; simp only [Option.some.injEq] at hq'; subst hq'
  have hkeys' := hes.keys k1
  have hblt : q.b < w.heap.size := (Array.getElem?_eq_some_iff.1 hcell).1
  -- the real arguments
  have hcs : cs = [.func (.func f') #[] #[.pointer (some ⟨q.b, 0, none⟩)]] := by
    cases hv with
    | cons h1 t1 =>
      cases t1
      cases h1 with
      | func _ h2 h3 =>
        simp only at hfi hca
        subst hfi; subst hca
        cases h2
        cases h3 with
        | cons h4 t4 =>
          cases t4
          cases h4 with
          | ptr h5 =>
            rw [hq] at h5; simp only [Option.some.injEq] at h5; subst h5
            rw [hbase]
  subst hcs
  have hcc : w.cell? ⟨q.b, 0, none⟩ = some (.map (some p.b)) := by
    simp [World.cell?, hcell]
  have hsz : es'.size = es.length := by have := hes.len; simpa using this
  have hrg := rgs_of (P := P) hu es'.toList ns hkeys' k5
  let D0 : DataW Unit := .map ((es'.toList.map (Go.WideElems.rg P et blindR)).foldr DataW.insert [])
  have hperm : (intKeys D0).Perm ns := by
    show List.Perm (List.map (fun p => intOf p.1) ((es'.toList.map (Go.WideElems.rg P et blindR)).foldr DataW.insert [])) ns
    have h1 := (foldr_insert_perm (es'.toList.map (Go.WideElems.rg P et blindR))).map (fun p => intOf p.1)
    rw [hrg] at h1 ⊢
    refine h1.trans ?_
    rw [List.map_map]
    have : ((fun p : Lit × DataW Unit => intOf p.1) ∘ fun n => (Lit.int .i64 n, DataW.nil)) = id := by funext n; rfl
    rw [this, List.map_id]
  have hns : ns.length = es.length := by have := congrArg List.length k1; simpa using this.symm
  have hsize : Maps.size D0 = es.length := by
    have := hperm.length_eq
    rw [hns] at this
    rw [← this]
    show _ = (List.map _ _).length
    rw [List.length_map]; rfl
  have hmaxLen : (1000000 : Nat) ≤ maxLen := by decide
  have hown : w.ownsMap P et blindR p.b es.length D0 := by
    refine ⟨es', c, hb, ⟨by omega, ⟨?_, ?_, ?_⟩, ?_⟩, by omega, rfl⟩
    · intro x hx
      have hm : x.born ∈ es'.toList.map (·.born) := List.mem_map.2 ⟨x, hx, rfl⟩
      rw [hes.born] at hm
      obtain ⟨y, hy, e⟩ := List.mem_map.1 hm
      rw [← e]; exact s1 y hy
    · rw [hes.born]; exact s2
    · rw [hkeys']
      rw [List.nodup_iff_pairwise_ne, List.pairwise_map]
      rw [List.nodup_iff_pairwise_ne] at k4
      exact k4.imp fun hne e => hne (by simpa using e)
    · intro x hx
      have hm : x.key ∈ es'.toList.map (·.key) := List.mem_map.2 ⟨x, hx, rfl⟩
      rw [hkeys'] at hm
      obtain ⟨n, hn, e⟩ := List.mem_map.1 hm
      exact ⟨_, rd_of hu e.symm (k5 n hn).1 (k5 n hn).2⟩
  right
  refine ⟨hent _ _, ?_⟩
  refine (hc w q.b p.b es.length D0 hblt hcc hown (by omega) (by omega)).mono ?_
  rintro e w' ⟨v', ss, rfl, hss, hrow, hnil, hbel⟩
  have hR' := hR.below hbel
  have hssns : ss.Perm ns := hss.trans hperm
  have hmerge : ss.mergeSort (fun x y => decide (x ≤ y)) = l := by
    have h1 := mergeSort_of_perm_i (hssns.trans k2.symm)
    rw [show (fun x y : Int => decide (x ≤ y)) = leI from rfl, h1]
    exact List.mergeSort_of_pairwise (k3.imp fun h => by simpa [leI] using h)
  have hll : ss.length = l.length := (hssns.trans k2.symm).length_eq
  split at he
  · rename_i l0
    simp only [Option.some.injEq, Prod.mk.injEq] at he; obtain ⟨rfl, rfl⟩ := he
    have : ss = [] := List.eq_nil_of_length_eq_zero (by simpa using hll)
    rw [hnil.2 this]
    exact ⟨_, φ, rfl, .nslc _ _, hR', Step.of_below hbel⟩
  · rename_i hne
    simp only [Option.some.injEq, Prod.mk.injEq] at he; obtain ⟨rfl, rfl⟩ := he
    obtain ⟨hl0, hv' | ⟨b, cap, cur, rfl, hbb, hcur, hncap, hcmax, hcsz, htake⟩⟩ := hrow
    · exfalso
      have := hnil.1 hv'.1
      rw [this] at hll
      exact hne (List.eq_nil_of_length_eq_zero (by simpa using hll.symm))
    · have hn := hR.fresh h.next (Nat.le_refl _)
      have hnl : ¬ Live h φ b := by
        rintro ⟨o1, x1, p1, e1, e2, e3⟩
        obtain ⟨p2, e4, e5⟩ := hR.obj _ _ e1
        rw [e2] at e4; simp only [Option.some.injEq] at e4; subst e4
        have := e5.lt
        omega
      have ho : OR (φ.add h.next ⟨b, 0, cur.size⟩) w' ⟨b, 0, cur.size⟩ (.cells (l.map fun n => .int .i64 n) et) := by
        refine ⟨cur, hcur, rfl, fun i v hv => ?_⟩
        rw [hmerge] at htake
        have h1 : (l.map encZ)[i]? = some v := hv
        rw [← htake, List.getElem?_take] at h1
        split at h1
        · refine ⟨v, by simpa using h1, ?_⟩
          rw [List.getElem?_map] at hv
          obtain ⟨n, _, rfl⟩ := Option.map_eq_some_iff.1 hv
          exact .int _ _
        · simp at h1
      have hadd := hR'.adopt (x := .cells (l.map fun n => .int .i64 n) et) (p := ⟨b, 0, cur.size⟩) hnl ho
      rw [show Nat.mod (Nat.div k 16) 65536 = et from het]
      refine ⟨_, φ.add h.next ⟨b, 0, cur.size⟩, rfl, ?_, hadd, ?_⟩
      · rw [hll]
        exact VR.slc (p := ⟨b, 0, cur.size⟩) (x := 0) (Pl.add_self _ _ _) (Nat.le_refl _) (by omega) (by simp; omega) (fun _ => rfl)
      · refine ⟨Pl.add_ext _ hn, Nat.le_succ _, hbel.size, fun j hj _ => hbel.block j hj, ?_, hbel.os, hbel.tape, hbel.output⟩
        rintro j ⟨o1, x1, p1, e1, e2, e3⟩
        rw [H.get_new] at e1
        by_cases e : o1 = h.next
        · subst e
          rw [Pl.add_self] at e2; simp only [Option.some.injEq] at e2; subst e2
          right; rw [← e3]; exact hbb
        · rw [if_neg e] at e1
          simp only [Pl.add, if_neg e] at e2
          exact .inl ⟨o1, x1, p1, e1, e2, e3⟩

end Go.Eng
