/-
  The machine in small pieces (EngX) says nothing that the abstract machine does not say: the rest. The abstract machine: its tables, out of a program's own. The abstract machine over a loaded program: its tables hold; what a closed run says true, a call returns true. Functions without a body that the abstract machine answers by itself: what it says is what the model's entry says.
-/
import Derived.Test.YtkoccbggjfbgaaaGreatDoorK04
import Derived.Test.YtkoccbggjfbgaaaGreatDoorK03
import Derived.Laws.Externs
import Derived.MapKept
set_option linter.all false

section
namespace Go.Eng
variable {E : Env}

theorem oc_some {α β : Type} {x : Option α} {k : α → Option β} {r : β} (h : oc x k = some r) : ∃ a, x = some a ∧ k a = some r := by
  cases x with
  | none => simp [oc] at h
  | some a => exact ⟨a, rfl, h⟩
theorem bc_true {β : Type} {t e : β} : bc true t e = t := rfl
theorem bc_false {β : Type} {t e : β} : bc false t e = e := rfl

theorem nth_get {α : Type} : ∀ (l : List α) (n : Nat), nth l n = l[n]?
  | [], n => by simp [nth]
  | x :: l, 0 => rfl
  | x :: l, n + 1 => by simp only [List.getElem?_cons_succ]; exact nth_get l n

theorem evO_ev (n : Nat) (m : Tr Value) (x : Operand) : evO m x = ev ⟨n, m⟩ x := by
  cases x with
  | tmp t => rfl
  | const v => simp only [evO, ev]; cases plain v <;> rfl
  | global g => rfl
  | func f => rfl

theorem evL_evs (n : Nat) (m : Tr Value) : ∀ l, evL m l = evs ⟨n, m⟩ l
  | [] => rfl
  | x :: l => by
    have ih := evL_evs n m l
    show oc (evO m x) (fun v => oc (evL m l) fun l => some (v :: l)) = _
    rw [ih, evO_ev n]
    simp only [evs]
    cases ev ⟨n, m⟩ x with
    | none => rfl
    | some v => cases evs ⟨n, m⟩ l <;> rfl

theorem app3_eq (x y z : List Value) : app3 x y z = x ++ y ++ z := by
  unfold app3; split <;> simp

theorem putN_putT {n : Nat} {d : Option Tmp} {m m' : Tr Value} {v : Value} {h h' : H} (e : putN n d m v h = some (m', h')) : putT ⟨n, m⟩ d v = some ⟨n, m'⟩ ∧ h' = h := by
  cases d with
  | none => simp only [putN, Option.some.injEq, Prod.mk.injEq] at e; obtain ⟨rfl, rfl⟩ := e; exact ⟨rfl, rfl⟩
  | some d =>
    simp only [putN] at e
    cases hb : Nat.blt d n with
    | false => rw [hb] at e; simp [bc] at e
    | true => rw [hb] at e; simp only [bc, Option.some.injEq, Prod.mk.injEq] at e; obtain ⟨rfl, rfl⟩ := e; exact ⟨by simp only [putT, hb], rfl⟩

theorem wantG_eq (n : Nat) (all : List Oper) (m : Tr Value) (g : Option (Nat × Bool)) : wantG all m g = wantedA g all ⟨n, m⟩ := by
  cases g with
  | none => rfl
  | some g => rfl

theorem doF_imp {call : CallF} {op : Op} {vs : List Value} {h : H} {r : Value × H} (h1 : doF E call op vs h = some r) : opA E call op vs h = some r := by
  unfold doF at h1
  split at h1
  · rename_i hc
    cases op with
    | call c =>
      obtain ⟨cal, ts, rest⟩ := c
      cases cal with
      | value f =>
        unfold callV at h1
        split at h1
        · split at h1
          · split at h1
            · rw [app3_eq] at h1
              unfold opA; simp only [cls]; exact h1
            · simp at h1
          · simp at h1
        · simp at h1
      | _ => simp [isCall] at hc
    | _ => simp [isCall] at hc
  · rename_i hc; exact opF_imp hc h1

def CallImp (c c' : CallF) : Prop := ∀ f vs h r, c f vs h = some r → c' f vs h = some r

theorem opA_mono {c c' : CallF} (hc : CallImp c c') {op : Op} {vs : List Value} {h : H} {r : Value × H} (h1 : opA E c op vs h = some r) : opA E c' op vs h = some r := by
  unfold opA at h1 ⊢
  cases hcl : cls E op <;> rw [hcl] at h1
  · exact h1
  · exact h1
  · exact h1
  · dsimp only at h1 ⊢
    split at h1
    · exact hc _ _ _ _ h1
    · exact h1

theorem oneF_imp {c c' : CallF} (hc : CallImp c c') {n : Nat} {all : List Oper} {o : Oper} {m m' : Tr Value} {h h' : H} (h1 : oneF E c n all o m h = some (m', h')) : oneA E c' all o ⟨n, m⟩ h = some (⟨n, m'⟩, h') := by
  obtain ⟨d, op, ty, pos, af, g⟩ := o
  have h1 : (oc (wantG all m g) fun b => bc b (oc (evL m (opnds op)) fun vs => putR n d m (doF E c op vs h)) (putN n d m undef h)) = some (m', h') := h1
  obtain ⟨b, hb, h1⟩ := oc_some h1
  rw [wantG_eq n] at hb
  unfold oneA; simp only [hb]
  cases b with
  | false =>
    rw [bc_false] at h1
    obtain ⟨e1, rfl⟩ := putN_putT h1
    simp only [e1]
  | true =>
    rw [bc_true] at h1
    obtain ⟨vs, hv, h1⟩ := oc_some h1
    rw [evL_evs n] at hv
    obtain ⟨⟨v, h2⟩, hd, h1⟩ := oc_some h1
    obtain ⟨e1, rfl⟩ := putN_putT (h := h2) h1
    simp only [hv, opA_mono hc (doF_imp hd), e1]

theorem opsF_imp {c c' : CallF} (hc : CallImp c c') {n : Nat} {all : List Oper} : ∀ (l : List Oper) {m m' : Tr Value} {h h' : H}, opsF E c n all l m h = some (m', h') → opsA E c' all l ⟨n, m⟩ h = some (⟨n, m'⟩, h')
  | [], m, m', h, h', h1 => by simp only [opsF, Option.some.injEq, Prod.mk.injEq] at h1; obtain ⟨rfl, rfl⟩ := h1; rfl
  | o :: l, m, m', h, h', h1 => by
    have h1 : (oc (oneF E c n all o m h) fun mh => Prod.rec (motive := fun _ => St) (opsF E c n all l) mh) = some (m', h') := h1
    obtain ⟨⟨m2, h2⟩, e1, e2⟩ := oc_some h1
    simp only [opsA, oneF_imp hc e1]
    exact opsF_imp hc l e2

def DF.to (n : Nat) (s : DF) : DS := ⟨s.done, ⟨n, s.m⟩, s.h, s.hist⟩

theorem stepF_imp {c c' : CallF} (hc : CallImp c c') {n : Nat} {all : List Oper} {bs : List Nat} {i : Nat} {s s' : DF} (h1 : stepF E c n all bs i s = some s') : stepD E c' all bs i (s.to n) = some (s'.to n) := by
  obtain ⟨done, m, h, hist⟩ := s
  have h1 : (pre1 all bs i done fun o b =>
    bc (anch E o)
      (bc (Nat.beq (Nat.land done b) done) (oc (oneF E c n all o m h) fun mh => Prod.rec (motive := fun _ => Option DF) (fun m h => some ⟨Nat.lor done (Nat.pow 2 i), m, h, (i, h) :: hist⟩) mh) none)
      (bc (stableD E all o b ⟨done, ⟨n, m⟩, h, hist⟩) (oc (oneF E c n all o m h) fun mh => Prod.rec (motive := fun _ => Option DF) (fun m h => some ⟨Nat.lor done (Nat.pow 2 i), m, h, hist⟩) mh) none)) = some s' := h1
  unfold pre1 at h1
  obtain ⟨o, ho, h1⟩ := oc_some h1
  obtain ⟨b, hb, h1⟩ := oc_some h1
  rw [nth_get] at ho hb
  cases hx : Nat.beq (Nat.land b done) b with
  | false => rw [hx, bc_false] at h1; simp at h1
  | true =>
    rw [hx, bc_true] at h1
    cases hy : Nat.testBit done i with
    | true => rw [hy, bc_true] at h1; simp at h1
    | false =>
      rw [hy, bc_false] at h1
      dsimp only at h1
      unfold stepD
      simp only [DF.to, ho, hb, hx, hy]
      cases hz : anch E o with
      | true =>
        rw [hz, bc_true] at h1
        simp only
        cases hw : Nat.beq (Nat.land done b) done with
        | false => rw [hw, bc_false] at h1; simp at h1
        | true =>
          rw [hw, bc_true] at h1
          obtain ⟨⟨m2, h2⟩, e1, e2⟩ := oc_some h1
          simp only [Option.some.injEq] at e2; subst e2
          simp only [oneF_imp hc e1]
      | false =>
        rw [hz, bc_false] at h1
        simp only
        cases hw : stableD E all o b ⟨done, ⟨n, m⟩, h, hist⟩ with
        | false => rw [hw, bc_false] at h1; simp at h1
        | true =>
          rw [hw, bc_true] at h1
          obtain ⟨⟨m2, h2⟩, e1, e2⟩ := oc_some h1
          simp only [Option.some.injEq] at e2; subst e2
          simp only [oneF_imp hc e1]

theorem goF_imp {c c' : CallF} (hc : CallImp c c') {n : Nat} {all : List Oper} {bs : List Nat} : ∀ (l : List Nat) {s s' : DF}, goF E c n all bs l s = some s' → goD E c' all bs l (s.to n) = some (s'.to n)
  | [], s, s', h1 => by simp only [goF, Option.some.injEq] at h1; subst h1; rfl
  | i :: l, s, s', h1 => by
    have h1 : (oc (stepF E c n all bs i s) (goF E c n all bs l)) = some s' := h1
    obtain ⟨s2, e1, e2⟩ := oc_some h1
    simp only [goD, stepF_imp hc e1]
    exact goF_imp hc l e2

theorem regF_imp {c c' : CallF} (hc : CallImp c c') {n : Nat} {all : List Oper} {m m' : Tr Value} {h h' : H} (h1 : regF E c n all m h = some (m', h')) : regD E c' all ⟨n, m⟩ h = some (⟨n, m'⟩, h') := by
  unfold regF at h1
  obtain ⟨r, hr, h1⟩ := oc_some h1
  unfold regK at hr
  simp only at hr
  cases hk : okR E all (preds [] all) all 0 with
  | false => rw [hk, bc_false] at hr; simp at hr
  | true =>
    rw [hk, bc_true] at hr
    simp only [Option.some.injEq] at hr; subst hr
    have h1 : (oc (goF E c n all (preds [] all) (ordA (preds [] all) (splitE E all 0).1 (splitE E all 0).2) ⟨0, m, h, [(all.length, h)]⟩) (endF all.length)) = some (m', h') := h1
    obtain ⟨s, e1, e2⟩ := oc_some h1
    have g := goF_imp hc _ e1
    obtain ⟨done, m2, h2, hist⟩ := s
    have e2 : bc (Nat.beq (Nat.succ done) (Nat.pow 2 all.length)) (some (m2, h2)) none = some (m', h') := e2
    cases hd : Nat.beq (Nat.succ done) (Nat.pow 2 all.length) with
    | false => rw [hd, bc_false] at e2; simp at e2
    | true =>
      rw [hd, bc_true] at e2
      simp only [Option.some.injEq, Prod.mk.injEq] at e2; obtain ⟨rfl, rfl⟩ := e2
      unfold regD
      simp only [hk]
      simp only [DF.to] at g
      simp only [g, hd]

/-! ### Code -/
def RunImp (r : RunF) (r' : Code → Tmps → H → Option (X × Tmps × H)) : Prop := ∀ n c m h x m' h', r n c m h = some (x, m', h') → r' c ⟨n, m⟩ h = some (x, ⟨n, m'⟩, h')

theorem enterL_eq : ∀ (l : List Value) (i : Nat) (m : Tr Value), enterL l i m = enterT l i m
  | [], _, _ => rfl
  | v :: l, i, m => by
    show enterL l (Nat.succ i) (m.set i v) = _
    rw [enterL_eq l]; rfl

theorem lenN_eq : ∀ l, lenN l = l.length
  | [] => rfl
  | v :: l => by show Nat.succ (lenN l) = _; rw [lenN_eq l]; rfl

theorem backF_imp {n : Nat} {fn : Func} {m : Tr Value} {h : H} {r : Value × H} (h1 : backF E n fn m h = some r) : resultA E h ⟨n, m⟩ fn.results.toList = some r.1 ∧ r.2 = h := by
  unfold backF at h1
  obtain ⟨v, e1, e2⟩ := oc_some h1
  simp only [Option.some.injEq] at e2; subst e2
  exact ⟨e1, rfl⟩

theorem callF_imp {k : Nat} (hr : RunImp (runF E k) (run E k)) : CallImp (callF E (runF E k)) (callN E k) := by
  intro f vs h r h1
  unfold callF at h1
  unfold callN
  cases hx : E.X.get f with
  | some j => rw [hx] at h1; exact h1
  | none =>
    rw [hx] at h1
    have h1 : (oc (E.F.get f) fun fn => enterF E (runF E k) fn vs h) = some r := h1
    obtain ⟨fn, hf, h1⟩ := oc_some h1
    simp only [hf]
    unfold enterF at h1
    obtain ⟨b, hb, h1⟩ := oc_some h1
    simp only [hb]
    cases hl : Nat.ble (lenN vs) fn.ntmps with
    | false => rw [hl, bc_false] at h1; simp at h1
    | true =>
      rw [hl, bc_true] at h1
      rw [lenN_eq] at hl
      have hl := Nat.le_of_ble_eq_true hl
      rw [Nat.add_sub_cancel' hl]
      unfold outF at h1
      obtain ⟨⟨x, m2, h2⟩, e1, e2⟩ := oc_some h1
      rw [enterL_eq] at e1
      have g := hr _ _ _ _ _ _ _ e1
      cases x with
      | normal =>
        obtain ⟨e3, e4⟩ := backF_imp e2
        simp only [g, e3]; subst e4; rfl
      | exit id => simp at e2
      | ret =>
        obtain ⟨e3, e4⟩ := backF_imp e2
        simp only [g, e3]; subst e4; rfl

theorem runF_imp : ∀ k, RunImp (runF E k) (run E k)
  | 0 => by intro n c m h x m' h' h1; simp [runF] at h1
  | k + 1 => by
    have ih := runF_imp k
    have hC := callF_imp ih
    intro n c m h x m' h' h1
    have h1 : codeF c E (runF E k) n m h = some (x, m', h') := h1
    cases c with
    | skip =>
      simp only [codeF, cX, Option.some.injEq, Prod.mk.injEq] at h1; obtain ⟨rfl, rfl, rfl⟩ := h1; rfl
    | label l =>
      simp only [codeF, cX, Option.some.injEq, Prod.mk.injEq] at h1; obtain ⟨rfl, rfl, rfl⟩ := h1; rfl
    | exit id =>
      simp only [codeF, cX, Option.some.injEq, Prod.mk.injEq] at h1; obtain ⟨rfl, rfl, rfl⟩ := h1; rfl
    | ret =>
      simp only [codeF, cX, Option.some.injEq, Prod.mk.injEq] at h1; obtain ⟨rfl, rfl, rfl⟩ := h1; rfl
    | region id os dr =>
      have h1 : normF (bc dr (regF E (callF E (runF E k)) n os.toList m h) (opsF E (callF E (runF E k)) n os.toList os.toList m h)) = some (x, m', h') := h1
      unfold normF at h1
      obtain ⟨⟨m2, h2⟩, e1, e2⟩ := oc_some h1
      simp only [Option.some.injEq, Prod.mk.injEq] at e2; obtain ⟨rfl, rfl, rfl⟩ := e2
      cases dr with
      | true =>
        have g := regF_imp hC e1
        show (match regD E (callN E k) os.toList ⟨n, m⟩ h with
          | some (a, h) => some (X.normal, a, h)
          | none => none) = _
        rw [g]
      | false =>
        have g := opsF_imp hC _ e1
        show (match opsA E (callN E k) os.toList os.toList ⟨n, m⟩ h with
          | some (a, h) => some (X.normal, a, h)
          | none => none) = _
        rw [g]
    | seq c1 c2 =>
      have h1 : thenF (runF E k n c1 m h) (runF E k n c2) = some (x, m', h') := h1
      unfold thenF at h1
      obtain ⟨⟨y, m2, h2⟩, e1, e2⟩ := oc_some h1
      have g := ih _ _ _ _ _ _ _ e1
      simp only [run, g]
      cases y with
      | normal => exact ih _ _ _ _ _ _ _ e2
      | exit j => simp only [Option.some.injEq, Prod.mk.injEq] at e2; obtain ⟨rfl, rfl, rfl⟩ := e2; rfl
      | ret => simp only [Option.some.injEq, Prod.mk.injEq] at e2; obtain ⟨rfl, rfl, rfl⟩ := e2; rfl
    | cond cd c1 c2 =>
      have h1 : (oc (evO m cd) fun v => oc (boolV v) fun b => bc b (runF E k n c1 m h) (runF E k n c2 m h)) = some (x, m', h') := h1
      obtain ⟨v, hv, h1⟩ := oc_some h1
      obtain ⟨b, hb, h1⟩ := oc_some h1
      rw [evO_ev n] at hv
      cases v with
      | bool q =>
        simp only [boolV, Option.some.injEq] at hb; subst hb
        simp only [run, hv]
        cases q with
        | true => exact ih _ _ _ _ _ _ _ h1
        | false => exact ih _ _ _ _ _ _ _ h1
      | _ => simp [boolV] at hb
    | block id b =>
      have h1 : (oc (runF E k n b m h) fun x => Prod.rec (motive := fun _ => RX) (fun x mh => X.rec (motive := fun _ => RX) (some (.normal, mh)) (fun j => bc (Nat.beq j id) (some (.normal, mh)) (some (.exit j, mh))) (some (.ret, mh)) x) x) = some (x, m', h') := h1
      obtain ⟨⟨y, m2, h2⟩, e1, e2⟩ := oc_some h1
      have g := ih _ _ _ _ _ _ _ e1
      simp only [run, g]
      cases y with
      | normal => simp only [Option.some.injEq, Prod.mk.injEq] at e2; obtain ⟨rfl, rfl, rfl⟩ := e2; rfl
      | ret => simp only [Option.some.injEq, Prod.mk.injEq] at e2; obtain ⟨rfl, rfl, rfl⟩ := e2; rfl
      | exit j =>
        have e2 : bc (Nat.beq j id) (some (X.normal, m2, h2)) (some (.exit j, m2, h2)) = some (x, m', h') := e2
        cases hj : Nat.beq j id with
        | true =>
          rw [hj, bc_true] at e2
          simp only [Option.some.injEq, Prod.mk.injEq] at e2; obtain ⟨rfl, rfl, rfl⟩ := e2
          simp only [hj]
        | false =>
          rw [hj, bc_false] at e2
          simp only [Option.some.injEq, Prod.mk.injEq] at e2; obtain ⟨rfl, rfl, rfl⟩ := e2
          simp only [hj]
    | loop b =>
      have h1 : thenF (runF E k n b m h) (runF E k n (.loop b)) = some (x, m', h') := h1
      unfold thenF at h1
      obtain ⟨⟨y, m2, h2⟩, e1, e2⟩ := oc_some h1
      have g := ih _ _ _ _ _ _ _ e1
      simp only [run, g]
      cases y with
      | normal => exact ih _ _ _ _ _ _ _ e2
      | exit j => simp only [Option.some.injEq, Prod.mk.injEq] at e2; obtain ⟨rfl, rfl, rfl⟩ := e2; rfl
      | ret => simp only [Option.some.injEq, Prod.mk.injEq] at e2; obtain ⟨rfl, rfl, rfl⟩ := e2; rfl
    | scope b =>
      have g := ih _ _ _ _ _ _ _ (show runF E k n b m h = some (x, m', h') from h1)
      simp only [run, g]
    | _ => simp [codeF, cNo] at h1

theorem yesF_imp {k : Nat} {f : FuncId} (h : yesF E k f = true) : ∃ h', callN E k f [] H.empty = some (.bool true, h') := by
  unfold yesF at h
  split at h
  · rename_i v h2 hc
    split at h
    · subst h; exact ⟨h2, callF_imp (runF_imp k) _ _ _ _ hc⟩
    · simp at h
  · simp at h

end Go.Eng
end

section
namespace Go.Eng

def odds {α : Type} : List α → List α
  | [] => []
  | [_] => []
  | _ :: y :: r => y :: odds r
def evens {α : Type} : List α → List α
  | [] => []
  | [x] => [x]
  | x :: _ :: r => x :: evens r

def Tr.ofListF {α : Type} : Nat → List α → Tr α
  | 0, _ => .nil
  | _ + 1, [] => .nil
  | f + 1, x :: r => .node (Tr.ofListF f (evens r)) (some x) (Tr.ofListF f (odds r))

def Tr.ofList {α : Type} (l : List α) : Tr α := Tr.ofListF 64 l

end Go.Eng
end

section
open Go.RowKit
namespace Go.Eng

theorem Rel.below {h : H} {φ : Pl} {w w' : World} (a : Rel h φ w) (b : Below w.heap.size w w') : Rel h φ w' :=
  ⟨fun o x ho => let ⟨p, h1, h2⟩ := a.obj o x ho; ⟨p, h1, h2.world (b.block _ h2.lt)⟩, a.inj, a.fresh⟩

theorem Step.of_below {h : H} {φ : Pl} {w w' : World} (b : Below w.heap.size w w') : Step h φ w h φ w' :=
  ⟨Ext.refl _, Nat.le_refl _, b.size, fun k hk _ => b.block k hk, fun _ h => .inl h, b.os, b.tape, b.output⟩

/-- a function without parameters that returns true, whatever the world -/
def SaysTrue (P : Program) (f : FuncId) : Prop :=
  ∀ w, (callFunc f #[]).run P w = .ok (.enter f #[]) w ∧ Calls P f #[] w fun e w' => e = .returned (.bool true) ∧ Below w.heap.size w w'

theorem SaysTrue.hook {P : Program} {f : FuncId} (hs : SaysTrue P f) : HookOK P f 10 := by
  intro vs h v h' he φ w cs hR hv
  cases hv with
  | cons a b => simp [Eng.hook, hTrue] at he
  | nil =>
    simp [Eng.hook, hTrue] at he
    obtain ⟨rfl, rfl⟩ := he
    obtain ⟨h1, h2⟩ := hs w
    right
    refine ⟨h1, h2.mono ?_⟩
    intro e w' ⟨h3, h4⟩
    exact ⟨_, φ, h3, .bool _, hR.below h4, Step.of_below h4⟩

theorem enter_of {P : Program} {E : Env} (hE : EnvOK P E) {n : Nat} {f : FuncId} (hx : E.X.get f = none) {vs : List Value} {h : H} {v : Value} {h' : H} (he : callN E n f vs h = some (v, h'))
    {φ : Pl} {w : World} {cs : List Value} (hR : Rel h φ w) (hv : VRs φ vs cs) :
    (callFunc f cs.toArray).run P w = .ok (.enter f cs.toArray) w ∧
      Calls P f cs.toArray w fun e w' => ∃ c φ', e = .returned c ∧ VR φ' v c ∧ Rel h' φ' w' ∧ Step h φ w h' φ' w' := by
  unfold callN at he
  rw [hx] at he
  simp only at he
  split at he
  · rename_i fn hf
    split at he
    · rename_i b hb
      split at he
      · simp at he
      · rename_i x a' h2 hne hrun
        split at he
        · rename_i u hres
          simp at he; obtain ⟨rfl, rfl⟩ := he
          obtain ⟨hf1, hf2⟩ := hE.func f fn hf
          refine ⟨?_, ?_⟩
          · simp only [callFunc, Sem.run_bind, program, Sem.run, Result.andThen_ok, hf1, hf2, Bool.false_eq_true, if_false, hb, Option.isNone]
            rfl
          · refine calls_of_wp hf1 hb ?_
            refine (((run_sound hE n) _ _ _ _ _ _ hrun).2 φ w _ hR (enter_TR hv fn.ntmps) _ ?_).1
            intro φ' ts' w' g1 g2 g3
            obtain ⟨c, g4, g5⟩ := result_sound hE g1 g2 hres
            cases x with
            | normal => exact ⟨rfl, c, g4, c, φ', rfl, g5, g1, g3⟩
            | exit id => exact (hne id rfl).elim
            | ret => exact ⟨rfl, c, g4, c, φ', rfl, g5, g1, g3⟩
        · simp at he
      · simp at he
    · simp at he
  · simp at he

theorem says_of_yes {P : Program} {E : Env} (hE : EnvOK P E) {n : Nat} {f : FuncId} (hx : E.X.get f = none) (hy : yesF E n f = true) : SaysTrue P f := by
  intro w
  obtain ⟨h', he⟩ := yesF_imp hy
  obtain ⟨h1, h2⟩ := enter_of hE hx he (Rel.empty w) VRs.nil
  refine ⟨h1, h2.mono ?_⟩
  intro e w' ⟨c, φ', h3, h4, h5, h6⟩
  cases h4
  exact ⟨h3, h6.below⟩

/-! ### Tables -/
theorem evens_get {α : Type} : ∀ (l : List α) (k : Nat), (evens l)[k]? = l[2 * k]?
  | [], k => by simp [evens]
  | [x], k => by cases k <;> simp [evens]
  | x :: y :: r, 0 => by simp [evens]
  | x :: y :: r, k + 1 => by
    simp only [evens, List.getElem?_cons_succ]
    rw [evens_get r k, show 2 * (k + 1) = 2 * k + 1 + 1 by omega]
    simp
theorem odds_get {α : Type} : ∀ (l : List α) (k : Nat), (odds l)[k]? = l[2 * k + 1]?
  | [], k => by simp [odds]
  | [x], k => by simp [odds]
  | x :: y :: r, 0 => by simp [odds]
  | x :: y :: r, k + 1 => by
    simp only [odds, List.getElem?_cons_succ]
    rw [odds_get r k, show 2 * (k + 1) = 2 * k + 1 + 1 by omega]
    simp

theorem ofListF_get {α : Type} : ∀ (f : Nat) (l : List α) (n : Nat) (x : α), (Tr.ofListF f l).get n = some x → l[n]? = some x
  | 0, l, n, x, h => by simp [Tr.ofListF, Tr.get_nil] at h
  | f + 1, [], n, x, h => by simp [Tr.ofListF, Tr.get_nil] at h
  | f + 1, y :: r, 0, x, h => by simpa [Tr.ofListF, Tr.get_zero] using h
  | f + 1, y :: r, m + 1, x, h => by
    simp only [Tr.ofListF] at h
    rw [List.getElem?_cons_succ]
    rcases Nat.mod_two_eq_zero_or_one m with p | p
    · rw [Tr.get_odd _ _ _ _ p] at h
      have := ofListF_get f _ _ _ h
      rw [evens_get] at this
      rwa [show 2 * (m / 2) = m by omega] at this
    · rw [Tr.get_even _ _ _ _ p] at h
      have := ofListF_get f _ _ _ h
      rw [odds_get] at this
      rwa [show 2 * (m / 2) + 1 = m by omega] at this

theorem ofList_get {α : Type} {l : List α} {n : Nat} {x : α} (h : (Tr.ofList l).get n = some x) : l[n]? = some x := ofListF_get 64 l n x h

/-- the tables of a program, with hooks, and struct types that are compared -/
noncomputable def envOf (P : Program) (X S : Tr Nat) (bt : Nat := 16777215) : Env := ⟨Tr.ofList P.types.toList, Tr.ofList P.funcs.toList, X, S, bt⟩

/-- closed facts of a program -/
def fieldsIn (P : Program) : Bool :=
  P.types.toList.all fun i => match i.desc with
    | .struct fs => fs.toList.all fun f => Nat.blt f.type P.types.size
    | _ => true

def namesIn (P : Program) : Bool := P.funcs.toList.all fun f => !(f.name == "runtime.NumGoroutine")

theorem envOf_ok {P : Program} {X S : Tr Nat} {bt : Nat} (hm : P.follows .mixedOrders = true) (hf : fieldsIn P = true) (hn : namesIn P = true)
    (hS : ∀ t u, S.get t = some u → P.stoodInHeld t = false ∧ P.eqGuardType P.depth t = false) (hX : ∀ f k, X.get f = some k → HookOK P f k) : EnvOK P (envOf P X S bt) := {
  info := fun t i h => by
    have h1 := ofList_get h
    have h2 : P.types[t]? = some i := by simpa using h1
    have h3 := (Array.getElem?_eq_some_iff.1 h2).1
    simp only [Tables.info?]
    rw [if_pos h3]; exact h2
  func := fun f fn h => by
    have h1 := ofList_get h
    have h2 : P.funcs[f]? = some fn := by simpa using h1
    refine ⟨h2, ?_⟩
    unfold namesIn at hn
    rw [List.all_eq_true] at hn
    have := hn fn (List.mem_of_getElem? h1)
    simpa using this
  mixed := hm
  fields := fun t fs h f hfm => by
    have key : ∀ i : TypeInfo, i ∈ P.types.toList → i.desc = .struct fs → ∃ j, P.info? f.type = some j := by
      intro i hi hd
      unfold fieldsIn at hf
      rw [List.all_eq_true] at hf
      have h1 := hf i hi
      rw [hd] at h1
      simp only [List.all_eq_true] at h1
      have h2 : f.type < P.types.size := Nat.le_of_ble_eq_true (h1 f hfm)
      refine ⟨P.types[f.type]'h2, ?_⟩
      simp only [Tables.info?]
      rw [if_pos h2]; exact Array.getElem?_eq_getElem h2
    unfold Env.und at h
    split at h
    · split at h
      · rename_i j hj
        simp only [Option.some.injEq] at h
        exact key j (List.mem_of_getElem? (ofList_get hj)) h
      · simp at h
    · rename_i i hne hi
      simp only [Option.some.injEq] at h
      exact key i (List.mem_of_getElem? (ofList_get hi)) h
    · simp at h
  held := hS
  hooks := hX }

/-! ### Lists as tables -/
noncomputable def tabOf : List (Nat × Nat) → Tr Nat
  | [] => .nil
  | p :: l => (tabOf l).set p.1 p.2

theorem tabOf_mem : ∀ {l : List (Nat × Nat)} {f k : Nat}, (tabOf l).get f = some k → (f, k) ∈ l
  | [], f, k, h => by simp [tabOf, Tr.get_nil] at h
  | p :: l, f, k, h => by
    simp only [tabOf, Tr.get_set] at h
    split at h
    · rename_i e
      simp only [Option.some.injEq] at h
      subst e; subst h; exact List.mem_cons_self
    · exact List.mem_cons_of_mem _ (tabOf_mem h)

/-- may struct types of a list be compared? -/
def heldIn (P : Program) (l : List (Nat × Nat)) : Bool := l.all fun p => !P.stoodInHeld p.1 && !P.eqGuardType P.depth p.1

theorem envOf_list {P : Program} {X S : List (Nat × Nat)} {bt : Nat} (hm : P.follows .mixedOrders = true) (hf : fieldsIn P = true) (hn : namesIn P = true)
    (hS : heldIn P S = true) (hX : ∀ p ∈ X, HookOK P p.1 p.2) : EnvOK P (envOf P (tabOf X) (tabOf S) bt) :=
  envOf_ok hm hf hn (fun t u h => by
    have h1 := tabOf_mem h
    unfold heldIn at hS
    rw [List.all_eq_true] at hS
    have := hS _ h1
    simpa using this) (fun f k h => hX _ (tabOf_mem h))

end Go.Eng
end

section
open Go.RowKit
namespace Go.Eng

/-- a function without a body, for which an entry stands in -/
structure Stood (P : Program) (f : FuncId) (fn : Func) (e : Array Value → Sem Value) : Prop where
  hf : P.funcs[f]? = some fn
  hname : (fn.name == "runtime.NumGoroutine") = false
  hb : fn.body.isNone = true
  hn : Extern.findNext fn = none
  he : Extern.find fn = some e

theorem Stood.run {P : Program} {f : FuncId} {fn : Func} {e : Array Value → Sem Value} (s : Stood P f fn e) (args : Array Value) (w : World) :
    (callFunc f args).run P w = ((e args).run P w).andThen fun v w' => .ok (.value v) w' := run_callFunc_extern s.hf s.hname s.hb s.hn s.he args w

theorem VRs.three {φ : Pl} {x y z : Value} {cs : List Value} (h : VRs φ [x, y, z] cs) : ∃ a b c, cs = [a, b, c] ∧ VR φ x a ∧ VR φ y b ∧ VR φ z c := by
  cases h with
  | cons h1 t => cases t with
    | cons h2 t => cases t with
      | cons h3 t => cases t; exact ⟨_, _, _, rfl, h1, h2, h3⟩

def sub64Entry : Array Value → Sem Value := fun args => do
  let (x, y, b) ← Extern.MathBitsCarry.three "Sub64" args
  pure (Extern.MathBitsCarry.pair ((x + Extern.MathBitsCarry.m64 - y - b) % Extern.MathBitsCarry.m64) (if x < y + b then 1 else 0))

theorem run_sub64 {P : Program} (x y b : Nat) (hb : b ≤ 1) (w : World) :
    (sub64Entry #[.int .u64 x, .int .u64 y, .int .u64 b]).run P w =
      .ok (.tuple #[.int .u64 (((x + 18446744073709551616 - y - b) % 18446744073709551616 : Nat) : Int), .int .u64 ((if x < y + b then 1 else 0 : Nat) : Int)]) w := by
  have : b = 0 ∨ b = 1 := by omega
  rcases this with rfl | rfl <;> rfl

theorem VR.tuple2 {φ : Pl} {k k' : IntKind} (a b : Int) : VR φ (.tuple #[.int k a, .int k' b]) (.tuple #[.int k a, .int k' b]) :=
  VR.tuple (xs := [_, _]) (ys := [_, _]) (.cons (.int _ _) (.cons (.int _ _) .nil))

theorem hook_add64 {P : Program} {f : FuncId} {fn : Func} (s : Stood P f fn add64Entry) : HookOK P f 1 := by
  intro vs h v h' hk φ w cs hR hv
  have : ∃ x y c : Nat, vs = [.int .u64 (.ofNat x), .int .u64 (.ofNat y), .int .u64 (.ofNat c)] := by
    simp only [hook, hAdd] at hk
    split at hk
    · exact ⟨_, _, _, rfl⟩
    · simp at hk
  obtain ⟨x, y, c, rfl⟩ := this
  simp only [hook, hAdd] at hk
  split at hk
  · rename_i hc
    have hc := Nat.le_of_ble_eq_true hc
    simp only [Option.some.injEq, Prod.mk.injEq] at hk; obtain ⟨rfl, rfl⟩ := hk
    obtain ⟨a, b, d, rfl, h1, h2, h3⟩ := hv.three
    cases h1; cases h2; cases h3
    left
    refine ⟨_, φ, w, ?_, VR.tuple2 _ _, hR, Step.refl _ _ _⟩
    rw [s.run]
    have := run_add64 (P := P) x y c (by omega) (by omega) (by omega) (by omega) w
    rw [show ([Value.int IntKind.u64 (Int.ofNat x), Value.int IntKind.u64 (Int.ofNat y), Value.int IntKind.u64 (Int.ofNat c)].toArray) = #[.int .u64 (x : Int), .int .u64 (y : Int), .int .u64 (c : Int)] from rfl, this]
    rfl
  · simp at hk

theorem hook_sub64 {P : Program} {f : FuncId} {fn : Func} (s : Stood P f fn sub64Entry) : HookOK P f 2 := by
  intro vs h v h' hk φ w cs hR hv
  have : ∃ x y c : Nat, vs = [.int .u64 (.ofNat x), .int .u64 (.ofNat y), .int .u64 (.ofNat c)] := by
    simp only [hook, hSub] at hk
    split at hk
    · exact ⟨_, _, _, rfl⟩
    · simp at hk
  obtain ⟨x, y, c, rfl⟩ := this
  simp only [hook, hSub] at hk
  split at hk
  · rename_i hc
    have hc := Nat.le_of_ble_eq_true hc
    simp only [Option.some.injEq, Prod.mk.injEq] at hk; obtain ⟨rfl, rfl⟩ := hk
    obtain ⟨a, b, d, rfl, h1, h2, h3⟩ := hv.three
    cases h1; cases h2; cases h3
    left
    refine ⟨_, φ, w, ?_, VR.tuple2 _ _, hR, Step.refl _ _ _⟩
    rw [s.run]
    have := run_sub64 (P := P) x y c hc w
    rw [show ([Value.int IntKind.u64 (Int.ofNat x), Value.int IntKind.u64 (Int.ofNat y), Value.int IntKind.u64 (Int.ofNat c)].toArray) = #[.int .u64 (x : Int), .int .u64 (y : Int), .int .u64 (c : Int)] from rfl, this]
    simp only [Result.andThen]
    congr 5
    cases hb : Nat.blt x (y + c) with
    | true => rw [if_pos (by have := Nat.le_of_ble_eq_true hb; omega)]; rfl
    | false => rw [if_neg (fun h => by have : Nat.blt x (y + c) = true := Nat.ble_eq_true_of_le h; rw [hb] at this; simp at this)]; rfl
  · simp at hk

theorem hook_clone {P : Program} {f : FuncId} {fn : Func} (s : Stood P f fn Extern.MapsClone.clone) : HookOK P f 3 := by
  intro vs h v h' hk φ w cs hR hv
  have : ∃ t r, vs = [.iface t (.map (some r))] := by
    simp only [hook, hClone] at hk
    split at hk
    · exact ⟨_, _, rfl⟩
    · simp at hk
  obtain ⟨t, r, rfl⟩ := this
  simp only [hook, hClone] at hk
  split at hk
  · rename_i es c hg
    simp only [Option.some.injEq, Prod.mk.injEq] at hk; obtain ⟨rfl, rfl⟩ := hk
    cases hv with
    | cons h1 t1 =>
      cases t1
      cases h1 with
      | iface t h2 =>
        cases h2 with
        | map hp =>
          rename_i p
          obtain ⟨q, hq, es', hb, hes⟩ := hR.obj _ _ hg
          rw [hp] at hq; simp only [Option.some.injEq] at hq; subst hq
          have hn := hR.fresh h.next (Nat.le_refl _)
          obtain ⟨g1, g2⟩ := hR.new (.map es' c) (.map es c) 0 0 ⟨es', by simp, hes.mono (Pl.add_ext _ hn)⟩
          left
          refine ⟨_, _, _, ?_, .iface t (.map (Pl.add_self _ _ _)), g1, g2⟩
          rw [s.run]
          obtain ⟨said, e⟩ : ∃ said, Extern.MapsClone.clone [Value.iface t (.map (some p.b))].toArray = (getObj p.b >>= fun o => match o with
            | .map entries clock => (newObj (.map entries clock) >>= fun n => pure (.iface t (.map (some n))))
            | _ => stuck said) := ⟨_, rfl⟩
          rw [e]
          simp [MapKept.run_getObj_map hb, Result.andThen, go_sem]
  · simp at hk

end Go.Eng
end
