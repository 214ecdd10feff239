/-
  The abstract machine again, cut into small pieces so that the kernel runs it at little cost. Whatever it says, 'run' says (EngY). The machine in small pieces (EngX) says nothing that the abstract machine ('run') does not say. The machine in small pieces (EngX) says nothing that the abstract machine does not say: the rest. The abstract machine over a loaded program: its tables hold; what a closed run says true, a call returns true. Functions without a body that the abstract machine answers by itself: what it says is what the model's entry says. maps.Keys and slices.Sorted: what the abstract machine says of them is so, where the kit's contracts are laid.
-/
import Derived.Test.YtbhafgjcmgobmaaGreatDoorKEa
import Derived.Test.YtbhafgjcmgobmaaGreatDoorKEb
import Derived.Laws.Externs
import Derived.MapKept
import Derived.Maps.Own
import Derived.Lib.SlKeysI
set_option linter.all false

section
namespace Go.Eng

/-! ### Small parts -/
section
variable {α : Type} {β : Type}
@[reducible] noncomputable def oc (x : Option α) (k : α → Option β) : Option β := Option.rec (motive := fun _ => Option β) none k x
@[reducible] noncomputable def bc (b : Bool) (t e : β) : β := Bool.rec (motive := fun _ => β) e t b
/-- the i-th -/
noncomputable def nth (l : List α) : Nat → Option α :=
  List.rec (motive := fun _ => Nat → Option α) (fun _ => none) (fun x _ ih n => Nat.rec (motive := fun _ => Option α) (some x) (fun m _ => ih m) n) l
end

noncomputable def evO (m : Tr Value) (x : Operand) : Option Value :=
  Operand.casesOn (motive := fun _ => Option Value) x m.get (fun v => bc (plain v) (some v) none) (fun _ => none) (fun f => some (.func (.func f) #[] #[]))

noncomputable def evL (m : Tr Value) : List Operand → Option (List Value) :=
  List.rec (motive := fun _ => Option (List Value)) (some []) (fun x _ ih => oc (evO m x) fun v => oc ih fun l => some (v :: l))

abbrev OpF := Env → List Value → H → Option (Value × H)

noncomputable def pv (v : Option Value) (h : H) : Option (Value × H) :=
  match v with
  | some v => some (v, h)
  | none => none

noncomputable def fId : OpF
  | _, [v], h => some (v, h)
  | _, _, _ => none
noncomputable def fPick : OpF
  | _, [.bool b, x, y], h => match b with
    | true => some (x, h)
    | false => some (y, h)
  | _, _, _ => none
noncomputable def fPure (op : Op) : OpF := fun E vs h => pv (pureA E op vs) h
noncomputable def fNil : OpF
  | _, [v], h => match v with
    | .pointer (some p) => some (.pointer (some p), h)
    | .func (.func f) x y => some (.func (.func f) x y, h)
    | _ => none
  | _, _, _ => none

noncomputable def iop (op : BinOp) : IntKind → Int → Int → Option Value :=
  match op with
  | .add => fun k a b => some (.int k (k.wrap (a + b)))
  | .sub => fun k a b => some (.int k (k.wrap (a - b)))
  | .mul => fun k a b => some (.int k (k.wrap (a * b)))
  | .quo => fun k a b => pureRun (Op.intDiv .quo k a b)
  | .rem => fun k a b => pureRun (Op.intDiv .rem k a b)
  | .and => fun k a b => pureRun (Op.intBits .and k a b)
  | .or => fun k a b => pureRun (Op.intBits .or k a b)
  | .xor => fun k a b => pureRun (Op.intBits .xor k a b)
  | .andNot => fun k a b => pureRun (Op.intBits .andNot k a b)
  | .eql => fun _ a b => some (.bool (a == b))
  | .neq => fun _ a b => some (.bool (a != b))
  | .lss => fun _ a b => some (.bool (a < b))
  | .leq => fun _ a b => some (.bool (a ≤ b))
  | .gtr => fun _ a b => some (.bool (a > b))
  | .geq => fun _ a b => some (.bool (a ≥ b))
  | .shl => fun _ _ _ => none
  | .shr => fun _ _ _ => none

noncomputable def isShift : BinOp → Bool
  | .shl => true
  | .shr => true
  | _ => false

noncomputable def sameKind : IntKind → IntKind → Bool := fun a b => decide (a = b)

noncomputable def iopK (op : BinOp) (k k' : IntKind) (a b : Int) : Option Value :=
  match isShift op with
  | true => pureRun (Op.shift op k a k' b)
  | false => match sameKind k k' with
    | true => iop op k a b
    | false => none

noncomputable def u64v (n : Nat) : Option Value := some (.int .u64 (Int.ofNat n))
noncomputable def chk2 (a b : Nat) (r : Nat) : Option Value := match Nat.blt a 18446744073709551616, Nat.blt b 18446744073709551616 with
  | true, true => u64v r
  | _, _ => none
/-- of two u64s -/
noncomputable def bin64 : BinOp → Nat → Nat → Option Value
  | .add => fun a b => u64v (Nat.mod (Nat.add a b) 18446744073709551616)
  | .mul => fun a b => u64v (Nat.mod (Nat.mul a b) 18446744073709551616)
  | .sub => fun a b => chk2 a b (Nat.mod (Nat.sub (Nat.add a 18446744073709551616) b) 18446744073709551616)
  | .and => fun a b => chk2 a b (Nat.land a b)
  | .or => fun a b => chk2 a b (Nat.lor a b)
  | .xor => fun a b => chk2 a b (Nat.xor a b)
  | .shr => fun a b => u64v (Nat.div a (Nat.pow 2 (Nat.min b 64)))
  | .shl => fun a b => u64v (Nat.mod (Nat.mul a (Nat.pow 2 (Nat.min b 64))) 18446744073709551616)
  | .eql => fun a b => some (.bool (Nat.beq a b))
  | .neq => fun a b => some (.bool (Bool.not (Nat.beq a b)))
  | .lss => fun a b => some (.bool (Nat.blt a b))
  | .leq => fun a b => some (.bool (Nat.ble a b))
  | .gtr => fun a b => some (.bool (Nat.blt b a))
  | .geq => fun a b => some (.bool (Nat.ble b a))
  | op => fun a b => iopK op .u64 .u64 (Int.ofNat a) (Int.ofNat b)

noncomputable def nilEq (op : BinOp) (b : Bool) : Option Value :=
  match op with
  | .eql => some (.bool b)
  | .neq => some (.bool !b)
  | _ => none

noncomputable def fBin (op : BinOp) (t : TypeId) (X Y : Operand) : OpF
  | E, [x, y], h => match x with
    | .int k a => match y with
      | .int k' b => match a, b with
        | .ofNat a, .ofNat b => match k, k' with
          | .u64, .u64 => pv (bin64 op a b) h
          | k, k' => pv (iopK op k k' (.ofNat a) (.ofNat b)) h
        | a, b => pv (iopK op k k' a b) h
      | _ => none
    | x => pv (abin2 E op t X Y x y) h
  | _, _, _ => none

noncomputable def fUn (op : UnOp) (t : TypeId) (x : Operand) : OpF := fun E vs h => pv (pureA E (.unOp op t x) vs) h

noncomputable def fConv (s d : TypeId) (x : Operand) : OpF
  | E, [v], h => match v with
    | .int _ n => match E.und s, E.und d with
      | some _, some (.int k) => match E.und s with
        | some (.slice _) => none
        | _ => some (.int k (k.wrap n), h)
      | _, _ => none
    | v => match cls E (.convert s d x) with
      | .pure => pv (pureA E (.convert s d x) [v]) h
      | _ => effA E (.convert s d x) [v] h
  | _, _, _ => none

noncomputable def fMkI (t : TypeId) : OpF
  | E, [v], h => match E.und t with
    | some (.interface _) => none
    | some _ => some (.iface t v, h)
    | none => none
  | _, _, _ => none

noncomputable def fField (s : TypeId) (f : Nat) : OpF
  | E, [v], h => match v with
    | .pointer (some ⟨o, off, none⟩) => match E.und s with
      | some (.struct fs) => match fs.toList[f]? with
        | some f => match E.size f.type with
          | some (_ + 1) => some (.pointer (some ⟨o, off + f.offset, none⟩), h)
          | _ => none
        | none => none
      | _ => none
    | _ => none
  | _, _, _ => none

noncomputable def fIdx (t : TypeId) : OpF
  | E, [v, i], h => match v with
    | .slice (some ⟨o, off, none⟩) n _ => match i with
      | .int _ (.ofNat i) => match E.und t with
        | some (.slice el) => match E.size el, Nat.blt i n with
          | some sz, true => some (.pointer (some ⟨o, off + i * sz, none⟩), h)
          | _, _ => none
        | _ => none
      | _ => none
    | _ => none
  | _, _, _ => none

noncomputable def fExt (i : Nat) : OpF
  | _, [v], h => match v with
    | .tuple l => pv (l.toList[i]?) h
    | _ => none
  | _, _, _ => none

noncomputable def fNew (op : Op) : OpF := fun E vs h =>
  match newA E op vs with
  | some (x, k) => some (mk k h.next, h.new x)
  | none => none

noncomputable def fAlloc (t : TypeId) : OpF
  | E, [], h => match Nat.beq t E.bt with
   | true => fNew (.alloc t) E [] h
   | false => match E.zero t with
    | some z => match plain z with
      | true => some (.pointer (some ⟨h.next, 0, none⟩), h.new (.cells z.cells.toList t))
      | false => none
    | none => none
  | _, _, _ => none

noncomputable def fBox (t : TypeId) : OpF
  | _, [v], h => some (.pointer (some ⟨h.next, 0, none⟩), h.new (.cells v.cells.toList t))
  | _, _, _ => none

noncomputable def fLoad (t : TypeId) : OpF
  | E, [p], h => pv (loadA E h t p) h
  | _, _, _ => none

noncomputable def fStore (t : TypeId) : OpF
  | E, [p, v], h => match p with
    | .pointer (some ⟨o, off, none⟩) => match E.size t with
      | some n => match Nat.beq v.cells.size n, wr h o off v.cells.toList with
        | true, some h => some (undef, h)
        | _, _ => none
      | none => none
    | _ => none
  | _, _, _ => none

noncomputable def fEff (op : Op) : OpF := fun E vs h => effA E op vs h

/-- len: of a map, or of what has no memory -/
noncomputable def fLen (c : Call) : OpF := fun E vs h =>
  match cls E (.call c) with
  | .pure => pv (pureA E (.call c) vs) h
  | .eff => effA E (.call c) vs h
  | _ => none

noncomputable def fBuiltin (c : Call) : Builtin → OpF
  | .len => fLen c
  | .cap => fPure (.call c)
  | .min => fPure (.call c)
  | .max => fPure (.call c)
  | .append => fEff (.call c)
  | .copy => fEff (.call c)
  | .delete => fEff (.call c)
  | _ => fun _ _ _ => none

/-- what an operation does; none: it calls -/
noncomputable def opF : Op → OpF
  | .move _ => fId
  | .assign _ => fId
  | .pick _ _ _ => fPick
  | .alloc t => fAlloc t
  | .box t _ => fBox t
  | .build t ps => fPure (.build t ps)
  | .buildSlice t n ps => fNew (.buildSlice t n ps)
  | .load t _ => fLoad t
  | .store t _ _ => fStore t
  | .nilCheck _ => fNil
  | .binOp op t x y _ => fBin op t x y
  | .unOp op t x => fUn op t x
  | .convert s d x => fConv s d x
  | .makeInterface t _ => fMkI t
  | .makeFunc f a b => fPure (.makeFunc f a b)
  | .makeMap t r => fNew (.makeMap t r)
  | .makeSlice t l c => fNew (.makeSlice t l c)
  | .slice t x l h m => fPure (.slice t x l h m)
  | .fieldAddr s _ f => fField s f
  | .field s x f => fPure (.field s x f)
  | .indexAddr t _ _ => fIdx t
  | .index t x i => fPure (.index t x i)
  | .lookup t m k b => fEff (.lookup t m k b)
  | .mapUpdate t m k v => fEff (.mapUpdate t m k v)
  | .range t x => fNew (.range t x)
  | .next x b => fEff (.next x b)
  | .typeAssert x t u b => fPure (.typeAssert x t u b)
  | .extract _ i => fExt i
  | .call c => match c.callee with
    | .builtin b => fBuiltin c b
    | _ => fun _ _ _ => none
  | _ => fun _ _ _ => none

/-- is it a call of a function value? -/
noncomputable def isCall : Op → Bool
  | .call c => match c.callee with
    | .value _ => true
    | _ => false
  | _ => false

noncomputable def app3 (x y z : List Value) : List Value :=
  match x, z with
  | [], [] => y
  | x, z => x ++ y ++ z
noncomputable def callV (call : CallF) (vs : List Value) (h : H) : Option (Value × H) :=
  match vs with
  | v :: args => match v with
    | .func fn fi ca => match fn with
      | .func f => call f (app3 fi.toList args ca.toList) h
      | _ => none
    | _ => none
  | [] => none

noncomputable def doF (E : Env) (call : CallF) (op : Op) (vs : List Value) (h : H) : Option (Value × H) :=
  match isCall op with
  | true => callV call vs h
  | false => opF op E vs h

/-- temporaries and heap behind a step -/
abbrev St := Option (Tr Value × H)

noncomputable def putN (n : Nat) (d : Option Tmp) (m : Tr Value) (v : Value) (h : H) : St :=
  Option.rec (motive := fun _ => St) (some (m, h)) (fun d => bc (Nat.blt d n) (some (m.set d v, h)) none) d

noncomputable def putR (n : Nat) (d : Option Tmp) (m : Tr Value) (r : Option (Value × H)) : St :=
  oc r fun vh => Prod.rec (motive := fun _ => St) (putN n d m) vh

noncomputable def wantG (all : List Oper) (m : Tr Value) (g : Option (Nat × Bool)) : Option Bool :=
  Option.rec (motive := fun _ => Option Bool) (some true) (fun g => wantedA (some g) all ⟨0, m⟩) g

noncomputable def oneF (E : Env) (call : CallF) (n : Nat) (all : List Oper) (o : Oper) (m : Tr Value) (h : H) : St :=
  Oper.rec (motive := fun _ => St) (fun d op _ _ _ g => oc (wantG all m g) fun b => bc b (oc (evL m (opnds op)) fun vs => putR n d m (doF E call op vs h)) (putN n d m undef h)) o

noncomputable def opsF (E : Env) (call : CallF) (n : Nat) (all : List Oper) (l : List Oper) : Tr Value → H → St :=
  List.rec (motive := fun _ => Tr Value → H → St) (fun m h => some (m, h)) (fun o _ ih m h => oc (oneF E call n all o m h) fun mh => Prod.rec (motive := fun _ => St) ih mh) l

structure DF where
  done : Nat
  m : Tr Value
  h : H
  hist : List (Nat × H)

/-- ready? its operation and what lies ahead of it -/
noncomputable def pre1 (all : List Oper) (bs : List Nat) (i done : Nat) (k : Oper → Nat → Option DF) : Option DF :=
  oc (nth all i) fun o => oc (nth bs i) fun b => bc (Nat.beq (Nat.land b done) b) (bc (Nat.testBit done i) none (k o b)) none

noncomputable def stepF (E : Env) (call : CallF) (n : Nat) (all : List Oper) (bs : List Nat) (i : Nat) (s : DF) : Option DF :=
  DF.rec (motive := fun _ => Option DF) (fun done m h hist => pre1 all bs i done fun o b =>
    bc (anch E o)
      (bc (Nat.beq (Nat.land done b) done) (oc (oneF E call n all o m h) fun mh => Prod.rec (motive := fun _ => Option DF) (fun m h => some ⟨Nat.lor done (Nat.pow 2 i), m, h, (i, h) :: hist⟩) mh) none)
      (bc (stableD E all o b ⟨done, ⟨n, m⟩, h, hist⟩) (oc (oneF E call n all o m h) fun mh => Prod.rec (motive := fun _ => Option DF) (fun m h => some ⟨Nat.lor done (Nat.pow 2 i), m, h, hist⟩) mh) none)) s

noncomputable def goF (E : Env) (call : CallF) (n : Nat) (all : List Oper) (bs : List Nat) (l : List Nat) : DF → Option DF :=
  List.rec (motive := fun _ => DF → Option DF) (fun s => some s) (fun i _ ih s => oc (stepF E call n all bs i s) ih) l

/-- what is said of a region once -/
structure Reg where
  bs : List Nat
  ord : List Nat
  len : Nat
noncomputable def regK (E : Env) (all : List Oper) : Option Reg :=
  match preds [] all, splitE E all 0 with
  | bs, (es, fs) => bc (okR E all bs all 0) (some ⟨bs, ordA bs es fs, all.length⟩) none

noncomputable def endF (len : Nat) (s : DF) : St :=
  DF.rec (motive := fun _ => St) (fun done m h _ => bc (Nat.beq (Nat.succ done) (Nat.pow 2 len)) (some (m, h)) none) s

noncomputable def regF (E : Env) (call : CallF) (n : Nat) (all : List Oper) (m : Tr Value) (h : H) : St :=
  oc (regK E all) fun r => Reg.rec (motive := fun _ => St) (fun bs ord len => oc (goF E call n all bs ord ⟨0, m, h, [(len, h)]⟩) (endF len)) r

abbrev RX := Option (X × Tr Value × H)
abbrev RunF := Nat → Code → Tr Value → H → RX

noncomputable def backF (E : Env) (n : Nat) (fn : Func) (m : Tr Value) (h : H) : Option (Value × H) :=
  oc (resultA E h ⟨n, m⟩ fn.results.toList) fun v => some (v, h)

noncomputable def outF (E : Env) (n : Nat) (fn : Func) (r : RX) : Option (Value × H) :=
  oc r fun x => Prod.rec (motive := fun _ => Option (Value × H)) (fun x mh => Prod.rec (motive := fun _ => Option (Value × H)) (fun m h => X.rec (motive := fun _ => Option (Value × H)) (backF E n fn m h) (fun _ => none) (backF E n fn m h) x) mh) x

noncomputable def lenN (l : List Value) : Nat := List.rec (motive := fun _ => Nat) 0 (fun _ _ n => Nat.succ n) l

noncomputable def enterL (l : List Value) : Nat → Tr Value → Tr Value :=
  List.rec (motive := fun _ => Nat → Tr Value → Tr Value) (fun _ m => m) (fun v _ ih i m => ih (Nat.succ i) (m.set i v)) l

noncomputable def enterF (E : Env) (rec : RunF) (fn : Func) (args : List Value) (h : H) : Option (Value × H) :=
  oc fn.body fun b => bc (Nat.ble (lenN args) fn.ntmps) (outF E fn.ntmps fn (rec fn.ntmps b (enterL args 0 .nil) h)) none

noncomputable def callF (E : Env) (rec : RunF) : CallF := fun f args h =>
  Option.rec (motive := fun _ => Option (Value × H)) (oc (E.F.get f) fun fn => enterF E rec fn args h) (fun k => hook k args h) (E.X.get f)

noncomputable def normF (r : St) : RX := oc r fun mh => some (.normal, mh)

noncomputable def cReg (os : Array Oper) (dr : Bool) (E : Env) (rec : RunF) (n : Nat) (m : Tr Value) (h : H) : RX :=
  normF (bc dr (regF E (callF E rec) n os.toList m h) (opsF E (callF E rec) n os.toList os.toList m h))
noncomputable def thenF (r : RX) (k : Tr Value → H → RX) : RX :=
  oc r fun x => Prod.rec (motive := fun _ => RX) (fun x mh => X.rec (motive := fun _ => RX) (Prod.rec (motive := fun _ => RX) k mh) (fun j => some (.exit j, mh)) (some (.ret, mh)) x) x
noncomputable def cSeq (x y : Code) (_ : Env) (rec : RunF) (n : Nat) (m : Tr Value) (h : H) : RX :=
  thenF (rec n x m h) (rec n y)
noncomputable def boolV (v : Value) : Option Bool := match v with
  | .bool b => some b
  | _ => none
noncomputable def cCond (c : Operand) (x y : Code) (_ : Env) (rec : RunF) (n : Nat) (m : Tr Value) (h : H) : RX :=
  oc (evO m c) fun v => oc (boolV v) fun b => bc b (rec n x m h) (rec n y m h)
noncomputable def cBlock (id : Nat) (b : Code) (_ : Env) (rec : RunF) (n : Nat) (m : Tr Value) (h : H) : RX :=
  oc (rec n b m h) fun x => Prod.rec (motive := fun _ => RX) (fun x mh => X.rec (motive := fun _ => RX) (some (.normal, mh)) (fun j => bc (Nat.beq j id) (some (.normal, mh)) (some (.exit j, mh))) (some (.ret, mh)) x) x
noncomputable def cLoop (b : Code) (_ : Env) (rec : RunF) (n : Nat) (m : Tr Value) (h : H) : RX :=
  thenF (rec n b m h) (rec n (.loop b))
noncomputable def cX (x : X) (_ : Env) (_ : RunF) (_ : Nat) (m : Tr Value) (h : H) : RX := some (x, m, h)
noncomputable def cNo (_ : Env) (_ : RunF) (_ : Nat) (_ : Tr Value) (_ : H) : RX := none
noncomputable def cScope (b : Code) (_ : Env) (rec : RunF) (n : Nat) (m : Tr Value) (h : H) : RX := rec n b m h

noncomputable def codeF (c : Code) : Env → RunF → Nat → Tr Value → H → RX :=
  match c with
  | .skip => cX .normal
  | .label _ => cX .normal
  | .region _ os dr => cReg os dr
  | .seq x y => cSeq x y
  | .cond c x y => cCond c x y
  | .block id b => cBlock id b
  | .loop b => cLoop b
  | .scope b => cScope b
  | .exit id => cX (.exit id)
  | .ret => cX .ret
  | _ => cNo

noncomputable def runF (E : Env) (f : Nat) : RunF :=
  Nat.rec (motive := fun _ => RunF) (fun _ _ _ _ => none) (fun _ ih n c m h => codeF c E ih n m h) f

noncomputable def yesF (E : Env) (n : Nat) (f : FuncId) : Bool :=
  match callF E (runF E n) f [] H.empty with
  | some (v, _) => match v with
    | .bool b => b
    | _ => false
  | none => false

end Go.Eng
end

section
namespace Go.Eng
variable {E : Env}

theorem pv_some {v : Option Value} {h : H} {r : Value × H} (e : pv v h = some r) : v = some r.1 ∧ r.2 = h := by
  unfold pv at e; split at e
  · simp at e; subst e; exact ⟨rfl, rfl⟩
  · simp at e

theorem opA_pure {call : CallF} {op : Op} {vs : List Value} {h : H} {r : Value × H} (hc : cls E op = .pure) (h1 : pureA E op vs = some r.1) (h2 : r.2 = h) : opA E call op vs h = some r := by
  unfold opA; rw [hc]; simp only [h1]; subst h2; rfl

theorem opA_fpure {call : CallF} {op : Op} {vs : List Value} {h : H} {r : Value × H} (hc : cls E op = .pure) (h1 : fPure op E vs h = some r) : opA E call op vs h = some r := by
  obtain ⟨a, b⟩ := pv_some h1
  exact opA_pure hc a b

theorem opA_new {call : CallF} {op : Op} {vs : List Value} {h : H} {r : Value × H} (hc : cls E op = .new) (h1 : fNew op E vs h = some r) : opA E call op vs h = some r := by
  unfold opA; rw [hc]; exact h1

theorem opA_eff {call : CallF} {op : Op} {vs : List Value} {h : H} {r : Value × H} (hc : cls E op = .eff) (hn : isCall op = false) (h1 : effA E op vs h = some r) : opA E call op vs h = some r := by
  unfold opA; rw [hc]
  simp only
  split
  · simp [isCall] at hn
  · exact h1

theorem isShift_false {op : BinOp} (h : isShift op = false) : op ≠ .shl ∧ op ≠ .shr := by
  constructor <;> (rintro rfl; simp [isShift] at h)

theorem iopK_abin {op : BinOp} {t : TypeId} {k k' : IntKind} {a b : Int} {v : Value} (h : iopK op k k' a b = some v) : abin E op t (.int k a) (.int k' b) = some v := by
  unfold iopK at h
  split at h
  · rename_i hs
    cases op <;> simp [isShift] at hs <;> exact h
  · rename_i hs
    split at h
    · rename_i hk
      have hk' : decide (k = k') = true := hk
      cases op <;> simp [isShift] at hs <;> (simp only [iop] at h; simp only [abin, hk']; exact h)
    · simp at h

theorem u64_lt {x : Nat} (h : Nat.blt x 18446744073709551616 = true) : x < 18446744073709551616 := by
  have := Nat.le_of_ble_eq_true h; omega

theorem wrap_nat (n : Nat) : IntKind.u64.wrap (Int.ofNat n) = Int.ofNat (n % 18446744073709551616) := by
  rw [IntKind.wrap_u64]; show (n : Int) % _ = _; simp

theorem bits_of {n : Nat} (h : n < 18446744073709551616) : (BitVec.ofInt IntKind.u64.bits (Int.ofNat n)).toNat = n := by
  show (BitVec.ofInt 64 (n : Int)).toNat = n
  rw [BitVec.ofInt_natCast, BitVec.toNat_ofNat, Nat.mod_eq_of_lt h]

theorem bin64_abin {op : BinOp} {t : TypeId} {a b : Nat} {v : Value} (h : bin64 op a b = some v) : abin E op t (.int .u64 (Int.ofNat a)) (.int .u64 (Int.ofNat b)) = some v := by
  cases op with
  | add =>
    simp only [bin64, u64v, Option.some.injEq] at h; subst h
    simp only [abin, decide_true]
    rw [show (Int.ofNat a + Int.ofNat b) = Int.ofNat (a + b) from rfl, wrap_nat]; rfl
  | mul =>
    simp only [bin64, u64v, Option.some.injEq] at h; subst h
    simp only [abin, decide_true]
    rw [show (Int.ofNat a * Int.ofNat b) = Int.ofNat (a * b) from rfl, wrap_nat]; rfl
  | sub =>
    simp only [bin64, chk2] at h
    split at h
    · rename_i ha hb
      have ha := u64_lt ha; have hb := u64_lt hb
      simp only [u64v, Option.some.injEq] at h; subst h
      simp only [abin, decide_true]
      congr 2
      rw [IntKind.wrap_u64]
      show ((a : Int) - (b : Int)) % 18446744073709551616 = ((Nat.mod (Nat.sub (Nat.add a 18446744073709551616) b) 18446744073709551616 : Nat) : Int)
      show ((a : Int) - (b : Int)) % 18446744073709551616 = (((a + 18446744073709551616 - b) % 18446744073709551616 : Nat) : Int)
      omega
    · simp at h
  | and =>
    simp only [bin64, chk2] at h
    split at h
    · rename_i ha hb
      have ha := u64_lt ha; have hb := u64_lt hb
      simp only [u64v, Option.some.injEq] at h; subst h
      simp only [abin, decide_true, Op.intBits, pureRun, pure]
      congr 2
      have : ((BitVec.ofInt IntKind.u64.bits (Int.ofNat a)) &&& (BitVec.ofInt IntKind.u64.bits (Int.ofNat b))).toNat = a &&& b := by
        rw [BitVec.toNat_and, bits_of ha, bits_of hb]
      rw [this]
      have hl : a &&& b < 18446744073709551616 := Nat.lt_of_le_of_lt Nat.and_le_left ha
      show IntKind.u64.wrap (Int.ofNat (a &&& b)) = _
      rw [wrap_nat, Nat.mod_eq_of_lt hl]; rfl
    · simp at h
  | or =>
    simp only [bin64, chk2] at h
    split at h
    · rename_i ha hb
      have ha := u64_lt ha; have hb := u64_lt hb
      simp only [u64v, Option.some.injEq] at h; subst h
      simp only [abin, decide_true, Op.intBits, pureRun, pure]
      congr 2
      have : ((BitVec.ofInt IntKind.u64.bits (Int.ofNat a)) ||| (BitVec.ofInt IntKind.u64.bits (Int.ofNat b))).toNat = a ||| b := by
        rw [BitVec.toNat_or, bits_of ha, bits_of hb]
      rw [this]
      have hl : a ||| b < 2 ^ 64 := Nat.or_lt_two_pow (by simpa using ha) (by simpa using hb)
      show IntKind.u64.wrap (Int.ofNat (a ||| b)) = _
      rw [wrap_nat, Nat.mod_eq_of_lt (by simpa using hl)]; rfl
    · simp at h
  | xor =>
    simp only [bin64, chk2] at h
    split at h
    · rename_i ha hb
      have ha := u64_lt ha; have hb := u64_lt hb
      simp only [u64v, Option.some.injEq] at h; subst h
      simp only [abin, decide_true, Op.intBits, pureRun, pure]
      congr 2
      have : ((BitVec.ofInt IntKind.u64.bits (Int.ofNat a)) ^^^ (BitVec.ofInt IntKind.u64.bits (Int.ofNat b))).toNat = a ^^^ b := by
        rw [BitVec.toNat_xor, bits_of ha, bits_of hb]
      rw [this]
      have hl : a ^^^ b < 2 ^ 64 := Nat.xor_lt_two_pow (by simpa using ha) (by simpa using hb)
      show IntKind.u64.wrap (Int.ofNat (a ^^^ b)) = _
      rw [wrap_nat, Nat.mod_eq_of_lt (by simpa using hl)]; rfl
    · simp at h
  | shr =>
    simp only [bin64, u64v, Option.some.injEq] at h; subst h
    simp only [abin, Op.shift]
    rw [if_neg (by show ¬ ((b : Int) < 0); omega)]
    simp only [pureRun, pure]
    congr 2
    show ((a : Int)).fdiv (2 ^ min b 64) = ((a / 2 ^ min b 64 : Nat) : Int)
    rw [show ((2 : Int) ^ min b 64) = ((2 ^ min b 64 : Nat) : Int) by simp, Int.fdiv_eq_ediv_of_nonneg _ (Int.natCast_nonneg _)]
    rfl
  | shl =>
    simp only [bin64, u64v, Option.some.injEq] at h; subst h
    simp only [abin, Op.shift]
    rw [if_neg (by show ¬ ((b : Int) < 0); omega)]
    simp only [pureRun, pure]
    congr 2
  | eql =>
    simp only [bin64, Option.some.injEq] at h; subst h
    simp only [abin, decide_true]
    congr 2
    rw [Bool.eq_iff_iff]
    show ((Int.ofNat a == Int.ofNat b) = true) ↔ (Nat.beq a b = true)
    rw [Nat.beq_eq]; simp; omega
  | neq =>
    simp only [bin64, Option.some.injEq] at h; subst h
    simp only [abin, decide_true]
    congr 2
    show (!(Int.ofNat a == Int.ofNat b)) = !Nat.beq a b
    congr 1
    rw [Bool.eq_iff_iff]
    show ((Int.ofNat a == Int.ofNat b) = true) ↔ (Nat.beq a b = true)
    rw [Nat.beq_eq]; simp; omega
  | lss =>
    simp only [bin64, Option.some.injEq] at h; subst h
    simp only [abin, decide_true]
    congr 2
    show decide ((a : Int) < (b : Int)) = Nat.blt a b
    rw [Bool.eq_iff_iff, Nat.blt_eq]; simp
  | leq =>
    simp only [bin64, Option.some.injEq] at h; subst h
    simp only [abin, decide_true]
    congr 2
    show decide ((a : Int) ≤ (b : Int)) = Nat.ble a b
    rw [Bool.eq_iff_iff, Nat.ble_eq]; simp
  | gtr =>
    simp only [bin64, Option.some.injEq] at h; subst h
    simp only [abin, decide_true]
    congr 2
    show decide ((a : Int) > (b : Int)) = Nat.blt b a
    rw [Bool.eq_iff_iff, Nat.blt_eq]; simp
  | geq =>
    simp only [bin64, Option.some.injEq] at h; subst h
    simp only [abin, decide_true]
    congr 2
    show decide ((a : Int) ≥ (b : Int)) = Nat.ble b a
    rw [Bool.eq_iff_iff, Nat.ble_eq]; simp
  | quo => exact iopK_abin h
  | rem => exact iopK_abin h
  | andNot => exact iopK_abin h

theorem fBin_pure {op : BinOp} {t : TypeId} {x y : Operand} {u : TypeId} {vs : List Value} {h : H} {r : Value × H} (h1 : fBin op t x y E vs h = some r) : pureA E (.binOp op t x y u) vs = some r.1 ∧ r.2 = h := by
  unfold fBin at h1
  split at h1
  · rename_i x y
    split at h1
    · rename_i k a
      split at h1
      · rename_i k' b
        split at h1
        · rename_i a b
          split at h1
          · obtain ⟨e1, e2⟩ := pv_some h1; exact ⟨by simp only [pureA, abin2]; exact bin64_abin e1, e2⟩
          · obtain ⟨e1, e2⟩ := pv_some h1; exact ⟨by simp only [pureA, abin2]; exact iopK_abin e1, e2⟩
        · obtain ⟨e1, e2⟩ := pv_some h1; exact ⟨by simp only [pureA, abin2]; exact iopK_abin e1, e2⟩
      · simp at h1
    · obtain ⟨e1, e2⟩ := pv_some h1; exact ⟨e1, e2⟩
  · simp at h1

theorem opF_imp {call : CallF} {op : Op} {vs : List Value} {h : H} {r : Value × H} (hn : isCall op = false) (h1 : opF op E vs h = some r) : opA E call op vs h = some r := by
  cases op with
  | move x =>
    simp only [opF] at h1; unfold fId at h1
    split at h1
    · simp at h1; subst h1; exact opA_pure rfl rfl rfl
    · simp at h1
  | assign x =>
    simp only [opF] at h1; unfold fId at h1
    split at h1
    · simp at h1; subst h1; exact opA_pure rfl rfl rfl
    · simp at h1
  | pick c x y =>
    simp only [opF] at h1; unfold fPick at h1
    split at h1
    · split at h1 <;> (simp at h1; subst h1; exact opA_pure rfl rfl rfl)
    · simp at h1
  | alloc t =>
    simp only [opF] at h1; unfold fAlloc at h1
    split at h1
    · split at h1
      · exact opA_new rfl h1
      · rename_i hbt
        split at h1
        · rename_i z hz
          split at h1
          · rename_i hp
            simp at h1; subst h1
            unfold opA; simp only [cls, newA, hbt, hz, hp, mk]
          · simp at h1
        · simp at h1
    · simp at h1
  | box t x =>
    simp only [opF] at h1; unfold fBox at h1
    split at h1
    · simp at h1; subst h1
      unfold opA; simp only [cls, newA, mk]
    · simp at h1
  | build t ps => exact opA_fpure rfl h1
  | buildSlice t n ps => exact opA_new rfl h1
  | load t x =>
    simp only [opF] at h1; unfold fLoad at h1
    split at h1
    · obtain ⟨e1, e2⟩ := pv_some h1
      unfold opA; simp only [cls, e1]; subst e2; rfl
    · simp at h1
  | store t x y =>
    simp only [opF] at h1; unfold fStore at h1
    split at h1
    · split at h1
      · refine opA_eff rfl rfl ?_
        simp only [effA]; exact h1
      · simp at h1
    · simp at h1
  | nilCheck x =>
    simp only [opF] at h1; unfold fNil at h1
    split at h1
    · split at h1
      · simp at h1; subst h1; exact opA_pure rfl rfl rfl
      · simp at h1; subst h1; exact opA_pure rfl rfl rfl
      · simp at h1
    · simp at h1
  | binOp op t x y u =>
    obtain ⟨e1, e2⟩ := fBin_pure (x := x) (y := y) (u := u) h1
    exact opA_pure rfl e1 e2
  | unOp op t x => exact opA_fpure rfl h1
  | convert s d x =>
    simp only [opF] at h1; unfold fConv at h1
    split at h1
    · split at h1
      · split at h1
        · rename_i d1 k hs hd
          split at h1
          · simp at h1
          · rename_i hns
            simp at h1; subst h1
            refine opA_pure ?_ ?_ rfl
            · simp only [cls]
              first
                | done
                | (split
                   · rename_i e he; exact absurd he (hns e)
                   · rfl)
            · simp only [pureA, hs, hd]
        · simp at h1
      · split at h1
        · rename_i hc
          obtain ⟨e1, e2⟩ := pv_some h1
          exact opA_pure hc e1 e2
        · rename_i hc
          refine opA_eff ?_ rfl h1
          revert hc
          simp only [cls]
          split
          · intro _; rfl
          · intro hc; exact absurd rfl hc
    · simp at h1
  | makeInterface t x =>
    simp only [opF] at h1; unfold fMkI at h1
    split at h1
    · split at h1
      · simp at h1
      · rename_i d hne hd
        simp at h1; subst h1
        refine opA_pure rfl ?_ rfl
        simp only [pureA, hd]
      · simp at h1
    · simp at h1
  | makeFunc f a b => exact opA_fpure rfl h1
  | makeMap t r => exact opA_new rfl h1
  | makeSlice t l c => exact opA_new rfl h1
  | slice t x l hh m => exact opA_fpure rfl h1
  | fieldAddr s x f =>
    simp only [opF] at h1; unfold fField at h1
    split at h1
    · split at h1
      · split at h1
        · rename_i fs hs
          split at h1
          · rename_i g hg
            split at h1
            · rename_i q hq
              simp at h1; subst h1
              refine opA_pure rfl ?_ rfl
              simp only [pureA, hs, hg, hq]
            · simp at h1
          · simp at h1
        · simp at h1
      · simp at h1
    · simp at h1
  | field s x f => exact opA_fpure rfl h1
  | indexAddr t x i =>
    simp only [opF] at h1; unfold fIdx at h1
    split at h1
    · split at h1
      · split at h1
        · split at h1
          · rename_i el hs
            split at h1
            · rename_i sz h2 h3
              simp at h1; subst h1
              refine opA_pure rfl ?_ rfl
              simp only [pureA, hs, h2, h3]
            · simp at h1
          · simp at h1
        · simp at h1
      · simp at h1
    · simp at h1
  | index t x i => exact opA_fpure rfl h1
  | lookup t m k b => exact opA_eff rfl rfl h1
  | mapUpdate t m k v => exact opA_eff rfl rfl h1
  | range t x => exact opA_new rfl h1
  | next x b => exact opA_eff rfl rfl h1
  | typeAssert x t u b => exact opA_fpure rfl h1
  | extract x i =>
    simp only [opF] at h1; unfold fExt at h1
    split at h1
    · split at h1
      · obtain ⟨e1, e2⟩ := pv_some h1
        refine opA_pure rfl ?_ e2
        simp only [pureA]; exact e1
      · simp at h1
    · simp at h1
  | call c =>
    obtain ⟨cal, ts, rest⟩ := c
    cases cal with
    | builtin b =>
      cases b with
      | len =>
        have h1 : fLen _ E vs h = some r := h1
        simp only [fLen] at h1
        split at h1
        · rename_i hc
          obtain ⟨e1, e2⟩ := pv_some h1
          exact opA_pure hc e1 e2
        · rename_i hc
          exact opA_eff hc hn h1
        · simp at h1
      | cap => exact opA_fpure rfl h1
      | min => exact opA_fpure rfl h1
      | max => exact opA_fpure rfl h1
      | append => exact opA_eff rfl hn h1
      | copy => exact opA_eff rfl hn h1
      | delete => exact opA_eff rfl hn h1
      | _ => simp [opF, fBuiltin] at h1
    | value f => simp [isCall] at hn
    | _ => simp [opF] at h1
  | _ => simp [opF] at h1

end Go.Eng
end

section
namespace Go.Eng
variable {E : Env}

theorem oc_some {α β : Type} {x : Option α} {k : α → Option β} {r : β} (h : oc x k = some r) : ∃ a, x = some a ∧ k a = some r := by
  cases x with
  | none => simp [oc] at h
  | some a => exact ⟨a, rfl, h⟩
theorem bc_true {β : Type} {t e : β} : bc true t e = t := rfl
theorem bc_false {β : Type} {t e : β} : bc false t e = e := rfl

theorem nth_get {α : Type} : ∀ (l : List α) (n : Nat), nth l n = l[n]?
  | [], n => by simp [nth]
  | x :: l, 0 => rfl
  | x :: l, n + 1 => by simp only [List.getElem?_cons_succ]; exact nth_get l n

theorem evO_ev (n : Nat) (m : Tr Value) (x : Operand) : evO m x = ev ⟨n, m⟩ x := by
  cases x with
  | tmp t => rfl
  | const v => simp only [evO, ev]; cases plain v <;> rfl
  | global g => rfl
  | func f => rfl

theorem evL_evs (n : Nat) (m : Tr Value) : ∀ l, evL m l = evs ⟨n, m⟩ l
  | [] => rfl
  | x :: l => by
    have ih := evL_evs n m l
    show oc (evO m x) (fun v => oc (evL m l) fun l => some (v :: l)) = _
    rw [ih, evO_ev n]
    simp only [evs]
    cases ev ⟨n, m⟩ x with
    | none => rfl
    | some v => cases evs ⟨n, m⟩ l <;> rfl

theorem app3_eq (x y z : List Value) : app3 x y z = x ++ y ++ z := by
  unfold app3; split <;> simp

theorem putN_putT {n : Nat} {d : Option Tmp} {m m' : Tr Value} {v : Value} {h h' : H} (e : putN n d m v h = some (m', h')) : putT ⟨n, m⟩ d v = some ⟨n, m'⟩ ∧ h' = h := by
  cases d with
  | none => simp only [putN, Option.some.injEq, Prod.mk.injEq] at e; obtain ⟨rfl, rfl⟩ := e; exact ⟨rfl, rfl⟩
  | some d =>
    simp only [putN] at e
    cases hb : Nat.blt d n with
    | false => rw [hb] at e; simp [bc] at e
    | true => rw [hb] at e; simp only [bc, Option.some.injEq, Prod.mk.injEq] at e; obtain ⟨rfl, rfl⟩ := e; exact ⟨by simp only [putT, hb], rfl⟩

theorem wantG_eq (n : Nat) (all : List Oper) (m : Tr Value) (g : Option (Nat × Bool)) : wantG all m g = wantedA g all ⟨n, m⟩ := by
  cases g with
  | none => rfl
  | some g => rfl

theorem doF_imp {call : CallF} {op : Op} {vs : List Value} {h : H} {r : Value × H} (h1 : doF E call op vs h = some r) : opA E call op vs h = some r := by
  unfold doF at h1
  split at h1
  · rename_i hc
    cases op with
    | call c =>
      obtain ⟨cal, ts, rest⟩ := c
      cases cal with
      | value f =>
        unfold callV at h1
        split at h1
        · split at h1
          · split at h1
            · rw [app3_eq] at h1
              unfold opA; simp only [cls]; exact h1
            · simp at h1
          · simp at h1
        · simp at h1
      | _ => simp [isCall] at hc
    | _ => simp [isCall] at hc
  · rename_i hc; exact opF_imp hc h1

def CallImp (c c' : CallF) : Prop := ∀ f vs h r, c f vs h = some r → c' f vs h = some r

theorem opA_mono {c c' : CallF} (hc : CallImp c c') {op : Op} {vs : List Value} {h : H} {r : Value × H} (h1 : opA E c op vs h = some r) : opA E c' op vs h = some r := by
  unfold opA at h1 ⊢
  cases hcl : cls E op <;> rw [hcl] at h1
  · exact h1
  · exact h1
  · exact h1
  · dsimp only at h1 ⊢
    split at h1
    · exact hc _ _ _ _ h1
    · exact h1

theorem oneF_imp {c c' : CallF} (hc : CallImp c c') {n : Nat} {all : List Oper} {o : Oper} {m m' : Tr Value} {h h' : H} (h1 : oneF E c n all o m h = some (m', h')) : oneA E c' all o ⟨n, m⟩ h = some (⟨n, m'⟩, h') := by
  obtain ⟨d, op, ty, pos, af, g⟩ := o
  have h1 : (oc (wantG all m g) fun b => bc b (oc (evL m (opnds op)) fun vs => putR n d m (doF E c op vs h)) (putN n d m undef h)) = some (m', h') := h1
  obtain ⟨b, hb, h1⟩ := oc_some h1
  rw [wantG_eq n] at hb
  unfold oneA; simp only [hb]
  cases b with
  | false =>
    rw [bc_false] at h1
    obtain ⟨e1, rfl⟩ := putN_putT h1
    simp only [e1]
  | true =>
    rw [bc_true] at h1
    obtain ⟨vs, hv, h1⟩ := oc_some h1
    rw [evL_evs n] at hv
    obtain ⟨⟨v, h2⟩, hd, h1⟩ := oc_some h1
    obtain ⟨e1, rfl⟩ := putN_putT (h := h2) h1
    simp only [hv, opA_mono hc (doF_imp hd), e1]

theorem opsF_imp {c c' : CallF} (hc : CallImp c c') {n : Nat} {all : List Oper} : ∀ (l : List Oper) {m m' : Tr Value} {h h' : H}, opsF E c n all l m h = some (m', h') → opsA E c' all l ⟨n, m⟩ h = some (⟨n, m'⟩, h')
  | [], m, m', h, h', h1 => by simp only [opsF, Option.some.injEq, Prod.mk.injEq] at h1; obtain ⟨rfl, rfl⟩ := h1; rfl
  | o :: l, m, m', h, h', h1 => by
    have h1 : (oc (oneF E c n all o m h) fun mh => Prod.rec (motive := fun _ => St) (opsF E c n all l) mh) = some (m', h') := h1
    obtain ⟨⟨m2, h2⟩, e1, e2⟩ := oc_some h1
    simp only [opsA, oneF_imp hc e1]
    exact opsF_imp hc l e2

def DF.to (n : Nat) (s : DF) : DS := ⟨s.done, ⟨n, s.m⟩, s.h, s.hist⟩

theorem stepF_imp {c c' : CallF} (hc : CallImp c c') {n : Nat} {all : List Oper} {bs : List Nat} {i : Nat} {s s' : DF} (h1 : stepF E c n all bs i s = some s') : stepD E c' all bs i (s.to n) = some (s'.to n) := by
  obtain ⟨done, m, h, hist⟩ := s
  have h1 : (pre1 all bs i done fun o b =>
    bc (anch E o)
      (bc (Nat.beq (Nat.land done b) done) (oc (oneF E c n all o m h) fun mh => Prod.rec (motive := fun _ => Option DF) (fun m h => some ⟨Nat.lor done (Nat.pow 2 i), m, h, (i, h) :: hist⟩) mh) none)
      (bc (stableD E all o b ⟨done, ⟨n, m⟩, h, hist⟩) (oc (oneF E c n all o m h) fun mh => Prod.rec (motive := fun _ => Option DF) (fun m h => some ⟨Nat.lor done (Nat.pow 2 i), m, h, hist⟩) mh) none)) = some s' := h1
  unfold pre1 at h1
  obtain ⟨o, ho, h1⟩ := oc_some h1
  obtain ⟨b, hb, h1⟩ := oc_some h1
  rw [nth_get] at ho hb
  cases hx : Nat.beq (Nat.land b done) b with
  | false => rw [hx, bc_false] at h1; simp at h1
  | true =>
    rw [hx, bc_true] at h1
    cases hy : Nat.testBit done i with
    | true => rw [hy, bc_true] at h1; simp at h1
    | false =>
      rw [hy, bc_false] at h1
      dsimp only at h1
      unfold stepD
      simp only [DF.to, ho, hb, hx, hy]
      cases hz : anch E o with
      | true =>
        rw [hz, bc_true] at h1
        simp only
        cases hw : Nat.beq (Nat.land done b) done with
        | false => rw [hw, bc_false] at h1; simp at h1
        | true =>
          rw [hw, bc_true] at h1
          obtain ⟨⟨m2, h2⟩, e1, e2⟩ := oc_some h1
          simp only [Option.some.injEq] at e2; subst e2
          simp only [oneF_imp hc e1]
      | false =>
        rw [hz, bc_false] at h1
        simp only
        cases hw : stableD E all o b ⟨done, ⟨n, m⟩, h, hist⟩ with
        | false => rw [hw, bc_false] at h1; simp at h1
        | true =>
          rw [hw, bc_true] at h1
          obtain ⟨⟨m2, h2⟩, e1, e2⟩ := oc_some h1
          simp only [Option.some.injEq] at e2; subst e2
          simp only [oneF_imp hc e1]

theorem goF_imp {c c' : CallF} (hc : CallImp c c') {n : Nat} {all : List Oper} {bs : List Nat} : ∀ (l : List Nat) {s s' : DF}, goF E c n all bs l s = some s' → goD E c' all bs l (s.to n) = some (s'.to n)
  | [], s, s', h1 => by simp only [goF, Option.some.injEq] at h1; subst h1; rfl
  | i :: l, s, s', h1 => by
    have h1 : (oc (stepF E c n all bs i s) (goF E c n all bs l)) = some s' := h1
    obtain ⟨s2, e1, e2⟩ := oc_some h1
    simp only [goD, stepF_imp hc e1]
    exact goF_imp hc l e2

theorem regF_imp {c c' : CallF} (hc : CallImp c c') {n : Nat} {all : List Oper} {m m' : Tr Value} {h h' : H} (h1 : regF E c n all m h = some (m', h')) : regD E c' all ⟨n, m⟩ h = some (⟨n, m'⟩, h') := by
  unfold regF at h1
  obtain ⟨r, hr, h1⟩ := oc_some h1
  unfold regK at hr
  simp only at hr
  cases hk : okR E all (preds [] all) all 0 with
  | false => rw [hk, bc_false] at hr; simp at hr
  | true =>
    rw [hk, bc_true] at hr
    simp only [Option.some.injEq] at hr; subst hr
    have h1 : (oc (goF E c n all (preds [] all) (ordA (preds [] all) (splitE E all 0).1 (splitE E all 0).2) ⟨0, m, h, [(all.length, h)]⟩) (endF all.length)) = some (m', h') := h1
    obtain ⟨s, e1, e2⟩ := oc_some h1
    have g := goF_imp hc _ e1
    obtain ⟨done, m2, h2, hist⟩ := s
    have e2 : bc (Nat.beq (Nat.succ done) (Nat.pow 2 all.length)) (some (m2, h2)) none = some (m', h') := e2
    cases hd : Nat.beq (Nat.succ done) (Nat.pow 2 all.length) with
    | false => rw [hd, bc_false] at e2; simp at e2
    | true =>
      rw [hd, bc_true] at e2
      simp only [Option.some.injEq, Prod.mk.injEq] at e2; obtain ⟨rfl, rfl⟩ := e2
      unfold regD
      simp only [hk]
      simp only [DF.to] at g
      simp only [g, hd]

/-! ### Code -/
def RunImp (r : RunF) (r' : Code → Tmps → H → Option (X × Tmps × H)) : Prop := ∀ n c m h x m' h', r n c m h = some (x, m', h') → r' c ⟨n, m⟩ h = some (x, ⟨n, m'⟩, h')

theorem enterL_eq : ∀ (l : List Value) (i : Nat) (m : Tr Value), enterL l i m = enterT l i m
  | [], _, _ => rfl
  | v :: l, i, m => by
    show enterL l (Nat.succ i) (m.set i v) = _
    rw [enterL_eq l]; rfl

theorem lenN_eq : ∀ l, lenN l = l.length
  | [] => rfl
  | v :: l => by show Nat.succ (lenN l) = _; rw [lenN_eq l]; rfl

theorem backF_imp {n : Nat} {fn : Func} {m : Tr Value} {h : H} {r : Value × H} (h1 : backF E n fn m h = some r) : resultA E h ⟨n, m⟩ fn.results.toList = some r.1 ∧ r.2 = h := by
  unfold backF at h1
  obtain ⟨v, e1, e2⟩ := oc_some h1
  simp only [Option.some.injEq] at e2; subst e2
  exact ⟨e1, rfl⟩

theorem callF_imp {k : Nat} (hr : RunImp (runF E k) (run E k)) : CallImp (callF E (runF E k)) (callN E k) := by
  intro f vs h r h1
  unfold callF at h1
  unfold callN
  cases hx : E.X.get f with
  | some j => rw [hx] at h1; exact h1
  | none =>
    rw [hx] at h1
    have h1 : (oc (E.F.get f) fun fn => enterF E (runF E k) fn vs h) = some r := h1
    obtain ⟨fn, hf, h1⟩ := oc_some h1
    simp only [hf]
    unfold enterF at h1
    obtain ⟨b, hb, h1⟩ := oc_some h1
    simp only [hb]
    cases hl : Nat.ble (lenN vs) fn.ntmps with
    | false => rw [hl, bc_false] at h1; simp at h1
    | true =>
      rw [hl, bc_true] at h1
      rw [lenN_eq] at hl
      have hl := Nat.le_of_ble_eq_true hl
      rw [Nat.add_sub_cancel' hl]
      unfold outF at h1
      obtain ⟨⟨x, m2, h2⟩, e1, e2⟩ := oc_some h1
      rw [enterL_eq] at e1
      have g := hr _ _ _ _ _ _ _ e1
      cases x with
      | normal =>
        obtain ⟨e3, e4⟩ := backF_imp e2
        simp only [g, e3]; subst e4; rfl
      | exit id => simp at e2
      | ret =>
        obtain ⟨e3, e4⟩ := backF_imp e2
        simp only [g, e3]; subst e4; rfl

theorem runF_imp : ∀ k, RunImp (runF E k) (run E k)
  | 0 => by intro n c m h x m' h' h1; simp [runF] at h1
  | k + 1 => by
    have ih := runF_imp k
    have hC := callF_imp ih
    intro n c m h x m' h' h1
    have h1 : codeF c E (runF E k) n m h = some (x, m', h') := h1
    cases c with
    | skip =>
      simp only [codeF, cX, Option.some.injEq, Prod.mk.injEq] at h1; obtain ⟨rfl, rfl, rfl⟩ := h1; rfl
    | label l =>
      simp only [codeF, cX, Option.some.injEq, Prod.mk.injEq] at h1; obtain ⟨rfl, rfl, rfl⟩ := h1; rfl
    | exit id =>
      simp only [codeF, cX, Option.some.injEq, Prod.mk.injEq] at h1; obtain ⟨rfl, rfl, rfl⟩ := h1; rfl
    | ret =>
      simp only [codeF, cX, Option.some.injEq, Prod.mk.injEq] at h1; obtain ⟨rfl, rfl, rfl⟩ := h1; rfl
    | region id os dr =>
      have h1 : normF (bc dr (regF E (callF E (runF E k)) n os.toList m h) (opsF E (callF E (runF E k)) n os.toList os.toList m h)) = some (x, m', h') := h1
      unfold normF at h1
      obtain ⟨⟨m2, h2⟩, e1, e2⟩ := oc_some h1
      simp only [Option.some.injEq, Prod.mk.injEq] at e2; obtain ⟨rfl, rfl, rfl⟩ := e2
      cases dr with
      | true =>
        have g := regF_imp hC e1
        show (match regD E (callN E k) os.toList ⟨n, m⟩ h with
          | some (a, h) => some (X.normal, a, h)
          | none => none) = _
        rw [g]
      | false =>
        have g := opsF_imp hC _ e1
        show (match opsA E (callN E k) os.toList os.toList ⟨n, m⟩ h with
          | some (a, h) => some (X.normal, a, h)
          | none => none) = _
        rw [g]
    | seq c1 c2 =>
      have h1 : thenF (runF E k n c1 m h) (runF E k n c2) = some (x, m', h') := h1
      unfold thenF at h1
      obtain ⟨⟨y, m2, h2⟩, e1, e2⟩ := oc_some h1
      have g := ih _ _ _ _ _ _ _ e1
      simp only [run, g]
      cases y with
      | normal => exact ih _ _ _ _ _ _ _ e2
      | exit j => simp only [Option.some.injEq, Prod.mk.injEq] at e2; obtain ⟨rfl, rfl, rfl⟩ := e2; rfl
      | ret => simp only [Option.some.injEq, Prod.mk.injEq] at e2; obtain ⟨rfl, rfl, rfl⟩ := e2; rfl
    | cond cd c1 c2 =>
      have h1 : (oc (evO m cd) fun v => oc (boolV v) fun b => bc b (runF E k n c1 m h) (runF E k n c2 m h)) = some (x, m', h') := h1
      obtain ⟨v, hv, h1⟩ := oc_some h1
      obtain ⟨b, hb, h1⟩ := oc_some h1
      rw [evO_ev n] at hv
      cases v with
      | bool q =>
        simp only [boolV, Option.some.injEq] at hb; subst hb
        simp only [run, hv]
        cases q with
        | true => exact ih _ _ _ _ _ _ _ h1
        | false => exact ih _ _ _ _ _ _ _ h1
      | _ => simp [boolV] at hb
    | block id b =>
      have h1 : (oc (runF E k n b m h) fun x => Prod.rec (motive := fun _ => RX) (fun x mh => X.rec (motive := fun _ => RX) (some (.normal, mh)) (fun j => bc (Nat.beq j id) (some (.normal, mh)) (some (.exit j, mh))) (some (.ret, mh)) x) x) = some (x, m', h') := h1
      obtain ⟨⟨y, m2, h2⟩, e1, e2⟩ := oc_some h1
      have g := ih _ _ _ _ _ _ _ e1
      simp only [run, g]
      cases y with
      | normal => simp only [Option.some.injEq, Prod.mk.injEq] at e2; obtain ⟨rfl, rfl, rfl⟩ := e2; rfl
      | ret => simp only [Option.some.injEq, Prod.mk.injEq] at e2; obtain ⟨rfl, rfl, rfl⟩ := e2; rfl
      | exit j =>
        have e2 : bc (Nat.beq j id) (some (X.normal, m2, h2)) (some (.exit j, m2, h2)) = some (x, m', h') := e2
        cases hj : Nat.beq j id with
        | true =>
          rw [hj, bc_true] at e2
          simp only [Option.some.injEq, Prod.mk.injEq] at e2; obtain ⟨rfl, rfl, rfl⟩ := e2
          simp only [hj]
        | false =>
          rw [hj, bc_false] at e2
          simp only [Option.some.injEq, Prod.mk.injEq] at e2; obtain ⟨rfl, rfl, rfl⟩ := e2
          simp only [hj]
    | loop b =>
      have h1 : thenF (runF E k n b m h) (runF E k n (.loop b)) = some (x, m', h') := h1
      unfold thenF at h1
      obtain ⟨⟨y, m2, h2⟩, e1, e2⟩ := oc_some h1
      have g := ih _ _ _ _ _ _ _ e1
      simp only [run, g]
      cases y with
      | normal => exact ih _ _ _ _ _ _ _ e2
      | exit j => simp only [Option.some.injEq, Prod.mk.injEq] at e2; obtain ⟨rfl, rfl, rfl⟩ := e2; rfl
      | ret => simp only [Option.some.injEq, Prod.mk.injEq] at e2; obtain ⟨rfl, rfl, rfl⟩ := e2; rfl
    | scope b =>
      have g := ih _ _ _ _ _ _ _ (show runF E k n b m h = some (x, m', h') from h1)
      simp only [run, g]
    | _ => simp [codeF, cNo] at h1

theorem yesF_imp {k : Nat} {f : FuncId} (h : yesF E k f = true) : ∃ h', callN E k f [] H.empty = some (.bool true, h') := by
  unfold yesF at h
  split at h
  · rename_i v h2 hc
    split at h
    · subst h; exact ⟨h2, callF_imp (runF_imp k) _ _ _ _ hc⟩
    · simp at h
  · simp at h

end Go.Eng
end

section
open Go.RowKit
namespace Go.Eng

theorem Rel.below {h : H} {φ : Pl} {w w' : World} (a : Rel h φ w) (b : Below w.heap.size w w') : Rel h φ w' :=
  ⟨fun o x ho => let ⟨p, h1, h2⟩ := a.obj o x ho; ⟨p, h1, h2.world (b.block _ h2.lt)⟩, a.inj, a.fresh⟩

theorem Step.of_below {h : H} {φ : Pl} {w w' : World} (b : Below w.heap.size w w') : Step h φ w h φ w' :=
  ⟨Ext.refl _, Nat.le_refl _, b.size, fun k hk _ => b.block k hk, fun _ h => .inl h, b.os, b.tape, b.output⟩

/-- a function without parameters that returns true, whatever the world -/
def SaysTrue (P : Program) (f : FuncId) : Prop :=
  ∀ w, (callFunc f #[]).run P w = .ok (.enter f #[]) w ∧ Calls P f #[] w fun e w' => e = .returned (.bool true) ∧ Below w.heap.size w w'

theorem SaysTrue.hook {P : Program} {f : FuncId} (hs : SaysTrue P f) : HookOK P f 10 := by
  intro vs h v h' he φ w cs hR hv
  cases hv with
  | cons a b => simp [Eng.hook, hTrue] at he
  | nil =>
    simp [Eng.hook, hTrue] at he
    obtain ⟨rfl, rfl⟩ := he
    obtain ⟨h1, h2⟩ := hs w
    right
    refine ⟨h1, h2.mono ?_⟩
    intro e w' ⟨h3, h4⟩
    exact ⟨_, φ, h3, .bool _, hR.below h4, Step.of_below h4⟩

theorem enter_of {P : Program} {E : Env} (hE : EnvOK P E) {n : Nat} {f : FuncId} (hx : E.X.get f = none) {vs : List Value} {h : H} {v : Value} {h' : H} (he : callN E n f vs h = some (v, h'))
    {φ : Pl} {w : World} {cs : List Value} (hR : Rel h φ w) (hv : VRs φ vs cs) :
    (callFunc f cs.toArray).run P w = .ok (.enter f cs.toArray) w ∧
      Calls P f cs.toArray w fun e w' => ∃ c φ', e = .returned c ∧ VR φ' v c ∧ Rel h' φ' w' ∧ Step h φ w h' φ' w' := by
  unfold callN at he
  rw [hx] at he
  simp only at he
  split at he
  · rename_i fn hf
    split at he
    · rename_i b hb
      split at he
      · simp at he
      · rename_i x a' h2 hne hrun
        split at he
        · rename_i u hres
          simp at he; obtain ⟨rfl, rfl⟩ := he
          obtain ⟨hf1, hf2⟩ := hE.func f fn hf
          refine ⟨?_, ?_⟩
          · simp only [callFunc, Sem.run_bind, program, Sem.run, Result.andThen_ok, hf1, hf2, Bool.false_eq_true, if_false, hb, Option.isNone]
            rfl
          · refine calls_of_wp hf1 hb ?_
            refine (((run_sound hE n) _ _ _ _ _ _ hrun).2 φ w _ hR (enter_TR hv fn.ntmps) _ ?_).1
            intro φ' ts' w' g1 g2 g3
            obtain ⟨c, g4, g5⟩ := result_sound hE g1 g2 hres
            cases x with
            | normal => exact ⟨rfl, c, g4, c, φ', rfl, g5, g1, g3⟩
            | exit id => exact (hne id rfl).elim
            | ret => exact ⟨rfl, c, g4, c, φ', rfl, g5, g1, g3⟩
        · simp at he
      · simp at he
    · simp at he
  · simp at he

theorem says_of_yes {P : Program} {E : Env} (hE : EnvOK P E) {n : Nat} {f : FuncId} (hx : E.X.get f = none) (hy : yesF E n f = true) : SaysTrue P f := by
  intro w
  obtain ⟨h', he⟩ := yesF_imp hy
  obtain ⟨h1, h2⟩ := enter_of hE hx he (Rel.empty w) VRs.nil
  refine ⟨h1, h2.mono ?_⟩
  intro e w' ⟨c, φ', h3, h4, h5, h6⟩
  cases h4
  exact ⟨h3, h6.below⟩

/-! ### Tables -/
theorem evens_get {α : Type} : ∀ (l : List α) (k : Nat), (evens l)[k]? = l[2 * k]?
  | [], k => by simp [evens]
  | [x], k => by cases k <;> simp [evens]
  | x :: y :: r, 0 => by simp [evens]
  | x :: y :: r, k + 1 => by
    simp only [evens, List.getElem?_cons_succ]
    rw [evens_get r k, show 2 * (k + 1) = 2 * k + 1 + 1 by omega]
    simp
theorem odds_get {α : Type} : ∀ (l : List α) (k : Nat), (odds l)[k]? = l[2 * k + 1]?
  | [], k => by simp [odds]
  | [x], k => by simp [odds]
  | x :: y :: r, 0 => by simp [odds]
  | x :: y :: r, k + 1 => by
    simp only [odds, List.getElem?_cons_succ]
    rw [odds_get r k, show 2 * (k + 1) = 2 * k + 1 + 1 by omega]
    simp

theorem ofListF_get {α : Type} : ∀ (f : Nat) (l : List α) (n : Nat) (x : α), (Tr.ofListF f l).get n = some x → l[n]? = some x
  | 0, l, n, x, h => by simp [Tr.ofListF, Tr.get_nil] at h
  | f + 1, [], n, x, h => by simp [Tr.ofListF, Tr.get_nil] at h
  | f + 1, y :: r, 0, x, h => by simpa [Tr.ofListF, Tr.get_zero] using h
  | f + 1, y :: r, m + 1, x, h => by
    simp only [Tr.ofListF] at h
    rw [List.getElem?_cons_succ]
    rcases Nat.mod_two_eq_zero_or_one m with p | p
    · rw [Tr.get_odd _ _ _ _ p] at h
      have := ofListF_get f _ _ _ h
      rw [evens_get] at this
      rwa [show 2 * (m / 2) = m by omega] at this
    · rw [Tr.get_even _ _ _ _ p] at h
      have := ofListF_get f _ _ _ h
      rw [odds_get] at this
      rwa [show 2 * (m / 2) + 1 = m by omega] at this

theorem ofList_get {α : Type} {l : List α} {n : Nat} {x : α} (h : (Tr.ofList l).get n = some x) : l[n]? = some x := ofListF_get 64 l n x h

/-- the tables of a program, with hooks, and struct types that are compared -/
noncomputable def envOf (P : Program) (X S : Tr Nat) (bt : Nat := 16777215) : Env := ⟨Tr.ofList P.types.toList, Tr.ofList P.funcs.toList, X, S, bt⟩

/-- closed facts of a program -/
def fieldsIn (P : Program) : Bool :=
  P.types.toList.all fun i => match i.desc with
    | .struct fs => fs.toList.all fun f => Nat.blt f.type P.types.size
    | _ => true

def namesIn (P : Program) : Bool := P.funcs.toList.all fun f => !(f.name == "runtime.NumGoroutine")

theorem envOf_ok {P : Program} {X S : Tr Nat} {bt : Nat} (hm : P.follows .mixedOrders = true) (hf : fieldsIn P = true) (hn : namesIn P = true)
    (hS : ∀ t u, S.get t = some u → P.stoodInHeld t = false ∧ P.eqGuardType P.depth t = false) (hX : ∀ f k, X.get f = some k → HookOK P f k) : EnvOK P (envOf P X S bt) := {
  info := fun t i h => by
    have h1 := ofList_get h
    have h2 : P.types[t]? = some i := by simpa using h1
    have h3 := (Array.getElem?_eq_some_iff.1 h2).1
    simp only [Tables.info?]
    rw [if_pos h3]; exact h2
  func := fun f fn h => by
    have h1 := ofList_get h
    have h2 : P.funcs[f]? = some fn := by simpa using h1
    refine ⟨h2, ?_⟩
    unfold namesIn at hn
    rw [List.all_eq_true] at hn
    have := hn fn (List.mem_of_getElem? h1)
    simpa using this
  mixed := hm
  fields := fun t fs h f hfm => by
    have key : ∀ i : TypeInfo, i ∈ P.types.toList → i.desc = .struct fs → ∃ j, P.info? f.type = some j := by
      intro i hi hd
      unfold fieldsIn at hf
      rw [List.all_eq_true] at hf
      have h1 := hf i hi
      rw [hd] at h1
      simp only [List.all_eq_true] at h1
      have h2 : f.type < P.types.size := Nat.le_of_ble_eq_true (h1 f hfm)
      refine ⟨P.types[f.type]'h2, ?_⟩
      simp only [Tables.info?]
      rw [if_pos h2]; exact Array.getElem?_eq_getElem h2
    unfold Env.und at h
    split at h
    · split at h
      · rename_i j hj
        simp only [Option.some.injEq] at h
        exact key j (List.mem_of_getElem? (ofList_get hj)) h
      · simp at h
    · rename_i i hne hi
      simp only [Option.some.injEq] at h
      exact key i (List.mem_of_getElem? (ofList_get hi)) h
    · simp at h
  held := hS
  hooks := hX }

/-! ### Lists as tables -/
noncomputable def tabOf : List (Nat × Nat) → Tr Nat
  | [] => .nil
  | p :: l => (tabOf l).set p.1 p.2

theorem tabOf_mem : ∀ {l : List (Nat × Nat)} {f k : Nat}, (tabOf l).get f = some k → (f, k) ∈ l
  | [], f, k, h => by simp [tabOf, Tr.get_nil] at h
  | p :: l, f, k, h => by
    simp only [tabOf, Tr.get_set] at h
    split at h
    · rename_i e
      simp only [Option.some.injEq] at h
      subst e; subst h; exact List.mem_cons_self
    · exact List.mem_cons_of_mem _ (tabOf_mem h)

/-- may struct types of a list be compared? -/
def heldIn (P : Program) (l : List (Nat × Nat)) : Bool := l.all fun p => !P.stoodInHeld p.1 && !P.eqGuardType P.depth p.1

theorem envOf_list {P : Program} {X S : List (Nat × Nat)} {bt : Nat} (hm : P.follows .mixedOrders = true) (hf : fieldsIn P = true) (hn : namesIn P = true)
    (hS : heldIn P S = true) (hX : ∀ p ∈ X, HookOK P p.1 p.2) : EnvOK P (envOf P (tabOf X) (tabOf S) bt) :=
  envOf_ok hm hf hn (fun t u h => by
    have h1 := tabOf_mem h
    unfold heldIn at hS
    rw [List.all_eq_true] at hS
    have := hS _ h1
    simpa using this) (fun f k h => hX _ (tabOf_mem h))

end Go.Eng
end

section
open Go.RowKit
namespace Go.Eng

/-- a function without a body, for which an entry stands in -/
structure Stood (P : Program) (f : FuncId) (fn : Func) (e : Array Value → Sem Value) : Prop where
  hf : P.funcs[f]? = some fn
  hname : (fn.name == "runtime.NumGoroutine") = false
  hb : fn.body.isNone = true
  hn : Extern.findNext fn = none
  he : Extern.find fn = some e

theorem Stood.run {P : Program} {f : FuncId} {fn : Func} {e : Array Value → Sem Value} (s : Stood P f fn e) (args : Array Value) (w : World) :
    (callFunc f args).run P w = ((e args).run P w).andThen fun v w' => .ok (.value v) w' := run_callFunc_extern s.hf s.hname s.hb s.hn s.he args w

theorem VRs.three {φ : Pl} {x y z : Value} {cs : List Value} (h : VRs φ [x, y, z] cs) : ∃ a b c, cs = [a, b, c] ∧ VR φ x a ∧ VR φ y b ∧ VR φ z c := by
  cases h with
  | cons h1 t => cases t with
    | cons h2 t => cases t with
      | cons h3 t => cases t; exact ⟨_, _, _, rfl, h1, h2, h3⟩

def sub64Entry : Array Value → Sem Value := fun args => do
  let (x, y, b) ← Extern.MathBitsCarry.three "Sub64" args
  pure (Extern.MathBitsCarry.pair ((x + Extern.MathBitsCarry.m64 - y - b) % Extern.MathBitsCarry.m64) (if x < y + b then 1 else 0))

theorem run_sub64 {P : Program} (x y b : Nat) (hb : b ≤ 1) (w : World) :
    (sub64Entry #[.int .u64 x, .int .u64 y, .int .u64 b]).run P w =
      .ok (.tuple #[.int .u64 (((x + 18446744073709551616 - y - b) % 18446744073709551616 : Nat) : Int), .int .u64 ((if x < y + b then 1 else 0 : Nat) : Int)]) w := by
  have : b = 0 ∨ b = 1 := by omega
  rcases this with rfl | rfl <;> rfl

theorem VR.tuple2 {φ : Pl} {k k' : IntKind} (a b : Int) : VR φ (.tuple #[.int k a, .int k' b]) (.tuple #[.int k a, .int k' b]) :=
  VR.tuple (xs := [_, _]) (ys := [_, _]) (.cons (.int _ _) (.cons (.int _ _) .nil))

theorem hook_add64 {P : Program} {f : FuncId} {fn : Func} (s : Stood P f fn add64Entry) : HookOK P f 1 := by
  intro vs h v h' hk φ w cs hR hv
  have : ∃ x y c : Nat, vs = [.int .u64 (.ofNat x), .int .u64 (.ofNat y), .int .u64 (.ofNat c)] := by
    simp only [hook, hAdd] at hk
    split at hk
    · exact ⟨_, _, _, rfl⟩
    · simp at hk
  obtain ⟨x, y, c, rfl⟩ := this
  simp only [hook, hAdd] at hk
  split at hk
  · rename_i hc
    have hc := Nat.le_of_ble_eq_true hc
    simp only [Option.some.injEq, Prod.mk.injEq] at hk; obtain ⟨rfl, rfl⟩ := hk
    obtain ⟨a, b, d, rfl, h1, h2, h3⟩ := hv.three
    cases h1; cases h2; cases h3
    left
    refine ⟨_, φ, w, ?_, VR.tuple2 _ _, hR, Step.refl _ _ _⟩
    rw [s.run]
    have := run_add64 (P := P) x y c (by omega) (by omega) (by omega) (by omega) w
    rw [show ([Value.int IntKind.u64 (Int.ofNat x), Value.int IntKind.u64 (Int.ofNat y), Value.int IntKind.u64 (Int.ofNat c)].toArray) = #[.int .u64 (x : Int), .int .u64 (y : Int), .int .u64 (c : Int)] from rfl, this]
    rfl
  · simp at hk

theorem hook_sub64 {P : Program} {f : FuncId} {fn : Func} (s : Stood P f fn sub64Entry) : HookOK P f 2 := by
  intro vs h v h' hk φ w cs hR hv
  have : ∃ x y c : Nat, vs = [.int .u64 (.ofNat x), .int .u64 (.ofNat y), .int .u64 (.ofNat c)] := by
    simp only [hook, hSub] at hk
    split at hk
    · exact ⟨_, _, _, rfl⟩
    · simp at hk
  obtain ⟨x, y, c, rfl⟩ := this
  simp only [hook, hSub] at hk
  split at hk
  · rename_i hc
    have hc := Nat.le_of_ble_eq_true hc
    simp only [Option.some.injEq, Prod.mk.injEq] at hk; obtain ⟨rfl, rfl⟩ := hk
    obtain ⟨a, b, d, rfl, h1, h2, h3⟩ := hv.three
    cases h1; cases h2; cases h3
    left
    refine ⟨_, φ, w, ?_, VR.tuple2 _ _, hR, Step.refl _ _ _⟩
    rw [s.run]
    have := run_sub64 (P := P) x y c hc w
    rw [show ([Value.int IntKind.u64 (Int.ofNat x), Value.int IntKind.u64 (Int.ofNat y), Value.int IntKind.u64 (Int.ofNat c)].toArray) = #[.int .u64 (x : Int), .int .u64 (y : Int), .int .u64 (c : Int)] from rfl, this]
    simp only [Result.andThen]
    congr 5
    cases hb : Nat.blt x (y + c) with
    | true => rw [if_pos (by have := Nat.le_of_ble_eq_true hb; omega)]; rfl
    | false => rw [if_neg (fun h => by have : Nat.blt x (y + c) = true := Nat.ble_eq_true_of_le h; rw [hb] at this; simp at this)]; rfl
  · simp at hk

theorem hook_clone {P : Program} {f : FuncId} {fn : Func} (s : Stood P f fn Extern.MapsClone.clone) : HookOK P f 3 := by
  intro vs h v h' hk φ w cs hR hv
  have : ∃ t r, vs = [.iface t (.map (some r))] := by
    simp only [hook, hClone] at hk
    split at hk
    · exact ⟨_, _, rfl⟩
    · simp at hk
  obtain ⟨t, r, rfl⟩ := this
  simp only [hook, hClone] at hk
  split at hk
  · rename_i es c hg
    simp only [Option.some.injEq, Prod.mk.injEq] at hk; obtain ⟨rfl, rfl⟩ := hk
    cases hv with
    | cons h1 t1 =>
      cases t1
      cases h1 with
      | iface t h2 =>
        cases h2 with
        | map hp =>
          rename_i p
          obtain ⟨q, hq, es', hb, hes⟩ := hR.obj _ _ hg
          rw [hp] at hq; simp only [Option.some.injEq] at hq; subst hq
          have hn := hR.fresh h.next (Nat.le_refl _)
          obtain ⟨g1, g2⟩ := hR.new (.map es' c) (.map es c) 0 0 ⟨es', by simp, hes.mono (Pl.add_ext _ hn)⟩
          left
          refine ⟨_, _, _, ?_, .iface t (.map (Pl.add_self _ _ _)), g1, g2⟩
          rw [s.run]
          obtain ⟨said, e⟩ : ∃ said, Extern.MapsClone.clone [Value.iface t (.map (some p.b))].toArray = (getObj p.b >>= fun o => match o with
            | .map entries clock => (newObj (.map entries clock) >>= fun n => pure (.iface t (.map (some n))))
            | _ => stuck said) := ⟨_, rfl⟩
          rw [e]
          simp [MapKept.run_getObj_map hb, Result.andThen, go_sem]
  · simp at hk

end Go.Eng
end

section
open Go.RowKit Go.Maps
namespace Go.Eng

theorem hook_gen {k j : Nat} (hk : k % 16 = j) (hj : 4 ≤ j ∧ j ≠ 10) (args : List Value) (h : H) : hook k args h = hGen k args h := by
  unfold hook
  split <;> first | (exfalso; omega) | rfl

theorem hook_keys {P : Program} {f g k : Nat} (hk : k % 16 = 5) (hg : k / 16 = g) (hent : ∀ args w, (callFunc f args).run P w = .ok (.enter f args) w)
    (hc : ∀ mb w, Calls P f #[.map mb] w fun e w' => e = .returned (.func (.func g) #[] #[.pointer (some ⟨w.heap.size, 0, none⟩)]) ∧ ∃ t, w' = w.alloc (.cells #[.map mb] t)) : HookOK P f k := by
  intro vs h v h' he φ w cs hR hv
  rw [hook_gen hk ⟨by decide, by decide⟩] at he
  unfold hGen at he
  have hk' : Nat.mod k 16 = 5 := hk
  rw [hk'] at he
  simp only [hKeys] at he
  split at he
  · rename_i r
    simp only [Option.some.injEq, Prod.mk.injEq] at he; obtain ⟨rfl, rfl⟩ := he
    cases hv with
    | cons h1 t1 =>
      cases t1
      cases h1 with
      | map hp =>
        rename_i p
        right
        refine ⟨hent _ _, ?_⟩
        have hn := hR.fresh h.next (Nat.le_refl _)
        refine (hc (some p.b) w).mono ?_
        rintro e w' ⟨rfl, t, rfl⟩
        obtain ⟨g1, g2⟩ := hR.new (.cells #[.map (some p.b)] t) (.mvar r) 0 0 ⟨p, t, Pl.add_ext _ hn _ _ hp, by simp, rfl⟩
        refine ⟨_, _, rfl, ?_, g1, g2⟩
        rw [show Nat.div k 16 = g from hg]
        exact VR.func (xs := []) (ys := []) (as := [_]) (bs := [_]) g .nil (.cons (VR.ptr (off := 0) (Pl.add_self _ _ _)) .nil)
  · simp at he

/-- elements are not looked at -/
def blindR : Value → Option (DataW Unit × List MemPlace) := fun _ => some (.nil, [])

def SortedCall (P : Program) (f g et : Nat) : Prop :=
  ∀ (w : World) (Bm b nn : Nat) (D0 : DataW Unit), Bm < w.heap.size → w.cell? ⟨Bm, 0, none⟩ = some (.map (some b)) → w.ownsMap P et blindR b nn D0 → Maps.size D0 ≤ maxLen → Maps.size D0 * 8 ≤ 140737488355328 →
    Calls P f #[.func (.func g) #[] #[.pointer (some ⟨Bm, 0, none⟩)]] w fun e w' => ∃ (v : Value) (ss : List Int), e = .returned v ∧ ss.Perm (intKeys D0) ∧
      w'.ownsRow w.heap.size et 1 v ss.length ((ss.mergeSort (fun x y => decide (x ≤ y))).map encZ) ∧ (v = .slice none 0 0 ↔ ss = []) ∧ Below w.heap.size w w'

theorem insert_perm {H : Type} (x : Lit × DataW H) : ∀ l, (DataW.insert x l).Perm (x :: l)
  | [] => List.Perm.refl _
  | y :: r => by
    simp only [DataW.insert]
    split
    · exact List.Perm.refl _
    · exact ((insert_perm x r).cons y).trans (List.Perm.swap x y r)

theorem foldr_insert_perm {H : Type} : ∀ l : List (Lit × DataW H), (l.foldr DataW.insert []).Perm l
  | [] => List.Perm.refl _
  | x :: r => (insert_perm x _).trans ((foldr_insert_perm r).cons x)

theorem insI_perm (x : Int) : ∀ l, (insI x l).Perm (x :: l)
  | [] => List.Perm.refl _
  | y :: r => by
    simp only [insI]
    split
    · exact List.Perm.refl _
    · exact ((insI_perm x r).cons y).trans (List.Perm.swap x y r)

theorem insI_sorted (x : Int) : ∀ l : List Int, l.Pairwise (· ≤ ·) → (insI x l).Pairwise (· ≤ ·)
  | [], _ => by simp [insI]
  | y :: r, h => by
    simp only [insI]
    split
    · rename_i hd
      have hd : x ≤ y := by simpa using hd
      rw [List.pairwise_cons] at h ⊢
      refine ⟨fun a ha => ?_, List.pairwise_cons.2 h⟩
      rcases List.mem_cons.1 ha with rfl | ha
      · exact hd
      · exact Int.le_trans hd (h.1 a ha)
    · rename_i hd
      have hd : ¬ x ≤ y := by simpa using hd
      rw [List.pairwise_cons] at h
      rw [List.pairwise_cons]
      refine ⟨fun a ha => ?_, insI_sorted x r h.2⟩
      rcases List.mem_cons.1 ((insI_perm x r).mem_iff.1 ha) with rfl | ha
      · omega
      · exact h.1 a ha

/-- what keysA says -/
theorem keysA_ok : ∀ {es : List MapEntry} {l : List Int}, keysA es = some l → ∃ ns : List Int, es.map (·.key) = ns.map (Value.int .i64) ∧ l.Perm ns ∧ l.Pairwise (· ≤ ·) ∧ ns.Nodup ∧ ∀ n ∈ ns, -9223372036854775808 ≤ n ∧ n ≤ 9223372036854775807
  | [], l, h => by simp [keysA] at h; subst h; exact ⟨[], rfl, List.Perm.refl _, List.Pairwise.nil, List.nodup_nil, by simp⟩
  | e :: r, l, h => by
    simp only [keysA] at h
    split at h
    · rename_i n l' hk hl'
      split at h
      · rename_i h1 h2 h3
        simp only [Option.some.injEq] at h; subst h
        obtain ⟨ns, g1, g2, g3, g4, g5⟩ := keysA_ok hl'
        refine ⟨n :: ns, by simp [hk, g1], (insI_perm n l').trans (g2.cons n), insI_sorted n l' g3, List.nodup_cons.2 ⟨?_, g4⟩, ?_⟩
        · intro hm
          rw [List.all_eq_true] at h3
          have := h3 n (g2.mem_iff.2 hm)
          simp at this
        · intro m hm
          rcases List.mem_cons.1 hm with rfl | hm
          · exact ⟨by simpa using h1, by simpa using h2⟩
          · exact g5 m hm
      · simp at h
    · simp at h

theorem stampA_ok {c : Nat} : ∀ {es : List MapEntry}, stampA c es = true → (∀ x ∈ es, x.born < c) ∧ (es.map (·.born)).Nodup
  | [], _ => by simp
  | e :: r, h => by
    simp only [stampA] at h
    split at h
    · rename_i h1 h2
      obtain ⟨g1, g2⟩ := stampA_ok h
      have h1 : e.born < c := Nat.le_of_ble_eq_true h1
      refine ⟨fun x hx => ?_, ?_⟩
      · rcases List.mem_cons.1 hx with rfl | hx
        · exact h1
        · exact g1 x hx
      · rw [List.map_cons, List.nodup_cons]
        refine ⟨fun hm => ?_, g2⟩
        obtain ⟨y, hy, he⟩ := List.mem_map.1 hm
        rw [List.all_eq_true] at h2
        have := h2 y hy
        rw [he] at this
        simp at this
    · simp at h

theorem ERs.born {φ : Pl} {xs ys : List MapEntry} (h : ERs φ xs ys) : ys.map (·.born) = xs.map (·.born) := by
  induction h with
  | nil => rfl
  | cons h _ ih => simp [ih, h.2.2]
theorem ERs.len {φ : Pl} {xs ys : List MapEntry} (h : ERs φ xs ys) : ys.length = xs.length := by
  induction h with
  | nil => rfl
  | cons h _ ih => simp [ih]
theorem ERs.keys {φ : Pl} {xs ys : List MapEntry} (h : ERs φ xs ys) : ∀ {ns : List Int}, xs.map (·.key) = ns.map (Value.int .i64) → ys.map (·.key) = ns.map (Value.int .i64) := by
  induction h with
  | nil => intro ns e; simpa using e
  | @cons x y xs ys h _ ih =>
    intro ns e
    cases ns with
    | nil => simp at e
    | cons n ns =>
      simp only [List.map_cons, List.cons.injEq] at e ⊢
      refine ⟨?_, ih e.2⟩
      have h1 := h.1
      rw [e.1] at h1
      generalize y.key = q at h1
      cases h1; rfl

theorem rd_of {P : Program} {et : TypeId} (hu : P.underlying et = some (.int .i64)) {y : MapEntry} {n : Int} (hk : y.key = .int .i64 n) (h1 : -9223372036854775808 ≤ n) (h2 : n ≤ 9223372036854775807) :
    Go.WideElems.rd P et blindR y = some (.int .i64 n, .nil) := by
  have hw : (Lit.int .i64 n).wf = true := by
    have e1 : IntKind.i64.min = -9223372036854775808 := by rfl
    have e2 : IntKind.i64.max = 9223372036854775807 := by rfl
    simp only [Lit.wf, e1, e2, Bool.and_eq_true, decide_eq_true_eq]
    exact ⟨h1, h2⟩
  have : keyOf P et y.key = some (.int .i64 n) := by
    rw [hk]
    simp [keyOf, hu, mapKey, hw]
  simp [Go.WideElems.rd, this, blindR]

theorem rgs_of {P : Program} {et : TypeId} (hu : P.underlying et = some (.int .i64)) : ∀ (es : List MapEntry) (ns : List Int), es.map (·.key) = ns.map (Value.int .i64) → (∀ n ∈ ns, -9223372036854775808 ≤ n ∧ n ≤ 9223372036854775807) →
    es.map (Go.WideElems.rg P et blindR) = ns.map (fun n => ((Lit.int .i64 n, (DataW.nil : DataW Unit))))
  | [], [], _, _ => rfl
  | [], n :: ns, h, _ => by simp at h
  | e :: es, [], h, _ => by simp at h
  | e :: es, n :: ns, h, hb => by
    simp only [List.map_cons, List.cons.injEq] at h ⊢
    have := hb n List.mem_cons_self
    refine ⟨?_, rgs_of hu es ns h.2 fun m hm => hb m (List.mem_cons_of_mem _ hm)⟩
    unfold Go.WideElems.rg
    rw [rd_of hu h.1 this.1 this.2]; rfl

theorem hook_sorted {P : Program} {f g et k : Nat} (hk : k % 16 = 6) (hg : k / 16 / 65536 = g) (het : k / 16 % 65536 = et) (hu : P.underlying et = some (.int .i64))
    (hent : ∀ args w, (callFunc f args).run P w = .ok (.enter f args) w) (hc : SortedCall P f g et) : HookOK P f k := by
  intro vs h v h' he φ w cs hR hv
  rw [hook_gen hk ⟨by decide, by decide⟩] at he
  unfold hGen at he
  have hk' : Nat.mod k 16 = 6 := hk
  rw [hk'] at he
  simp only [hSorted] at he
  split at he
  case h_2 => simp at he
  rename_i f' fi ca
  split at he
  case h_2 => simp at he
  rename_i o hfg hfi hca
  split at he
  case h_2 => simp at he
  rename_i r hor
  split at he
  case h_2 => simp at he
  rename_i es c hr
  unfold sortedA at he
  split at he
  case h_2 => simp at he
  rename_i l hst hlen hkeys
  have hlen : es.length ≤ 1000000 := Nat.le_of_ble_eq_true hlen
  have hfg : f' = g := by have := Nat.eq_of_beq_eq_true hfg; rw [this]; exact hg
  subst hfg
  obtain ⟨ns, k1, k2, k3, k4, k5⟩ := keysA_ok hkeys
  obtain ⟨s1, s2⟩ := stampA_ok hst
  obtain ⟨q, hq, q', t, hq', hcell, hbase⟩ := hR.obj _ _ hor
  obtain ⟨p, hp, es', hb, hes⟩ := hR.obj _ _ hr
  rw [hp] at hq'; simp only [Option.some.injEq] at hq'; subst hq'
  have hkeys' := hes.keys k1
  have hblt : q.b < w.heap.size := (Array.getElem?_eq_some_iff.1 hcell).1
  -- the real arguments
  have hcs : cs = [.func (.func f') #[] #[.pointer (some ⟨q.b, 0, none⟩)]] := by
    cases hv with
    | cons h1 t1 =>
      cases t1
      cases h1 with
      | func _ h2 h3 =>
        simp only at hfi hca
        subst hfi; subst hca
        cases h2
        cases h3 with
        | cons h4 t4 =>
          cases t4
          cases h4 with
          | ptr h5 =>
            rw [hq] at h5; simp only [Option.some.injEq] at h5; subst h5
            rw [hbase]
  subst hcs
  have hcc : w.cell? ⟨q.b, 0, none⟩ = some (.map (some p.b)) := by
    simp [World.cell?, hcell]
  have hsz : es'.size = es.length := by have := hes.len; simpa using this
  have hrg := rgs_of (P := P) hu es'.toList ns hkeys' k5
  let D0 : DataW Unit := .map ((es'.toList.map (Go.WideElems.rg P et blindR)).foldr DataW.insert [])
  have hperm : (intKeys D0).Perm ns := by
    show List.Perm (List.map (fun p => intOf p.1) ((es'.toList.map (Go.WideElems.rg P et blindR)).foldr DataW.insert [])) ns
    have h1 := (foldr_insert_perm (es'.toList.map (Go.WideElems.rg P et blindR))).map (fun p => intOf p.1)
    rw [hrg] at h1 ⊢
    refine h1.trans ?_
    rw [List.map_map]
    have : ((fun p : Lit × DataW Unit => intOf p.1) ∘ fun n => (Lit.int .i64 n, DataW.nil)) = id := by funext n; rfl
    rw [this, List.map_id]
  have hns : ns.length = es.length := by have := congrArg List.length k1; simpa using this.symm
  have hsize : Maps.size D0 = es.length := by
    have := hperm.length_eq
    rw [hns] at this
    rw [← this]
    show _ = (List.map _ _).length
    rw [List.length_map]; rfl
  have hmaxLen : (1000000 : Nat) ≤ maxLen := by decide
  have hown : w.ownsMap P et blindR p.b es.length D0 := by
    refine ⟨es', c, hb, ⟨by omega, ⟨?_, ?_, ?_⟩, ?_⟩, by omega, rfl⟩
    · intro x hx
      have hm : x.born ∈ es'.toList.map (·.born) := List.mem_map.2 ⟨x, hx, rfl⟩
      rw [hes.born] at hm
      obtain ⟨y, hy, e⟩ := List.mem_map.1 hm
      rw [← e]; exact s1 y hy
    · rw [hes.born]; exact s2
    · rw [hkeys']
      rw [List.nodup_iff_pairwise_ne, List.pairwise_map]
      rw [List.nodup_iff_pairwise_ne] at k4
      exact k4.imp fun hne e => hne (by simpa using e)
    · intro x hx
      have hm : x.key ∈ es'.toList.map (·.key) := List.mem_map.2 ⟨x, hx, rfl⟩
      rw [hkeys'] at hm
      obtain ⟨n, hn, e⟩ := List.mem_map.1 hm
      exact ⟨_, rd_of hu e.symm (k5 n hn).1 (k5 n hn).2⟩
  right
  refine ⟨hent _ _, ?_⟩
  refine (hc w q.b p.b es.length D0 hblt hcc hown (by omega) (by omega)).mono ?_
  rintro e w' ⟨v', ss, rfl, hss, hrow, hnil, hbel⟩
  have hR' := hR.below hbel
  have hssns : ss.Perm ns := hss.trans hperm
  have hmerge : ss.mergeSort (fun x y => decide (x ≤ y)) = l := by
    have h1 := mergeSort_of_perm_i (hssns.trans k2.symm)
    rw [show (fun x y : Int => decide (x ≤ y)) = leI from rfl, h1]
    exact List.mergeSort_of_pairwise (k3.imp fun h => by simpa [leI] using h)
  have hll : ss.length = l.length := (hssns.trans k2.symm).length_eq
  split at he
  · rename_i l0
    simp only [Option.some.injEq, Prod.mk.injEq] at he; obtain ⟨rfl, rfl⟩ := he
    have : ss = [] := List.eq_nil_of_length_eq_zero (by simpa using hll)
    rw [hnil.2 this]
    exact ⟨_, φ, rfl, .nslc _ _, hR', Step.of_below hbel⟩
  · rename_i hne
    simp only [Option.some.injEq, Prod.mk.injEq] at he; obtain ⟨rfl, rfl⟩ := he
    obtain ⟨hl0, hv' | ⟨b, cap, cur, rfl, hbb, hcur, hncap, hcmax, hcsz, htake⟩⟩ := hrow
    · exfalso
      have := hnil.1 hv'.1
      rw [this] at hll
      exact hne (List.eq_nil_of_length_eq_zero (by simpa using hll.symm))
    · have hn := hR.fresh h.next (Nat.le_refl _)
      have hnl : ¬ Live h φ b := by
        rintro ⟨o1, x1, p1, e1, e2, e3⟩
        obtain ⟨p2, e4, e5⟩ := hR.obj _ _ e1
        rw [e2] at e4; simp only [Option.some.injEq] at e4; subst e4
        have := e5.lt
        omega
      have ho : OR (φ.add h.next ⟨b, 0, cur.size⟩) w' ⟨b, 0, cur.size⟩ (.cells (l.map fun n => .int .i64 n) et) := by
        refine ⟨cur, hcur, rfl, fun i v hv => ?_⟩
        rw [hmerge] at htake
        have h1 : (l.map encZ)[i]? = some v := hv
        rw [← htake, List.getElem?_take] at h1
        split at h1
        · refine ⟨v, by simpa using h1, ?_⟩
          rw [List.getElem?_map] at hv
          obtain ⟨n, _, rfl⟩ := Option.map_eq_some_iff.1 hv
          exact .int _ _
        · simp at h1
      have hadd := hR'.adopt (x := .cells (l.map fun n => .int .i64 n) et) (p := ⟨b, 0, cur.size⟩) hnl ho
      rw [show Nat.mod (Nat.div k 16) 65536 = et from het]
      refine ⟨_, φ.add h.next ⟨b, 0, cur.size⟩, rfl, ?_, hadd, ?_⟩
      · rw [hll]
        exact VR.slc (p := ⟨b, 0, cur.size⟩) (x := 0) (Pl.add_self _ _ _) (Nat.le_refl _) (by omega) (by simp; omega) (fun _ => rfl)
      · refine ⟨Pl.add_ext _ hn, Nat.le_succ _, hbel.size, fun j hj _ => hbel.block j hj, ?_, hbel.os, hbel.tape, hbel.output⟩
        rintro j ⟨o1, x1, p1, e1, e2, e3⟩
        rw [H.get_new] at e1
        by_cases e : o1 = h.next
        · subst e
          rw [Pl.add_self] at e2; simp only [Option.some.injEq] at e2; subst e2
          right; rw [← e3]; exact hbb
        · rw [if_neg e] at e1
          simp only [Pl.add, if_neg e] at e2
          exact .inl ⟨o1, x1, p1, e1, e2, e3⟩

end Go.Eng
end
