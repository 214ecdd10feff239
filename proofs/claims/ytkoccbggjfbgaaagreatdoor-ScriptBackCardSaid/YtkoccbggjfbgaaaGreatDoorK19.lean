/-
  From a run of the abstract machine that begins with package variables alone as objects, to the call. The memory at a call as pinned objects: each block of cells, as far as its cells can be told: what has no address, and slices of elements of one cell each. The memory at a call as pinned objects, some blocks of it as fixed ones (package variables that the machine knows by their object): object k + 2 is block k.
-/
import Derived.Test.YtkoccbggjfbgaaaGreatDoorK07
import Derived.Test.YtkoccbggjfbgaaaGreatDoorK05
import Derived.Test.YtkoccbggjfbgaaaGreatDoorK09
set_option linter.all false

section
set_option linter.unusedVariables false
open Go.RowKit
namespace Go.Eng

/-- an object that stays as it is, with all of its block -/
def pinned : AObj → Option Obj
  | .fixed _ t fz vs => some (.cells ⟨vs⟩ t fz)
  | .rom _ o => some o
  | _ => none
theorem OR.pinned {φ : Pl} {w : World} {p : Pt} {x : AObj} {o : Obj} (h : OR φ w p x) (hx : pinned x = some o) : w.heap[p.b]? = some o := by
  cases x with
  | fixed b t fz vs => simp only [Eng.pinned, Option.some.injEq] at hx; subst hx; exact h.2
  | rom vs o' => simp only [Eng.pinned, Option.some.injEq] at hx; subst hx; exact h.1
  | _ => simp [Eng.pinned] at hx

/-- a heap of pinned objects alone -/
def AllFixed (h : H) : Prop := ∀ o x, h.get o = some x → ∃ b, pinned x = some b

theorem AllFixed.empty : AllFixed H.empty := fun o x h => by simp [H.empty, H.get, Tr.get_nil] at h
theorem AllFixed.new {h : H} (a : AllFixed h) (b : Nat) (t : TypeId) (fz : Nat × Nat) (vs : List Value) : AllFixed (h.new (.fixed b t fz vs)) := fun o x e => by
  rw [H.get_new] at e
  split at e
  · simp only [Option.some.injEq] at e; subst e; exact ⟨_, rfl⟩
  · exact a o x e

/-- one package variable more -/
theorem Rel.fix {h : H} {φ : Pl} {w : World} (hR : Rel h φ w) {b : Nat} {t : TypeId} {fz : Nat × Nat} {vs : List Value} (hl : ¬ Live h φ b) (hc : w.heap[b]? = some (.cells ⟨vs⟩ t fz)) :
    Rel (h.new (.fixed b t fz vs)) (φ.add h.next ⟨b, 0, 1⟩) w :=
  hR.adopt (x := .fixed b t fz vs) (p := ⟨b, 0, 1⟩) hl ⟨⟨rfl, rfl⟩, hc⟩

theorem Rel.fixN {h : H} {φ : Pl} {w : World} (hR : Rel h φ w) {b : Nat} {t : TypeId} {fz : Nat × Nat} {vs : List Value} (sz : Nat) (hl : ¬ Live h φ b) (hc : w.heap[b]? = some (.cells ⟨vs⟩ t fz)) :
    Rel (h.new (.fixed b t fz vs)) (φ.add h.next ⟨b, 0, sz⟩) w :=
  hR.adopt (x := .fixed b t fz vs) (p := ⟨b, 0, sz⟩) hl ⟨⟨rfl, rfl⟩, hc⟩

theorem live_empty {φ : Pl} {k : Nat} : ¬ Live H.empty φ k := fun ⟨o, x, p, h, _⟩ => by simp [H.empty, H.get, Tr.get_nil] at h

theorem rel_fixed {w : World} {b : Nat} {t : TypeId} {fz : Nat × Nat} {vs : List Value} (hc : w.heap[b]? = some (.cells ⟨vs⟩ t fz)) :
    Rel (H.empty.new (.fixed b t fz vs)) (Pl.add (fun _ => none) 0 ⟨b, 0, 1⟩) w := (Rel.empty w).fix live_empty hc

/-- a law that the machine says true, from a heap of package variables alone -/
theorem law_of {P : Program} {E : Env} (hE : EnvOK P E) {f : FuncId} (hx : E.X.get f = none) {args cs : List Value} {h : H} {φ : Pl} {w : World} (hR : Rel h φ w) (ha : AllFixed h)
    (hc : ∃ r h', callS E f args h = some (r, h') ∧ (Grows h h' ∧ r = .bool true)) (hv : VRs φ args cs) :
    Calls P f cs.toArray w fun e w' => e = .returned (.bool true) ∧ Below w.heap.size w w' := by
  obtain ⟨r, h', hc, hg, rfl⟩ := hc
  obtain ⟨n, hn⟩ := callS_iff.1 hc
  refine (enter_of hE hx hn hR hv).2.mono ?_
  rintro e w' ⟨c, φ', rfl, hV, hR', hS⟩
  cases hV
  refine ⟨rfl, hS.os, hS.tape, hS.output, hS.size, fun k hk => ?_⟩
  by_cases hl : Live h φ k
  · obtain ⟨o, x, p, ho, hp, rfl⟩ := hl
    obtain ⟨b, hb⟩ := ha o x ho
    obtain ⟨q, hq, h1⟩ := hR.obj _ _ ho
    rw [hp] at hq; simp only [Option.some.injEq] at hq; subst hq
    have ho' := (hg.get o (hR.lt ho)).trans ho
    obtain ⟨q', hq', h2⟩ := hR'.obj _ _ ho'
    rw [hS.ext _ _ hp] at hq'; simp only [Option.some.injEq] at hq'; subst hq'
    exact (h2.pinned hb).trans (h1.pinned hb).symm
  · exact hS.frame k hk hl

end Go.Eng
end

section
set_option linter.unusedVariables false
open Go.RowKit
namespace Go.Eng

/-- how many cells a block has that is not left out -/
def blkSz (W : World) (skip : Nat → Bool) (k : Nat) : Option Nat :=
  match skip k, W.heap[k]? with
  | false, some (.cells c _ _) => some c.size
  | _, _ => none

def plainC : Value → Bool
  | .bool _ => true
  | .int _ _ => true
  | .string _ => true
  | .pointer none => true
  | .slice none _ _ => true
  | .map none => true
  | .nilFunc => true
  | .nilIface => true
  | _ => false

/-- what is told of a cell -/
def trV (W : World) (skip : Nat → Bool) (v : Value) : Value :=
  match v with
  | .slice (some a) 0 0 => .slice (some ⟨0, 0, some 0⟩) 0 0
  | .slice (some ⟨b, x, none⟩) n c => match blkSz W skip b with
    | some sz => if n ≤ c ∧ x + c ≤ sz then .slice (some ⟨b + 2, x, none⟩) n 1 else Go.undef
    | none => Go.undef
  | v => if plainC v = true then v else Go.undef

def romObj (W : World) (skip : Nat → Bool) (k : Nat) : Option AObj :=
  match skip k, W.heap[k]? with
  | false, some (.cells c t fz) => some (.rom (c.toList.map (trV W skip)) (.cells c t fz))
  | _, _ => none

def romPl (φ : Pl) (W : World) (skip : Nat → Bool) : Pl := fun o => if o < 2 then φ o else (blkSz W skip (o - 2)).map fun sz => ⟨o - 2, 0, sz⟩

noncomputable def romTr (W : World) (skip : Nat → Bool) : Nat → Tr AObj → Tr AObj
  | 0, m => m
  | n + 1, m => match romObj W skip n with
    | some x => (romTr W skip n m).set (n + 2) x
    | none => romTr W skip n m

noncomputable def romH (h : H) (W : World) (skip : Nat → Bool) : H := ⟨2 + W.heap.size, romTr W skip W.heap.size h.m⟩

theorem romTr_get (W : World) (skip : Nat → Bool) (m : Tr AObj) (hm : ∀ o, 2 ≤ o → m.get o = none) : ∀ (n o : Nat), (romTr W skip n m).get o = if o < 2 then m.get o else if o - 2 < n then romObj W skip (o - 2) else none
  | 0, o => by
    by_cases h : o < 2
    · rw [if_pos h]; rfl
    · rw [if_neg h, if_neg (by omega)]; exact hm o (by omega)
  | n + 1, o => by
    have ih := romTr_get W skip m hm n o
    unfold romTr
    cases hx : romObj W skip n with
    | some x =>
      simp only
      rw [Tr.get_set]
      by_cases e : o = n + 2
      · subst e
        rw [if_pos rfl, if_neg (by omega), if_pos (by omega)]
        rw [show n + 2 - 2 = n by omega, hx]
      · rw [if_neg e, ih]
        by_cases h : o < 2
        · rw [if_pos h, if_pos h]
        · rw [if_neg h, if_neg h]
          by_cases h2 : o - 2 < n
          · rw [if_pos h2, if_pos (by omega)]
          · rw [if_neg h2, if_neg (by omega)]
    | none =>
      simp only
      rw [ih]
      by_cases h : o < 2
      · rw [if_pos h, if_pos h]
      · rw [if_neg h, if_neg h]
        by_cases h2 : o - 2 < n
        · rw [if_pos h2, if_pos (by omega)]
        · rw [if_neg h2]
          by_cases h3 : o - 2 < n + 1
          · rw [if_pos h3, show o - 2 = n by omega, hx]
          · rw [if_neg h3]

theorem blkSz_lt {W : World} {skip : Nat → Bool} {k sz : Nat} (h : blkSz W skip k = some sz) : skip k = false ∧ ∃ c t fz, W.heap[k]? = some (.cells c t fz) ∧ c.size = sz := by
  unfold blkSz at h
  split at h
  · rename_i c t fz h1 h2
    simp only [Option.some.injEq] at h
    exact ⟨h1, c, t, fz, h2, h⟩
  · simp at h
theorem romObj_some {W : World} {skip : Nat → Bool} {k : Nat} {x : AObj} (h : romObj W skip k = some x) : ∃ c t fz, skip k = false ∧ W.heap[k]? = some (.cells c t fz) ∧ x = .rom (c.toList.map (trV W skip)) (.cells c t fz) ∧ blkSz W skip k = some c.size := by
  unfold romObj at h
  split at h
  · rename_i c t fz h1 h2
    simp only [Option.some.injEq] at h
    exact ⟨c, t, fz, h1, h2, h.symm, by simp [blkSz, h1, h2]⟩
  · simp at h

theorem romPl_at (φ : Pl) {W : World} {skip : Nat → Bool} {k sz : Nat} (h : blkSz W skip k = some sz) : romPl φ W skip (k + 2) = some ⟨k, 0, sz⟩ := by
  unfold romPl
  rw [if_neg (by omega), show k + 2 - 2 = k by omega, h]; rfl

theorem trV_ok (φ : Pl) (W : World) (skip : Nat → Bool) (v : Value) (h : toldV (trV W skip v) = true) : VR (romPl φ W skip) (trV W skip v) v := by
  unfold trV at h ⊢
  split at h
  · exact .eslc _
  · rename_i b x n c hne0
    split at h
    · rename_i sz hb
      split at h
      · rename_i hc
        simp only [hc, and_self, if_true]
        exact VR.slc (off := x) (p := ⟨b, 0, sz⟩) (romPl_at φ hb) (Nat.le_refl 1) hc.1 (by simpa using hc.2) (fun _ => by simp)
      · simp [toldV, Go.undef] at h
    · simp [toldV, Go.undef] at h
  · rename_i hne
    split at h
    · rename_i hp
      have : VR (romPl φ W skip) v v := by
        unfold plainC at hp
        split at hp
        all_goals first
          | exact .bool _
          | exact .int _ _
          | exact .str _
          | exact .nilp
          | exact .nslc _ _
          | exact .nmap
          | exact .nilf
          | exact .nili
          | (exact absurd hp (by simp))
      split <;> exact this
    · simp [toldV, Go.undef] at h

theorem romH_get {h : H} {φ : Pl} {W : World} {skip : Nat → Bool} (hR : Rel h φ W) (hn : h.next ≤ 2) (o : Nat) : (romH h W skip).get o = if o < 2 then h.get o else romObj W skip (o - 2) := by
  have hm : ∀ o, 2 ≤ o → h.m.get o = none := fun o ho => by
    cases hx : h.m.get o with
    | none => rfl
    | some x => have := hR.lt (o := o) (x := x) hx; omega
  show (romTr W skip W.heap.size h.m).get o = _
  rw [romTr_get W skip h.m hm]
  by_cases h1 : o < 2
  · rw [if_pos h1, if_pos h1]; rfl
  · rw [if_neg h1, if_neg h1]
    by_cases h2 : o - 2 < W.heap.size
    · rw [if_pos h2]
    · rw [if_neg h2]
      cases hx : romObj W skip (o - 2) with
      | none => rfl
      | some x =>
        obtain ⟨c, t, fz, _, hc, _⟩ := romObj_some hx
        exact absurd (Array.getElem?_eq_some_iff.1 hc).1 h2

theorem romPl_ext {h : H} {φ : Pl} {W : World} (skip : Nat → Bool) (hR : Rel h φ W) (hn : h.next ≤ 2) : Ext φ (romPl φ W skip) := fun o p hp => by
  unfold romPl
  by_cases h1 : o < 2
  · rw [if_pos h1]; exact hp
  · rw [hR.fresh o (by omega)] at hp; simp at hp

theorem rom_rel {h : H} {φ : Pl} {W : World} {skip : Nat → Bool} (hR : Rel h φ W) (hn : h.next ≤ 2) (hs : ∀ o x p, h.get o = some x → φ o = some p → skip p.b = true) : Rel (romH h W skip) (romPl φ W skip) W := by
  have hx := romPl_ext skip hR hn
  have key : ∀ o x p, (romH h W skip).get o = some x → romPl φ W skip o = some p → (o < 2 ∧ h.get o = some x ∧ φ o = some p) ∨ (2 ≤ o ∧ p.b = o - 2 ∧ skip p.b = false) := by
    intro o x p ho hp
    rw [romH_get hR hn] at ho
    unfold romPl at hp
    by_cases h1 : o < 2
    · rw [if_pos h1] at ho hp; exact .inl ⟨h1, ho, hp⟩
    · rw [if_neg h1] at ho hp
      obtain ⟨c, t, fz, hsk, hc, rfl, hb⟩ := romObj_some ho
      rw [hb] at hp
      simp only [Option.map_some, Option.some.injEq] at hp
      subst hp
      exact .inr ⟨by omega, rfl, hsk⟩
  refine ⟨?_, ?_, ?_⟩
  · intro o x ho
    rw [romH_get hR hn] at ho
    by_cases h1 : o < 2
    · rw [if_pos h1] at ho
      obtain ⟨p, hp, hor⟩ := hR.obj o x ho
      exact ⟨p, hx _ _ hp, hor.mono hx⟩
    · rw [if_neg h1] at ho
      obtain ⟨c, t, fz, hsk, hc, rfl, hb⟩ := romObj_some ho
      refine ⟨⟨o - 2, 0, c.size⟩, ?_, hc, c, t, fz, rfl, rfl, ?_⟩
      · have := romPl_at φ hb
        rwa [show o - 2 + 2 = o by omega] at this
      · intro i v hv ht
        rw [List.getElem?_map] at hv
        cases hy : c.toList[i]? with
        | none => rw [hy] at hv; simp at hv
        | some y =>
          rw [hy] at hv
          simp only [Option.map_some, Option.some.injEq] at hv
          subst hv
          refine ⟨y, ?_, trV_ok φ W skip y ht⟩
          simpa using hy
  · intro o o' x x' p p' ho ho' hp hp' hb
    rcases key o x p ho hp with ⟨a1, a2, a3⟩ | ⟨a1, a2, a3⟩ <;> rcases key o' x' p' ho' hp' with ⟨b1, b2, b3⟩ | ⟨b1, b2, b3⟩
    · exact hR.inj o o' x x' p p' a2 b2 a3 b3 hb
    · have := hs o x p a2 a3; rw [hb, b3] at this; simp at this
    · have := hs o' x' p' b2 b3; rw [← hb, a3] at this; simp at this
    · omega
  · intro o ho
    have ho : 2 + W.heap.size ≤ o := ho
    unfold romPl
    rw [if_neg (by omega)]
    cases hb : blkSz W skip (o - 2) with
    | none => rfl
    | some sz =>
      obtain ⟨_, c, t, fz, hc, _⟩ := blkSz_lt hb
      have := (Array.getElem?_eq_some_iff.1 hc).1
      omega

theorem rom_fixed {h : H} {φ : Pl} {W : World} {skip : Nat → Bool} (hR : Rel h φ W) (hn : h.next ≤ 2) (ha : AllFixed h) : AllFixed (romH h W skip) := fun o x ho => by
  rw [romH_get hR hn] at ho
  by_cases h1 : o < 2
  · rw [if_pos h1] at ho; exact ha o x ho
  · rw [if_neg h1] at ho
    obtain ⟨c, t, fz, _, _, rfl, _⟩ := romObj_some ho
    exact ⟨_, rfl⟩

/-- a cell that is told is read -/
theorem rom_rd {h : H} {φ : Pl} {W : World} {skip : Nat → Bool} (hR : Rel h φ W) (hn : h.next ≤ 2) {b x : Nat} {v : Value} (hs : skip b = false) (hc : W.cell? ⟨b, x, none⟩ = some v) (ht : toldV (trV W skip v) = true) :
    rd (romH h W skip) (b + 2) x 1 = some [trV W skip v] := by
  unfold World.cell? at hc
  split at hc
  · rename_i c t fz hb
    have hv : c[x]? = some v := by simpa using hc
    have hb : W.heap[b]? = some (.cells c t fz) := hb
    unfold rd
    rw [romH_get hR hn, if_neg (by omega), show b + 2 - 2 = b by omega]
    have : romObj W skip b = some (.rom (c.toList.map (trV W skip)) (.cells c t fz)) := by simp [romObj, hs, hb]
    rw [this]
    simp only
    have hl : (c.toList.map (trV W skip))[x]? = some (trV W skip v) := by rw [List.getElem?_map]; simp [hv]
    have hsg : seg (c.toList.map (trV W skip)) x 1 = some [trV W skip v] := seg_one _ _ _ hl
    rw [hsg]
    simp [ht]
  · simp at hc

theorem trV_str (W : World) (skip : Nat → Bool) (s : ByteArray) : trV W skip (.string s) = .string s := by simp [trV, plainC]
theorem trV_nils (W : World) (skip : Nat → Bool) : trV W skip (.slice none 0 0) = .slice none 0 0 := by simp [trV, plainC]
theorem trV_empty (W : World) (skip : Nat → Bool) (a : Addr) : trV W skip (.slice (some a) 0 0) = .slice (some ⟨0, 0, some 0⟩) 0 0 := by simp [trV]
theorem trV_slice {W : World} {skip : Nat → Bool} {b x n c sz : Nat} (hb : blkSz W skip b = some sz) (hc : 0 < c) (hn : n ≤ c) (hx : x + c ≤ sz) : trV W skip (.slice (some ⟨b, x, none⟩) n c) = .slice (some ⟨b + 2, x, none⟩) n 1 := by
  cases c with
  | zero => omega
  | succ c =>
    have : trV W skip (.slice (some ⟨b, x, none⟩) n (c + 1)) = (match blkSz W skip b with
      | some sz => if n ≤ c + 1 ∧ x + (c + 1) ≤ sz then .slice (some ⟨b + 2, x, none⟩) n 1 else Go.undef
      | none => Go.undef) := by cases n <;> rfl
    rw [this, hb]
    simp only
    rw [if_pos ⟨hn, hx⟩]

/-- a slice whose cells can be read, all of them up to its capacity: where it lies -/
theorem slice_at {W : World} {a : Addr} {c : Nat} (hc : 0 < c) (h : ∀ i, i < c → ∃ v, W.cell? (a.add i) = some v) : ∃ b x sz, a = ⟨b, x, none⟩ ∧ blkSz W (fun _ => false) b = some sz ∧ x + c ≤ sz := by
  obtain ⟨b, x, sp⟩ := a
  have h0 : ∃ v, W.cell? ⟨b, x, sp⟩ = some v := by
    obtain ⟨v, hv⟩ := h 0 hc
    exact ⟨v, by simpa [Addr.add] using hv⟩
  obtain ⟨v0, hv0⟩ := h0
  have hsp : sp = none := by
    cases sp with
    | none => rfl
    | some s => unfold World.cell? at hv0; split at hv0 <;> simp at hv0
  subst hsp
  obtain ⟨v, hv⟩ := h (c - 1) (by omega)
  rw [Addr.add_lit] at hv
  unfold World.cell? at hv
  split at hv
  · rename_i cs t fz hb
    have hb : W.heap[b]? = some (.cells cs t fz) := hb
    have hv : cs[x + (c - 1)]? = some v := by simpa using hv
    have := (Array.getElem?_eq_some_iff.1 hv).1
    exact ⟨b, x, cs.size, rfl, by simp [blkSz, hb], by omega⟩
  · simp at hv

/-- a slice of elements of s cells each -/
theorem rom_slice {φ : Pl} {W : World} {skip : Nat → Bool} {b x n c s sz : Nat} (hb : blkSz W skip b = some sz) (hs : 1 ≤ s) (hn : n ≤ c) (hx : x + c * s ≤ sz) :
    VR (romPl φ W skip) (.slice (some ⟨b + 2, x, none⟩) n s) (.slice (some ⟨b, x, none⟩) n c) :=
  VR.slc (off := x) (p := ⟨b, 0, sz⟩) (romPl_at φ hb) hs hn hx (fun _ => by simp)

end Go.Eng
end

section
set_option linter.unusedVariables false
open Go.RowKit
namespace Go.Eng

def fomObj (W : World) (skip fx : Nat → Bool) (k : Nat) : Option AObj :=
  match skip k, W.heap[k]? with
  | false, some (.cells c t fz) => some (match fx k with
    | true => .fixed k t fz c.toList
    | false => .rom (c.toList.map (trV W skip)) (.cells c t fz))
  | _, _ => none

noncomputable def fomTr (W : World) (skip fx : Nat → Bool) : Nat → Tr AObj → Tr AObj
  | 0, m => m
  | n + 1, m => match fomObj W skip fx n with
    | some x => (fomTr W skip fx n m).set (n + 2) x
    | none => fomTr W skip fx n m

noncomputable def fomH (h : H) (W : World) (skip fx : Nat → Bool) : H := ⟨2 + W.heap.size, fomTr W skip fx W.heap.size h.m⟩

theorem fomTr_get (W : World) (skip fx : Nat → Bool) (m : Tr AObj) (hm : ∀ o, 2 ≤ o → m.get o = none) : ∀ (n o : Nat), (fomTr W skip fx n m).get o = if o < 2 then m.get o else if o - 2 < n then fomObj W skip fx (o - 2) else none
  | 0, o => by
    by_cases h : o < 2
    · rw [if_pos h]; rfl
    · rw [if_neg h, if_neg (by omega)]; exact hm o (by omega)
  | n + 1, o => by
    have ih := fomTr_get W skip fx m hm n o
    unfold fomTr
    cases hx : fomObj W skip fx n with
    | some x =>
      simp only
      rw [Tr.get_set]
      by_cases e : o = n + 2
      · subst e
        rw [if_pos rfl, if_neg (by omega), if_pos (by omega)]
        rw [show n + 2 - 2 = n by omega, hx]
      · rw [if_neg e, ih]
        by_cases h : o < 2
        · rw [if_pos h, if_pos h]
        · rw [if_neg h, if_neg h]
          by_cases h2 : o - 2 < n
          · rw [if_pos h2, if_pos (by omega)]
          · rw [if_neg h2, if_neg (by omega)]
    | none =>
      simp only
      rw [ih]
      by_cases h : o < 2
      · rw [if_pos h, if_pos h]
      · rw [if_neg h, if_neg h]
        by_cases h2 : o - 2 < n
        · rw [if_pos h2, if_pos (by omega)]
        · rw [if_neg h2]
          by_cases h3 : o - 2 < n + 1
          · rw [if_pos h3, show o - 2 = n by omega, hx]
          · rw [if_neg h3]

theorem fomObj_some {W : World} {skip fx : Nat → Bool} {k : Nat} {x : AObj} (h : fomObj W skip fx k = some x) : ∃ c t fz, skip k = false ∧ W.heap[k]? = some (.cells c t fz) ∧ blkSz W skip k = some c.size ∧
    ((fx k = true ∧ x = .fixed k t fz c.toList) ∨ (fx k = false ∧ x = .rom (c.toList.map (trV W skip)) (.cells c t fz))) := by
  unfold fomObj at h
  split at h
  · rename_i c t fz h1 h2
    simp only [Option.some.injEq] at h
    refine ⟨c, t, fz, h1, h2, by simp [blkSz, h1, h2], ?_⟩
    cases hf : fx k with
    | true => rw [hf] at h; exact .inl ⟨rfl, h.symm⟩
    | false => rw [hf] at h; exact .inr ⟨rfl, h.symm⟩
  · simp at h

theorem fomH_get {h : H} {φ : Pl} {W : World} {skip fx : Nat → Bool} (hR : Rel h φ W) (hn : h.next ≤ 2) (o : Nat) : (fomH h W skip fx).get o = if o < 2 then h.get o else fomObj W skip fx (o - 2) := by
  have hm : ∀ o, 2 ≤ o → h.m.get o = none := fun o ho => by
    cases hx : h.m.get o with
    | none => rfl
    | some x => have := hR.lt (o := o) (x := x) hx; omega
  show (fomTr W skip fx W.heap.size h.m).get o = _
  rw [fomTr_get W skip fx h.m hm]
  by_cases h1 : o < 2
  · rw [if_pos h1, if_pos h1]; rfl
  · rw [if_neg h1, if_neg h1]
    by_cases h2 : o - 2 < W.heap.size
    · rw [if_pos h2]
    · rw [if_neg h2]
      cases hx : fomObj W skip fx (o - 2) with
      | none => rfl
      | some x =>
        obtain ⟨c, t, fz, _, hc, _⟩ := fomObj_some hx
        exact absurd (Array.getElem?_eq_some_iff.1 hc).1 h2

theorem fom_rel {h : H} {φ : Pl} {W : World} {skip fx : Nat → Bool} (hR : Rel h φ W) (hn : h.next ≤ 2) (hs : ∀ o x p, h.get o = some x → φ o = some p → skip p.b = true) : Rel (fomH h W skip fx) (romPl φ W skip) W := by
  have hx := romPl_ext skip hR hn
  have key : ∀ o x p, (fomH h W skip fx).get o = some x → romPl φ W skip o = some p → (o < 2 ∧ h.get o = some x ∧ φ o = some p) ∨ (2 ≤ o ∧ p.b = o - 2 ∧ skip p.b = false) := by
    intro o x p ho hp
    rw [fomH_get hR hn] at ho
    unfold romPl at hp
    by_cases h1 : o < 2
    · rw [if_pos h1] at ho hp; exact .inl ⟨h1, ho, hp⟩
    · rw [if_neg h1] at ho hp
      obtain ⟨c, t, fz, hsk, hc, hb, _⟩ := fomObj_some ho
      rw [hb] at hp
      simp only [Option.map_some, Option.some.injEq] at hp
      subst hp
      exact .inr ⟨by omega, rfl, hsk⟩
  refine ⟨?_, ?_, ?_⟩
  · intro o x ho
    rw [fomH_get hR hn] at ho
    by_cases h1 : o < 2
    · rw [if_pos h1] at ho
      obtain ⟨p, hp, hor⟩ := hR.obj o x ho
      exact ⟨p, hx _ _ hp, hor.mono hx⟩
    · rw [if_neg h1] at ho
      obtain ⟨c, t, fz, hsk, hc, hb, hh⟩ := fomObj_some ho
      refine ⟨⟨o - 2, 0, c.size⟩, ?_, ?_⟩
      · have := romPl_at φ hb
        rwa [show o - 2 + 2 = o by omega] at this
      rcases hh with ⟨_, rfl⟩ | ⟨_, rfl⟩
      · exact ⟨⟨rfl, rfl⟩, hc⟩
      · refine ⟨hc, c, t, fz, rfl, rfl, ?_⟩
        intro i v hv ht
        rw [List.getElem?_map] at hv
        cases hy : c.toList[i]? with
        | none => rw [hy] at hv; simp at hv
        | some y =>
          rw [hy] at hv
          simp only [Option.map_some, Option.some.injEq] at hv
          subst hv
          refine ⟨y, ?_, trV_ok φ W skip y ht⟩
          simpa using hy
  · intro o o' x x' p p' ho ho' hp hp' hb
    rcases key o x p ho hp with ⟨a1, a2, a3⟩ | ⟨a1, a2, a3⟩ <;> rcases key o' x' p' ho' hp' with ⟨b1, b2, b3⟩ | ⟨b1, b2, b3⟩
    · exact hR.inj o o' x x' p p' a2 b2 a3 b3 hb
    · have := hs o x p a2 a3; rw [hb, b3] at this; simp at this
    · have := hs o' x' p' b2 b3; rw [← hb, a3] at this; simp at this
    · omega
  · intro o ho
    have ho : 2 + W.heap.size ≤ o := ho
    unfold romPl
    rw [if_neg (by omega)]
    cases hb : blkSz W skip (o - 2) with
    | none => rfl
    | some sz =>
      obtain ⟨_, c, t, fz, hc, _⟩ := blkSz_lt hb
      have := (Array.getElem?_eq_some_iff.1 hc).1
      omega

theorem fom_fixed {h : H} {φ : Pl} {W : World} {skip fx : Nat → Bool} (hR : Rel h φ W) (hn : h.next ≤ 2) (ha : AllFixed h) : AllFixed (fomH h W skip fx) := fun o x ho => by
  rw [fomH_get hR hn] at ho
  by_cases h1 : o < 2
  · rw [if_pos h1] at ho; exact ha o x ho
  · rw [if_neg h1] at ho
    obtain ⟨c, t, fz, _, _, _, hh⟩ := fomObj_some ho
    rcases hh with ⟨_, rfl⟩ | ⟨_, rfl⟩ <;> exact ⟨_, rfl⟩

/-- a cell that is told is read (of a fixed block: an integer) -/
theorem fom_rd {h : H} {φ : Pl} {W : World} {skip fx : Nat → Bool} (hR : Rel h φ W) (hn : h.next ≤ 2) {b x : Nat} {v : Value} (hs : skip b = false) (hc : W.cell? ⟨b, x, none⟩ = some v) (ht : toldV (trV W skip v) = true) (hi : fx b = true → intsV v = true) :
    rd (fomH h W skip fx) (b + 2) x 1 = some [trV W skip v] := by
  unfold World.cell? at hc
  split at hc
  · rename_i c t fz hb
    have hv : c[x]? = some v := by simpa using hc
    have hb : W.heap[b]? = some (.cells c t fz) := hb
    unfold rd
    rw [fomH_get hR hn, if_neg (by omega), show b + 2 - 2 = b by omega]
    cases hf : fx b with
    | false =>
      have : fomObj W skip fx b = some (.rom (c.toList.map (trV W skip)) (.cells c t fz)) := by simp [fomObj, hs, hb, hf]
      rw [this]
      simp only
      have hl : (c.toList.map (trV W skip))[x]? = some (trV W skip v) := by rw [List.getElem?_map]; simp [hv]
      have hsg : seg (c.toList.map (trV W skip)) x 1 = some [trV W skip v] := seg_one _ _ _ hl
      rw [hsg]
      simp [ht]
    | true =>
      have : fomObj W skip fx b = some (.fixed b t fz c.toList) := by simp [fomObj, hs, hb, hf]
      rw [this]
      simp only
      have hv1 := hi hf
      have hl : c.toList[x]? = some v := by simpa using hv
      have hsg : seg c.toList x 1 = some [v] := seg_one _ _ _ hl
      have htr : trV W skip v = v := by
        cases v with
        | int k z => simp [trV, plainC]
        | _ => simp [intsV] at hv1
      rw [hsg, htr]
      simp [hv1]
  · simp at hc

end Go.Eng
end
