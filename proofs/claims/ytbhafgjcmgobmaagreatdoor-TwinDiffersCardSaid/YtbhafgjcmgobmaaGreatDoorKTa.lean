/-
  The machine at the twin seat: closed facts on types; rows of cells that may be read.
-/
import Derived.Test.YtbhafgjcmgobmaaGreatDoorKAwA
import Derived.Test.YtbhafgjcmgobmaaGreatDoorKEe
set_option linter.all false
open Go.Eng
set_option maxRecDepth 100000
namespace Go.Proofs.YtbhafgjcmgobmaaGreatDoor
noncomputable def EX (X : Tr Nat) : Env := envOf Tryz.prog X (tabOf sS) 403
theorem btX (X : Tr Nat) : (EX X).bt = 403 := rfl
theorem und3 (X : Tr Nat) : (EX X).und 3 = some (.int .i64) := by kernel_rfl
theorem size3 (X : Tr Nat) : (EX X).size 3 = some 1 := by kernel_rfl
theorem zero3 (X : Tr Nat) : (EX X).zero 3 = some (.int .i64 0) := by kernel_rfl
theorem agg3 (X : Tr Nat) : (EX X).agg 3 = some false := by kernel_rfl
theorem und4 (X : Tr Nat) : (EX X).und 4 = some .bool := by kernel_rfl
theorem size4 (X : Tr Nat) : (EX X).size 4 = some 1 := by kernel_rfl
theorem zero4 (X : Tr Nat) : (EX X).zero 4 = some (.bool false) := by kernel_rfl
theorem agg4 (X : Tr Nat) : (EX X).agg 4 = some false := by kernel_rfl
theorem und9 (X : Tr Nat) : (EX X).und 9 = some .string := by kernel_rfl
theorem size9 (X : Tr Nat) : (EX X).size 9 = some 1 := by kernel_rfl
theorem zero9 (X : Tr Nat) : (EX X).zero 9 = some (.string ⟨#[]⟩) := by kernel_rfl
theorem agg9 (X : Tr Nat) : (EX X).agg 9 = some false := by kernel_rfl
theorem und22 (X : Tr Nat) : (EX X).und 22 = some (.slice 9) := by kernel_rfl
theorem size22 (X : Tr Nat) : (EX X).size 22 = some 1 := by kernel_rfl
theorem zero22 (X : Tr Nat) : (EX X).zero 22 = some (.slice none 0 0) := by kernel_rfl
theorem agg22 (X : Tr Nat) : (EX X).agg 22 = some false := by kernel_rfl
theorem und23 (X : Tr Nat) : (EX X).und 23 = some (.slice 22) := by kernel_rfl
theorem size23 (X : Tr Nat) : (EX X).size 23 = some 1 := by kernel_rfl
theorem zero23 (X : Tr Nat) : (EX X).zero 23 = some (.slice none 0 0) := by kernel_rfl
theorem agg23 (X : Tr Nat) : (EX X).agg 23 = some false := by kernel_rfl
theorem gf3 (X : Tr Nat) : (EX X).F.get 3 = some Tryz.f3 := by kernel_rfl
theorem gf5 (X : Tr Nat) : (EX X).F.get 5 = some Tryz.f5 := by kernel_rfl
theorem gf6 (X : Tr Nat) : (EX X).F.get 6 = some Tryz.f6 := by kernel_rfl
theorem gf7 (X : Tr Nat) : (EX X).F.get 7 = some Tryz.f7 := by kernel_rfl
theorem gf9 (X : Tr Nat) : (EX X).F.get 9 = some Tryz.f9 := by kernel_rfl
/-- which functions the machine walks -/
structure PT (X : Tr Nat) : Prop where
  n3 : X.get 3 = none
  n5 : X.get 5 = none
  n6 : X.get 6 = none
  n7 : X.get 7 = none
  n9 : X.get 9 = none
  h4 : X.get 4 = some 10

/-- a slice of cells of one each, wherever they lie -/
def RView (h : H) (v : Value) (cs : List Value) : Prop :=
  ∃ p s, v = .slice p cs.length s ∧ ∀ i x, cs[i]? = some x → s = 1 ∧ ∃ o off, p = some ⟨o, off, none⟩ ∧ o < h.next ∧ rd h o (off + i) 1 = some [x]
theorem RView.len {h : H} {v : Value} {cs : List Value} (a : RView h v cs) : ∃ p s, v = .slice p cs.length s := let ⟨p, s, e, _⟩ := a; ⟨p, s, e⟩
theorem RView.at {h : H} {p : Option Addr} {n s : Nat} {cs : List Value} (a : RView h (.slice p n s) cs) {i : Nat} {x : Value} (hx : cs[i]? = some x) : s = 1 ∧ ∃ o off, p = some ⟨o, off, none⟩ ∧ rd h o (off + i) 1 = some [x] := by
  obtain ⟨p', s', e, k⟩ := a
  simp only [Value.slice.injEq] at e
  obtain ⟨rfl, _, rfl⟩ := e
  obtain ⟨h1, o, off, h2, _, h3⟩ := k i x hx
  exact ⟨h1, o, off, h2, h3⟩
theorem rd_grows {h h' : H} (g : Grows h h') {o off n : Nat} (ho : o < h.next) : rd h' o off n = rd h o off n := by unfold rd; rw [g.get o ho]
theorem RView.grows {h h' : H} {v : Value} {cs : List Value} (a : RView h v cs) (g : Grows h h') : RView h' v cs := by
  obtain ⟨p, s, e, k⟩ := a
  refine ⟨p, s, e, fun i x hx => ?_⟩
  obtain ⟨h1, o, off, h2, h3, h4⟩ := k i x hx
  exact ⟨h1, o, off, h2, Nat.lt_of_lt_of_le h3 g.next, by rw [rd_grows g h3]; exact h4⟩
theorem RView.nil (h : H) : RView h (.slice none 0 0) [] := ⟨none, 0, rfl, fun i x hx => by simp at hx⟩
abbrev RStrs (h : H) (v : Value) (l : List (List UInt8)) : Prop := RView h v (strC l)
theorem strC_at' {l : List (List UInt8)} {i : Nat} (h : i < l.length) : (strC l)[i]? = some (.string (bsOf (l[i]'h))) := by
  unfold strC; rw [List.getElem?_map, List.getElem?_eq_getElem h]; rfl

/-! ### Where two lists begin to differ -/
def dif : List (List UInt8) → List (List UInt8) → Option Nat
  | [], [] => none
  | [], _ :: _ => some 0
  | _ :: _, [] => some 0
  | x :: a, y :: b => if x = y then (dif a b).map (· + 1) else some 0
def difV : Option Nat → Value
  | some i => .int .i64 (Int.ofNat i)
  | none => .int .i64 (-1)

theorem dif_eq : ∀ (a b : List (List UInt8)), dif a b = none ↔ a = b
  | [], [] => by simp [dif]
  | [], _ :: _ => by simp [dif]
  | _ :: _, [] => by simp [dif]
  | x :: a, y :: b => by
    unfold dif
    by_cases h : x = y
    · rw [if_pos h, Option.map_eq_none_iff, dif_eq a b, h]; simp
    · rw [if_neg h]; simp [h]

/-- the first i are alike -/
theorem dif_drop : ∀ (i : Nat) (a b : List (List UInt8)), i ≤ a.length → i ≤ b.length → (∀ j (h1 : j < a.length) (h2 : j < b.length), j < i → a[j] = b[j]) → dif a b = (dif (a.drop i) (b.drop i)).map (· + i)
  | 0, a, b, _, _, _ => by simp
  | i + 1, [], b, h, _, _ => by simp at h
  | i + 1, _ :: _, [], _, h, _ => by simp at h
  | i + 1, x :: a, y :: b, h1, h2, hj => by
    have h0 : x = y := hj 0 (by simp) (by simp) (by omega)
    have ih := dif_drop i a b (by simpa using h1) (by simpa using h2) (fun j h3 h4 h5 => hj (j + 1) (Nat.succ_lt_succ h3) (Nat.succ_lt_succ h4) (by omega))
    rw [show dif (x :: a) (y :: b) = if x = y then (dif a b).map (· + 1) else some 0 from rfl, if_pos h0, ih, List.drop_succ_cons, List.drop_succ_cons, Option.map_map]
    rfl
theorem dif_here {a b : List (List UInt8)} {i : Nat} (h1 : i ≤ a.length) (h2 : i ≤ b.length) (hj : ∀ j (h1 : j < a.length) (h2 : j < b.length), j < i → a[j] = b[j]) (hd : dif (a.drop i) (b.drop i) = some 0) : dif a b = some i := by
  rw [dif_drop i a b h1 h2 hj, hd]; simp

/-- are all lists as the first one? -/
def alikeS (L : List (List (List UInt8))) : Bool := L.all fun x => decide (dif (L.headD []) x = none)
end Go.Proofs.YtbhafgjcmgobmaaGreatDoor
