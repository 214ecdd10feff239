/-
  strings.Repeat and strings.ReplaceAll of one byte: what the abstract machine says of them is so, where the kit's contracts are laid (and the variable MaxLen is an object).
-/
import Derived.Test.YtkoccbggjfbgaaaGreatDoorKEe
import Derived.Shelf.Strings.Repeat
import Derived.Shelf.Strings.Replace
set_option linter.all false
set_option linter.unusedVariables false
set_option linter.unusedSimpArgs false
namespace Go.Eng
open Go.Shelf Go.RowKit Go.Proofs

theorem hook_repeat_eq {k : Nat} (hk : k % 16 = 0) (hk0 : k ≠ 0) (h1 : k / 16 % 16 = 2) (args : List Value) (h : H) : hook k args h = hRepeat args h := by
  rw [hook_gen2 hk (.inr ⟨rfl, hk0⟩)]
  unfold hGen
  rw [show Nat.mod k 16 = 0 from hk]
  simp only
  unfold hMore
  rw [show Nat.mod (Nat.div k 16) 16 = 2 from h1]
  rfl
theorem hook_replace_eq {k b : Nat} (hk : k % 16 = 0) (hk0 : k ≠ 0) (h1 : k / 16 % 16 = 3) (hb : k / 16 / 16 = b) (args : List Value) (h : H) : hook k args h = hReplace b args h := by
  rw [hook_gen2 hk (.inr ⟨rfl, hk0⟩)]
  unfold hGen
  rw [show Nat.mod k 16 = 0 from hk]
  simp only
  unfold hMore
  rw [show Nat.mod (Nat.div k 16) 16 = 3 from h1]
  simp only [show Nat.div (Nat.div k 16) 16 = b from hb]

theorem repl_eq (l : List UInt8) : ∀ n, Lib.repeatL l n = repl l n
  | 0 => rfl
  | n + 1 => by rw [Lib.repeatL, repl, repl_eq l n]

def RepeatCall (P : Program) (f : Nat) : Prop :=
  ∀ (s : ByteArray) (c : Nat) (w : World), c ≤ 16777216 → s.size * c ≤ 16777216 → Calls P f #[.string s, .int .i64 c] w fun e w' => e = .returned (.string (bsOf (repl s.data.toList c))) ∧ Below w.heap.size w w'

theorem hook_repeat {P : Program} {f k : Nat} (hk : k % 16 = 0) (hk0 : k ≠ 0) (h1 : k / 16 % 16 = 2)
    (hent : ∀ args w, (callFunc f args).run P w = .ok (.enter f args) w) (hc : RepeatCall P f) : HookOK P f k := by
  intro vs h v h' he φ w cs hR hv
  rw [hook_repeat_eq hk hk0 h1] at he
  unfold hRepeat at he
  split at he
  case h_2 => simp at he
  rename_i s n
  split at he
  case h_2 => simp at he
  rename_i h2 h3
  have h2 := Nat.le_of_ble_eq_true h2
  have h3 := Nat.le_of_ble_eq_true h3
  simp only [Option.some.injEq, Prod.mk.injEq] at he; obtain ⟨rfl, rfl⟩ := he
  obtain ⟨c1, c2, rfl, g1, g2⟩ := hv.two
  have := g1.str'; subst this
  have := g2.int'; subst this
  right
  refine ⟨hent _ _, ?_⟩
  refine (hc s n w h3 (by rw [Lib.size_eq]; exact h2)).mono ?_
  rintro x w' ⟨rfl, hbel⟩
  exact ⟨_, φ, rfl, .str _, hR.below hbel, Step.of_below hbel⟩

theorem intA_ok {o b : Nat} {h : H} {φ : Pl} {w : World} (hR : Rel h φ w) (ht : intA o b h = true) : ∃ m, w.cell? ⟨b, 0, none⟩ = some (.int .i64 m) := by
  unfold intA at ht
  split at ht
  case h_2 => simp at ht
  rename_i b' t fz m r hg
  have hb := Nat.eq_of_beq_eq_true ht
  subst hb
  obtain ⟨p, hp, hpb, hcell⟩ := hR.obj _ _ hg
  rw [hpb] at hcell
  exact ⟨m, by simp [World.cell?, hcell]⟩

def ReplaceCall (P : Program) (f b : Nat) : Prop :=
  ∀ (s new : ByteArray) (c : UInt8) (w : World), s.size * (new.size + 1) ≤ 16777216 → (∃ m, w.cell? ⟨b, 0, none⟩ = some (.int .i64 m)) →
    Calls P f #[.string s, .string ⟨#[c]⟩, .string new] w fun e w' => e = .returned (.string (bsOf (replB c new.data.toList s.data.toList))) ∧ Below w.heap.size w w'

theorem hook_replace {P : Program} {f k b : Nat} (hk : k % 16 = 0) (hk0 : k ≠ 0) (h1 : k / 16 % 16 = 3) (hb : k / 16 / 16 = b)
    (hent : ∀ args w, (callFunc f args).run P w = .ok (.enter f args) w) (hc : ReplaceCall P f b) : HookOK P f k := by
  intro vs h v h' he φ w cs hR hv
  rw [hook_replace_eq hk hk0 h1 hb] at he
  unfold hReplace at he
  split at he
  case h_2 => simp at he
  rename_i s old new
  split at he
  case h_2 => simp at he
  rename_i c hold hle hint
  have hle := Nat.le_of_ble_eq_true hle
  simp only [Option.some.injEq, Prod.mk.injEq] at he; obtain ⟨rfl, rfl⟩ := he
  obtain ⟨c1, c2, c3, rfl, g1, g2, g3⟩ := hv.three
  have := g1.str'; subst this
  have := g2.str'; subst this
  have := g3.str'; subst this
  have hold' : old = ⟨#[c]⟩ := by
    rw [← bsOf_data old, hold]; rfl
  subst hold'
  right
  refine ⟨hent _ _, ?_⟩
  refine (hc s new c w (by rw [Lib.size_eq, Lib.size_eq]; exact hle) (intA_ok hR hint)).mono ?_
  rintro x w' ⟨rfl, hbel⟩
  exact ⟨_, φ, rfl, .str _, hR.below hbel, Step.of_below hbel⟩

/-! ### ReplaceAll as a plain list -/
theorem replB_hit (c : UInt8) (new r : List UInt8) : replB c new (c :: r) = new ++ replB c new r := by
  have : Nat.beq c.toNat c.toNat = true := Nat.beq_refl _
  simp [replB, this]
theorem replB_miss {c x : UInt8} (h : x ≠ c) (new r : List UInt8) : replB c new (x :: r) = x :: replB c new r := by
  have : Nat.beq x.toNat c.toNat = false := by
    cases hb : Nat.beq x.toNat c.toNat with
    | false => rfl
    | true => exact absurd (UInt8.toNat_inj.1 (Nat.eq_of_beq_eq_true hb)) h
  simp [replB, this]
theorem replB_same (c : UInt8) : ∀ l : List UInt8, replB c [c] l = l
  | [] => rfl
  | x :: r => by
    by_cases h : x = c
    · subst h; rw [replB_hit, replB_same x r]; rfl
    · rw [replB_miss h, replB_same c r]
theorem replB_none {c : UInt8} (new : List UInt8) : ∀ {l : List UInt8}, c ∉ l → replB c new l = l
  | [], _ => rfl
  | x :: r, h => by
    rw [replB_miss (fun e => h (by simp [e])), replB_none new (fun e => h (by simp [e]))]
theorem replB_cut {c : UInt8} (new : List UInt8) : ∀ {a : List UInt8} (b : List UInt8), c ∉ a → replB c new (a ++ c :: b) = a ++ new ++ replB c new b
  | [], b, _ => by rw [List.nil_append, replB_hit]; rfl
  | x :: r, b, h => by
    rw [List.cons_append, replB_miss (fun e => h (by simp [e])), replB_cut new b (fun e => h (by simp [e]))]; rfl

theorem replaceK_one (c : UInt8) (new : List UInt8) : ∀ (n : Nat) (l : List UInt8), l.length ≤ n → Lib.replaceK [c] new (Lib.count l [c]) l = replB c new l := by
  intro n
  induction n with
  | zero =>
    intro l h
    have : l = [] := List.eq_nil_of_length_eq_zero (by omega)
    subst this
    rw [Lib.count_miss (index_one_none (by simp))]
    rfl
  | succ n ih =>
    intro l h
    rcases cut_at c l with h' | ⟨a, b, rfl, h'⟩
    · rw [Lib.count_miss (index_one_none h'), replB_none new h']
      rfl
    · have hi := index_one_some b h'
      have hd : (a ++ c :: b).drop (a.length + [c].length) = b := by
        have e : a ++ c :: b = (a ++ [c]) ++ b := by simp
        rw [e, List.drop_left' (by simp)]
      rw [Lib.count_hit (by simp) hi, hd, replB_cut new b h', Nat.add_comm, Lib.replaceK_hit _ _ _ _ _ hi, hd, List.take_left' rfl, ih b (by simp at h; omega)]

theorem replaceAll_one (s new : List UInt8) (c : UInt8) : Lib.replaceAll s [c] new = replB c new s := by
  unfold Lib.replaceAll Lib.replace
  by_cases h : ([c] == new) = true
  · rw [if_pos h]
    have : [c] = new := by simpa using h
    rw [← this, replB_same]
  · rw [if_neg h]
    have : Lib.replaceNum s [c] (-1) = Lib.count s [c] := by unfold Lib.replaceNum; rw [if_pos (.inl (by decide))]
    rw [this]
    exact replaceK_one c new _ s (Nat.le_refl _)

variable {P : Program} {ρ : Ren}
theorem repeat_call (L : Lays.n105 P ρ) (X : Builder.Extra P ρ) : RepeatCall P (ρ.f 105) := by
  intro s c w hc hlen
  refine (Any.strings_Repeat L X s c w (by omega) (by omega)).mono ?_
  rintro e w' ⟨rfl, hb⟩
  rw [repl_eq]
  exact ⟨rfl, hb⟩

theorem replace_call (L : Lays.n155 P ρ) (X : Builder.Extra P ρ) : ReplaceCall P (ρ.f 155) (ρ.g 1) := by
  intro s new c w hlen ⟨m, hm⟩
  have h1 : s.size ≤ s.size * (new.size + 1) := Nat.le_mul_of_pos_right _ (by omega)
  have h2 : s.size * new.size ≤ s.size * (new.size + 1) := Nat.mul_le_mul_left _ (by omega)
  have h3 := Lib.countB_le ⟨#[c]⟩ (Nat.le_refl 1) s.size s (Nat.le_refl _)
  have h4 : Lib.countB s ⟨#[c]⟩ * new.size ≤ s.size * new.size := Nat.mul_le_mul_right _ h3
  refine (Any.strings_ReplaceAll L X s ⟨#[c]⟩ new m w (by omega) hm (Nat.le_refl 1) (by omega)).mono ?_
  rintro e w' ⟨rfl, hb⟩
  have : (ByteArray.mk #[c]).data.toList = [c] := rfl
  rw [this, replaceAll_one]
  exact ⟨rfl, hb⟩

end Go.Eng
