/-
  strings.Repeat and strings.ReplaceAll of one byte: what the abstract machine says of them is so, where the kit's contracts are laid (and the variable MaxLen is an object). strings.ContainsAny at a blank and a newline, at every string: IndexRune at runes beyond ASCII, IndexAny's short road. strings.ContainsAny, Count, Index: what the abstract machine says of them is so, where the kit's contracts are laid.
-/
import Derived.Test.YtkoccbggjfbgaaaGreatDoorK35
import Derived.Shelf.Strings.Repeat
import Derived.Shelf.Strings.Replace
import Derived.Shelf.Strings.IndexAnyAll
import Derived.Laws.RangeAny
import Derived.Shelf.Small.Utf8
import Derived.Laws.Runes
import Derived.WalkMore
import Derived.Laws.Strings3
import Derived.Laws.DeepStrings4
import Derived.Shelf.RegionOpenPlain
import Derived.Deep.DeepBigQuietO
import Derived.WalkKit
import Derived.Laws.Cover4
import Derived.Lib.TrimU
import Derived.Lib.OthersKept
import Derived.Deep.LoopGhost
import Derived.Shelf.Strings.Count
import Derived.Shelf.Strings.Search3
set_option linter.all false

section
set_option linter.unusedVariables false
set_option linter.unusedSimpArgs false
namespace Go.Eng
open Go.Shelf Go.RowKit Go.Proofs

theorem hook_repeat_eq {k : Nat} (hk : k % 16 = 0) (hk0 : k ≠ 0) (h1 : k / 16 % 16 = 2) (args : List Value) (h : H) : hook k args h = hRepeat args h := by
  rw [hook_gen2 hk (.inr ⟨rfl, hk0⟩)]
  unfold hGen
  rw [show Nat.mod k 16 = 0 from hk]
  simp only
  unfold hMore
  rw [show Nat.mod (Nat.div k 16) 16 = 2 from h1]
  rfl
theorem hook_replace_eq {k b : Nat} (hk : k % 16 = 0) (hk0 : k ≠ 0) (h1 : k / 16 % 16 = 3) (hb : k / 16 / 16 = b) (args : List Value) (h : H) : hook k args h = hReplace b args h := by
  rw [hook_gen2 hk (.inr ⟨rfl, hk0⟩)]
  unfold hGen
  rw [show Nat.mod k 16 = 0 from hk]
  simp only
  unfold hMore
  rw [show Nat.mod (Nat.div k 16) 16 = 3 from h1]
  simp only [show Nat.div (Nat.div k 16) 16 = b from hb]

theorem repl_eq (l : List UInt8) : ∀ n, Lib.repeatL l n = repl l n
  | 0 => rfl
  | n + 1 => by rw [Lib.repeatL, repl, repl_eq l n]

def RepeatCall (P : Program) (f : Nat) : Prop :=
  ∀ (s : ByteArray) (c : Nat) (w : World), c ≤ 16777216 → s.size * c ≤ 16777216 → Calls P f #[.string s, .int .i64 c] w fun e w' => e = .returned (.string (bsOf (repl s.data.toList c))) ∧ Below w.heap.size w w'

theorem hook_repeat {P : Program} {f k : Nat} (hk : k % 16 = 0) (hk0 : k ≠ 0) (h1 : k / 16 % 16 = 2)
    (hent : ∀ args w, (callFunc f args).run P w = .ok (.enter f args) w) (hc : RepeatCall P f) : HookOK P f k := by
  intro vs h v h' he φ w cs hR hv
  rw [hook_repeat_eq hk hk0 h1] at he
  unfold hRepeat at he
  split at he
  case h_2 => simp at he
  rename_i s n
  split at he
  case h_2 => simp at he
  rename_i h2 h3
  have h2 := Nat.le_of_ble_eq_true h2
  have h3 := Nat.le_of_ble_eq_true h3
  simp only [Option.some.injEq, Prod.mk.injEq] at he; obtain ⟨rfl, rfl⟩ := he
  obtain ⟨c1, c2, rfl, g1, g2⟩ := hv.two
  have := g1.str'; subst this
  have := g2.int'; subst this
  right
  refine ⟨hent _ _, ?_⟩
  refine (hc s n w h3 (by rw [Lib.size_eq]; exact h2)).mono ?_
  rintro x w' ⟨rfl, hbel⟩
  exact ⟨_, φ, rfl, .str _, hR.below hbel, Step.of_below hbel⟩

theorem intA_ok {o b : Nat} {h : H} {φ : Pl} {w : World} (hR : Rel h φ w) (ht : intA o b h = true) : ∃ m, w.cell? ⟨b, 0, none⟩ = some (.int .i64 m) := by
  unfold intA at ht
  split at ht
  case h_2 => simp at ht
  rename_i b' t fz m r hg
  have hb := Nat.eq_of_beq_eq_true ht
  subst hb
  obtain ⟨p, hp, ⟨hpb, _⟩, hcell⟩ := hR.obj _ _ hg
  rw [hpb] at hcell
  exact ⟨m, by simp [World.cell?, hcell]⟩

def ReplaceCall (P : Program) (f b : Nat) : Prop :=
  ∀ (s new : ByteArray) (c : UInt8) (w : World), s.size * (new.size + 1) ≤ 16777216 → (∃ m, w.cell? ⟨b, 0, none⟩ = some (.int .i64 m)) →
    Calls P f #[.string s, .string ⟨#[c]⟩, .string new] w fun e w' => e = .returned (.string (bsOf (replB c new.data.toList s.data.toList))) ∧ Below w.heap.size w w'

theorem hook_replace {P : Program} {f k b : Nat} (hk : k % 16 = 0) (hk0 : k ≠ 0) (h1 : k / 16 % 16 = 3) (hb : k / 16 / 16 = b)
    (hent : ∀ args w, (callFunc f args).run P w = .ok (.enter f args) w) (hc : ReplaceCall P f b) : HookOK P f k := by
  intro vs h v h' he φ w cs hR hv
  rw [hook_replace_eq hk hk0 h1 hb] at he
  unfold hReplace at he
  split at he
  case h_2 => simp at he
  rename_i s old new
  split at he
  case h_2 => simp at he
  rename_i c hold hle hint
  have hle := Nat.le_of_ble_eq_true hle
  simp only [Option.some.injEq, Prod.mk.injEq] at he; obtain ⟨rfl, rfl⟩ := he
  obtain ⟨c1, c2, c3, rfl, g1, g2, g3⟩ := hv.three
  have := g1.str'; subst this
  have := g2.str'; subst this
  have := g3.str'; subst this
  have hold' : old = ⟨#[c]⟩ := by
    rw [← bsOf_data old, hold]; rfl
  subst hold'
  right
  refine ⟨hent _ _, ?_⟩
  refine (hc s new c w (by rw [Lib.size_eq, Lib.size_eq]; exact hle) (intA_ok hR hint)).mono ?_
  rintro x w' ⟨rfl, hbel⟩
  exact ⟨_, φ, rfl, .str _, hR.below hbel, Step.of_below hbel⟩

/-! ### ReplaceAll as a plain list -/
theorem replB_hit (c : UInt8) (new r : List UInt8) : replB c new (c :: r) = new ++ replB c new r := by
  have : Nat.beq c.toNat c.toNat = true := Nat.beq_refl _
  simp [replB, this]
theorem replB_miss {c x : UInt8} (h : x ≠ c) (new r : List UInt8) : replB c new (x :: r) = x :: replB c new r := by
  have : Nat.beq x.toNat c.toNat = false := by
    cases hb : Nat.beq x.toNat c.toNat with
    | false => rfl
    | true => exact absurd (UInt8.toNat_inj.1 (Nat.eq_of_beq_eq_true hb)) h
  simp [replB, this]
theorem replB_same (c : UInt8) : ∀ l : List UInt8, replB c [c] l = l
  | [] => rfl
  | x :: r => by
    by_cases h : x = c
    · subst h; rw [replB_hit, replB_same x r]; rfl
    · rw [replB_miss h, replB_same c r]
theorem replB_none {c : UInt8} (new : List UInt8) : ∀ {l : List UInt8}, c ∉ l → replB c new l = l
  | [], _ => rfl
  | x :: r, h => by
    rw [replB_miss (fun e => h (by simp [e])), replB_none new (fun e => h (by simp [e]))]
theorem replB_cut {c : UInt8} (new : List UInt8) : ∀ {a : List UInt8} (b : List UInt8), c ∉ a → replB c new (a ++ c :: b) = a ++ new ++ replB c new b
  | [], b, _ => by rw [List.nil_append, replB_hit]; rfl
  | x :: r, b, h => by
    rw [List.cons_append, replB_miss (fun e => h (by simp [e])), replB_cut new b (fun e => h (by simp [e]))]; rfl

theorem replaceK_one (c : UInt8) (new : List UInt8) : ∀ (n : Nat) (l : List UInt8), l.length ≤ n → Lib.replaceK [c] new (Lib.count l [c]) l = replB c new l := by
  intro n
  induction n with
  | zero =>
    intro l h
    have : l = [] := List.eq_nil_of_length_eq_zero (by omega)
    subst this
    rw [Lib.count_miss (index_one_none (by simp))]
    rfl
  | succ n ih =>
    intro l h
    rcases cut_at c l with h' | ⟨a, b, rfl, h'⟩
    · rw [Lib.count_miss (index_one_none h'), replB_none new h']
      rfl
    · have hi := index_one_some b h'
      have hd : (a ++ c :: b).drop (a.length + [c].length) = b := by
        have e : a ++ c :: b = (a ++ [c]) ++ b := by simp
        rw [e, List.drop_left' (by simp)]
      rw [Lib.count_hit (by simp) hi, hd, replB_cut new b h', Nat.add_comm, Lib.replaceK_hit _ _ _ _ _ hi, hd, List.take_left' rfl, ih b (by simp at h; omega)]

theorem replaceAll_one (s new : List UInt8) (c : UInt8) : Lib.replaceAll s [c] new = replB c new s := by
  unfold Lib.replaceAll Lib.replace
  by_cases h : ([c] == new) = true
  · rw [if_pos h]
    have : [c] = new := by simpa using h
    rw [← this, replB_same]
  · rw [if_neg h]
    have : Lib.replaceNum s [c] (-1) = Lib.count s [c] := by unfold Lib.replaceNum; rw [if_pos (.inl (by decide))]
    rw [this]
    exact replaceK_one c new _ s (Nat.le_refl _)

variable {P : Program} {ρ : Ren}
theorem repeat_call (L : Lays.n105 P ρ) (X : Builder.Extra P ρ) : RepeatCall P (ρ.f 105) := by
  intro s c w hc hlen
  refine (Any.strings_Repeat L X s c w (by omega) (by omega)).mono ?_
  rintro e w' ⟨rfl, hb⟩
  rw [repl_eq]
  exact ⟨rfl, hb⟩

theorem replace_call (L : Lays.n155 P ρ) (X : Builder.Extra P ρ) : ReplaceCall P (ρ.f 155) (ρ.g 1) := by
  intro s new c w hlen ⟨m, hm⟩
  have h1 : s.size ≤ s.size * (new.size + 1) := Nat.le_mul_of_pos_right _ (by omega)
  have h2 : s.size * new.size ≤ s.size * (new.size + 1) := Nat.mul_le_mul_left _ (by omega)
  have h3 := Lib.countB_le ⟨#[c]⟩ (Nat.le_refl 1) s.size s (Nat.le_refl _)
  have h4 : Lib.countB s ⟨#[c]⟩ * new.size ≤ s.size * new.size := Nat.mul_le_mul_right _ h3
  refine (Any.strings_ReplaceAll L X s ⟨#[c]⟩ new m w (by omega) hm (Nat.le_refl 1) (by omega)).mono ?_
  rintro e w' ⟨rfl, hb⟩
  have : (ByteArray.mk #[c]).data.toList = [c] := rfl
  rw [this, replaceAll_one]
  exact ⟨rfl, hb⟩

end Go.Eng
end

section
set_option linter.unusedVariables false
set_option linter.unusedSimpArgs false
namespace Go.Eng
open Go.Shelf Go.RowKit Go.Proofs Go.Lib
variable {P : Program} {ρ : Ren}

theorem ib_ret {i : Nat} {Q : Exit → Act → World → Prop} {a : Act} {w : World} : Exit.inBlock i Q .ret a w = Q .ret a w := rfl
theorem th_ret {n : Act → World → Prop} {Q : Exit → Act → World → Prop} {a : Act} {w : World} : Exit.then n Q .ret a w = Q .ret a w := rfl

set_option maxHeartbeats 4000000 in
set_option maxRecDepth 1000000 in
theorem idxRune_err (L : Lays.n152 P ρ) (c d : UInt8) (hc : c.toNat < 128) (hd : d.toNat < 128) (w : World) :
    Calls P (ρ.f 152) #[.string ⟨#[c, d]⟩, .int .i32 65533] w fun e w' => e = .returned (.int .i64 (-1)) ∧ Below w.heap.size w w' := by
  have t3 := L.t3; have a3 := L.a3; have z3 := L.z3; have v3 := L.v3
  have t4 := L.t4; have a4 := L.a4; have z4 := L.z4; have v4 := L.v4
  have t5 := L.t5; have a5 := L.a5; have z5 := L.z5; have v5 := L.v5
  have t9 := L.t9; have a9 := L.a9; have z9 := L.z9; have v9 := L.v9
  have t21 := L.t21; have a21 := L.a21; have z21 := L.z21; have v21 := L.v21
  have hnx0 := fun ty => run_next_ascii (P := P) w ⟨#[c, d]⟩ 0 ty (by show 0 < 2; decide) hc
  have hnx1 := fun ty => run_next_ascii (P := P) w ⟨#[c, d]⟩ 1 ty (by show 1 < 2; decide) hd
  have hnx2 := fun ty => run_next_end (P := P) w ⟨#[c, d]⟩ 2 ty (by show ¬ 2 < 2; decide)
  have hb0 : ((⟨#[c, d]⟩ : ByteArray)[0]'(by show 0 < 2; decide)) = c := rfl
  have hb1 : ((⟨#[c, d]⟩ : ByteArray)[1]'(by show 1 < 2; decide)) = d := rfl
  rw [hb0] at hnx0
  rw [hb1] at hnx1
  go_enter L.f152, Body.n152_ntmps ρ
  go_wp2
  go_loopg [5, 6] 2 (fun g _ _ wx => ∃ i : Nat, i + g = 2 ∧ wx = w.iter ⟨#[c, d]⟩ i)
  case atStart => exact ⟨0, rfl, rfl⟩
  case round =>
    obtain ⟨i, hig, rfl⟩ := hrel
    have hi : i = 0 ∨ i = 1 ∨ i = 2 := by omega
    rcases hi with rfl | rfl | rfl
    · obtain rfl : gk = 2 := by omega
      go_wp2
      go_roundg 1
      case measure => omega
      case rel => exact ⟨1, rfl, rfl⟩
    · obtain rfl : gk = 1 := by omega
      go_wp2
      go_roundg 0
      case measure => omega
      case rel => exact ⟨2, rfl, rfl⟩
    · obtain rfl : gk = 0 := by omega
      go_wp2
      go_ret
      exact ⟨rfl, (Below.refl _ w).alloc (Nat.le_refl _) _⟩

set_option maxHeartbeats 4000000 in
set_option maxRecDepth 1000000 in
theorem idxRune_3 (L : Lays.n152 P ρ) (c d : UInt8) (hc : c.toNat < 128) (hd : d.toNat < 128) (r : Int) (hr : 128 ≤ r) (h3 : r ≠ 65533) (hv : Utf8.valid r = true) (hsz : (Utf8.encode r).size = 3) (w : World) :
    Calls P (ρ.f 152) #[.string ⟨#[c, d]⟩, .int .i32 r] w fun e w' => e = .returned (.int .i64 (-1)) ∧ Below w.heap.size w w' := by
  have t3 := L.t3; have a3 := L.a3; have z3 := L.z3; have v3 := L.v3
  have t4 := L.t4; have a4 := L.a4; have z4 := L.z4; have v4 := L.v4
  have t5 := L.t5; have a5 := L.a5; have z5 := L.z5; have v5 := L.v5
  have t9 := L.t9; have a9 := L.a9; have z9 := L.z9; have v9 := L.v9
  have t21 := L.t21; have a21 := L.a21; have z21 := L.z21; have v21 := L.v21
  have e119 : ∀ args w, (callFunc (ρ.f 119) args).run P w = .ok (.enter (ρ.f 119) args) w := enters_of L.f119 (by kernel_rfl) rfl
  have e137 : ∀ args w, (callFunc (ρ.f 137) args).run P w = .ok (.enter (ρ.f 137) args) w := enters_of L.f137 (by kernel_rfl) rfl
  have hr1 : decide (r < 128) = false := decide_eq_false (by omega)
  have hr2 : (r == 65533) = false := beq_eq_false_iff_ne.2 h3
  have hval : Lib.validRune r = true := by
    unfold Utf8.valid at hv
    unfold Lib.validRune
    simp at hv ⊢
    omega
  go_enter L.f152, Body.n152_ntmps ρ
  go_wp2_with (go_at_fn (ρ.f 119); refine (Any.utf8_ValidRune { L with } _ _).mono ?_; rintro e w1 ⟨rfl, hw⟩; rw [hw, hval])
  go_step3
  go_wp2
  go_loopg [9] 0 (fun g s9 wx => s9 = .int .i64 2 ∧ wx = w)
  case atStart => exact ⟨rfl, rfl⟩
  case round =>
    obtain ⟨rfl, rfl⟩ := hrel
    go_wp2
    rw [Exit.noGoto_ret]
    go_ret
    exact ⟨rfl, Below.refl _ _⟩

set_option maxHeartbeats 4000000 in
set_option maxRecDepth 1000000 in
theorem idxRune_4 (L : Lays.n152 P ρ) (c d : UInt8) (hc : c.toNat < 128) (hd : d.toNat < 128) (r : Int) (hr : 128 ≤ r) (h3 : r ≠ 65533) (hv : Utf8.valid r = true) (hsz : (Utf8.encode r).size = 4) (w : World) :
    Calls P (ρ.f 152) #[.string ⟨#[c, d]⟩, .int .i32 r] w fun e w' => e = .returned (.int .i64 (-1)) ∧ Below w.heap.size w w' := by
  have t3 := L.t3; have a3 := L.a3; have z3 := L.z3; have v3 := L.v3
  have t4 := L.t4; have a4 := L.a4; have z4 := L.z4; have v4 := L.v4
  have t5 := L.t5; have a5 := L.a5; have z5 := L.z5; have v5 := L.v5
  have t9 := L.t9; have a9 := L.a9; have z9 := L.z9; have v9 := L.v9
  have t21 := L.t21; have a21 := L.a21; have z21 := L.z21; have v21 := L.v21
  have e119 : ∀ args w, (callFunc (ρ.f 119) args).run P w = .ok (.enter (ρ.f 119) args) w := enters_of L.f119 (by kernel_rfl) rfl
  have e137 : ∀ args w, (callFunc (ρ.f 137) args).run P w = .ok (.enter (ρ.f 137) args) w := enters_of L.f137 (by kernel_rfl) rfl
  have hr1 : decide (r < 128) = false := decide_eq_false (by omega)
  have hr2 : (r == 65533) = false := beq_eq_false_iff_ne.2 h3
  have hval : Lib.validRune r = true := by
    unfold Utf8.valid at hv
    unfold Lib.validRune
    simp at hv ⊢
    omega
  go_enter L.f152, Body.n152_ntmps ρ
  go_wp2_with (go_at_fn (ρ.f 119); refine (Any.utf8_ValidRune { L with } _ _).mono ?_; rintro e w1 ⟨rfl, hw⟩; rw [hw, hval])
  go_step3
  go_wp2
  go_loopg [9] 0 (fun g s9 wx => s9 = .int .i64 3 ∧ wx = w)
  case atStart => exact ⟨rfl, rfl⟩
  case round =>
    obtain ⟨rfl, rfl⟩ := hrel
    go_wp2
    rw [Exit.noGoto_ret]
    go_ret
    exact ⟨rfl, Below.refl _ _⟩

set_option maxHeartbeats 4000000 in
set_option maxRecDepth 1000000 in
theorem idxRune_2 (L : Lays.n152 P ρ) (c d : UInt8) (hc : c.toNat < 128) (hd : d.toNat < 128) (r : Int) (hr : 128 ≤ r) (h3 : r ≠ 65533) (hv : Utf8.valid r = true) (x y : UInt8) (he : Utf8.encode r = ⟨#[x, y]⟩) (hy : 128 ≤ y.toNat) (w : World) :
    Calls P (ρ.f 152) #[.string ⟨#[c, d]⟩, .int .i32 r] w fun e w' => e = .returned (.int .i64 (-1)) ∧ Below w.heap.size w w' := by
  have mixed := L.mixed
  have hy2 : (128 : Int) ≤ (y.toNat : Int) := by omega
  have hy3 : (y.toNat : Int) < 256 := by have := y.toNat_lt; omega
  have t3 := L.t3; have a3 := L.a3; have z3 := L.z3; have v3 := L.v3
  have t4 := L.t4; have a4 := L.a4; have z4 := L.z4; have v4 := L.v4
  have t5 := L.t5; have a5 := L.a5; have z5 := L.z5; have v5 := L.v5
  have t9 := L.t9; have a9 := L.a9; have z9 := L.z9; have v9 := L.v9
  have t21 := L.t21; have a21 := L.a21; have z21 := L.z21; have v21 := L.v21
  have e119 : ∀ args w, (callFunc (ρ.f 119) args).run P w = .ok (.enter (ρ.f 119) args) w := enters_of L.f119 (by kernel_rfl) rfl
  have e137 : ∀ args w, (callFunc (ρ.f 137) args).run P w = .ok (.enter (ρ.f 137) args) w := enters_of L.f137 (by kernel_rfl) rfl
  have hr1 : decide (r < 128) = false := decide_eq_false (by omega)
  have hr2 : (r == 65533) = false := beq_eq_false_iff_ne.2 h3
  have hval : Lib.validRune r = true := by
    unfold Utf8.valid at hv
    unfold Lib.validRune
    simp at hv ⊢
    omega
  have hib : ∀ (c : Int) (W : World), Calls P (ρ.f 137) #[.string ByteArray.empty, .int .u8 c] W fun e w' => e = .returned (.int .i64 (-1)) ∧ w' = W := fun c W => Any.strings_IndexByte { L with } ByteArray.empty c W
  go_enter L.f152, Body.n152_ntmps ρ
  go_wp2_with (go_at_fn (ρ.f 119); refine (Any.utf8_ValidRune { L with } _ _).mono ?_; rintro e w1 ⟨rfl, hw⟩; rw [hw, hval])
  go_step3
  go_wp2
  go_loopg [9] 0 (fun g s9 wx => s9 = .int .i64 1 ∧ wx = w)
  case atStart => exact ⟨rfl, rfl⟩
  case round =>
    obtain ⟨rfl, rfl⟩ := hrel
    go_wp2
    go_step3
    go_wp2
    go_quiet_o (fail)
    go_wp2
    rotate_left
    · exact absurd (‹(_ != _) = false› : ((d.toNat : Int) != (y.toNat : Int)) = false) (by simp; omega)
    have hwr2 : IntKind.wrap .i64 2 = 2 := rfl
    go_quiet_o (exact (hib _ _).mono fun e w' h => ⟨h.1, _, h.2⟩)
    go_wp2
    rw [Exit.noGoto_ret]
    rw [ib_ret, th_ret, ib_ret, th_ret, Exit.noGoto_ret]
    go_ret
    exact ⟨rfl, rfl, rfl, rfl, Nat.le_refl _, fun _ _ => rfl⟩

theorem idxRune_wide (L : Lays.n152 P ρ) (c d : UInt8) (hc : c.toNat < 128) (hd : d.toNat < 128) (r : Nat) (hr : 128 ≤ r) (hv : Utf8.valid r = true) (w : World) :
    Calls P (ρ.f 152) #[.string ⟨#[c, d]⟩, .int .i32 r] w fun e w' => e = .returned (.int .i64 (-1)) ∧ Below w.heap.size w w' := by
  by_cases h3 : r = 65533
  · subst h3; exact idxRune_err L c d hc hd w
  have h3' : (r : Int) ≠ 65533 := by omega
  have hr' : (128 : Int) ≤ (r : Int) := by omega
  by_cases ha : r < 0x800
  · have he : Utf8.encode (r : Int) = ⟨#[UInt8.ofNat (0xC0 + r / 64), UInt8.ofNat (0x80 + r % 64)]⟩ := by
      unfold Utf8.encode
      simp only [hv, if_true, Int.toNat_natCast, if_neg (show ¬ r < 0x80 by omega), if_pos ha]
    refine idxRune_2 L c d hc hd r hr' h3' hv _ _ he ?_ w
    rw [UInt8.toNat_ofNat']
    omega
  by_cases hb : r < 0x10000
  · refine idxRune_3 L c d hc hd r hr' h3' hv ?_ w
    unfold Utf8.encode
    simp only [hv, if_true, Int.toNat_natCast, if_neg (show ¬ r < 0x80 by omega), if_neg ha, if_pos hb]
    rfl
  · refine idxRune_4 L c d hc hd r hr' h3' hv ?_ w
    unfold Utf8.encode
    simp only [hv, if_true, Int.toNat_natCast, if_neg (show ¬ r < 0x80 by omega), if_neg ha, if_neg hb]
    rfl

theorem get_at {s : ByteArray} {j : Nat} {b : UInt8} (h : s.data.toList[j]? = some b) : s.get! j = b := by
  have h2 : s.data[j]? = some b := by simpa using h
  show s.data[j]! = b
  simp [getElem!_def, h2]

/-- a rune is a byte of ASCII, or a wide one out of bytes that are none of ASCII -/
theorem dec_cases (s : ByteArray) (pos : Nat) (hp : pos < s.size) :
    (∃ b : UInt8, s.data.toList[pos]? = some b ∧ b.toNat < 128 ∧ Utf8.decode s pos = (b.toNat, 1)) ∨
    (128 ≤ (Utf8.decode s pos).1 ∧ Utf8.valid (Utf8.decode s pos).1 = true ∧ 1 ≤ (Utf8.decode s pos).2 ∧ pos + (Utf8.decode s pos).2 ≤ s.size ∧ ∀ j b, pos ≤ j → j < pos + (Utf8.decode s pos).2 → s.data.toList[j]? = some b → 128 ≤ b.toNat) := by
  have hl : pos < s.data.toList.length := by rw [← Lib.size_eq]; exact hp
  obtain ⟨b, hb⟩ : ∃ b, s.data.toList[pos]? = some b := ⟨_, List.getElem?_eq_getElem hl⟩
  have g0 : s.get! (pos + 0) = b := get_at hb
  have one : ∀ j c, pos ≤ j → j < pos + 1 → s.data.toList[j]? = some c → c = b := fun j c h1 h2 h3 => by
    have : j = pos := by omega
    subst this
    rw [hb] at h3
    exact (Option.some.inj h3).symm
  have ere : Utf8.valid ((Utf8.runeError : Nat) : Int) = true := by decide
  by_cases h0 : b.toNat < 128
  · left
    refine ⟨b, hb, h0, ?_⟩
    unfold Utf8.decode
    simp only [g0, if_pos h0]
  right
  have err : 128 ≤ (Utf8.runeError, 1).1 ∧ Utf8.valid (((Utf8.runeError, 1).1 : Nat) : Int) = true ∧ 1 ≤ (Utf8.runeError, 1).2 ∧ pos + (Utf8.runeError, 1).2 ≤ s.size ∧ ∀ j c, pos ≤ j → j < pos + (Utf8.runeError, 1).2 → s.data.toList[j]? = some c → 128 ≤ c.toNat :=
    ⟨by decide, ere, Nat.le_refl _, hp, fun j c h1 h2 h3 => by rw [one j c h1 h2 h3]; omega⟩
  have nx : ∀ k, (s.get! (pos + k)).toNat / 64 == 2 → ∀ c, s.data.toList[pos + k]? = some c → 128 ≤ c.toNat := fun k h c hc => by
    rw [get_at hc] at h
    have := of_decide_eq_true h
    have : c.toNat / 64 = 2 := by simpa using h
    omega
  unfold Utf8.decode
  simp only [g0, if_neg h0]
  split
  · rename_i h1
    simp only [Bool.and_eq_true, decide_eq_true_eq] at h1
    split
    · rename_i h2
      refine ⟨h2, ?_, Nat.succ_le_succ (Nat.zero_le _), by omega, ?_⟩
      · unfold Utf8.valid
        have h3 : b.toNat % 32 * 64 + (s.get! (pos + 1)).toNat % 64 < 2048 := by omega
        simp only [Bool.or_eq_true, Bool.and_eq_true, decide_eq_true_eq]
        left
        omega
      · intro j c e1 e2 e3
        by_cases ej : j = pos
        · subst ej; rw [one j c (Nat.le_refl _) (by omega) e3]; omega
        · obtain rfl : j = pos + 1 := by simp only at e2; omega
          exact nx 1 h1.2.2 c e3
    · exact err
  · split
    · rename_i _ h1
      simp only [Bool.and_eq_true, decide_eq_true_eq] at h1
      split
      · rename_i h2
        simp only [Bool.and_eq_true, decide_eq_true_eq] at h2
        refine ⟨Nat.le_trans (by decide) h2.1, h2.2, Nat.succ_le_succ (Nat.zero_le _), by omega, ?_⟩
        intro j c e1 e2 e3
        by_cases ej : j = pos
        · subst ej; rw [one j c (Nat.le_refl _) (by omega) e3]; omega
        · have ej : j = pos + 1 ∨ j = pos + 2 := by simp only at e2; omega
          rcases ej with rfl | rfl
          · exact nx 1 h1.1.2.2 c e3
          · exact nx 2 h1.2.2 c e3
      · exact err
    · split
      · rename_i _ _ h1
        simp only [Bool.and_eq_true, decide_eq_true_eq] at h1
        split
        · rename_i h2
          simp only [Bool.and_eq_true, decide_eq_true_eq] at h2
          refine ⟨Nat.le_trans (by decide) h2.1, h2.2, Nat.succ_le_succ (Nat.zero_le _), by omega, ?_⟩
          intro j c e1 e2 e3
          by_cases ej : j = pos
          · subst ej; rw [one j c (Nat.le_refl _) (by omega) e3]; omega
          · have ej : j = pos + 1 ∨ j = pos + 2 ∨ j = pos + 3 := by simp only at e2; omega
            rcases ej with rfl | rfl | rfl
            · exact nx 1 h1.1.1.2.2 c e3
            · exact nx 2 h1.1.2.2 c e3
            · exact nx 3 h1.2.2 c e3
        · exact err
      · exact err

/-- no blank, no newline ahead of a place -/
def CleanTo (c d : UInt8) (s : ByteArray) (pos : Nat) : Prop := ∀ j b, j < pos → s.data.toList[j]? = some b → (b == c || b == d) = false
theorem CleanTo.all {c d : UInt8} {s : ByteArray} {pos : Nat} (h : CleanTo c d s pos) (hp : s.size ≤ pos) : s.data.toList.any (fun b => b == c || b == d) = false := by
  rw [List.any_eq_false]
  intro b hb
  obtain ⟨j, hj, rfl⟩ := List.getElem_of_mem hb
  rw [h j _ (by rw [← Lib.size_eq] at hj; omega) (List.getElem?_eq_getElem hj)]
  simp
theorem hit_any {c d : UInt8} {s : ByteArray} {pos : Nat} {b : UInt8} (hb : s.data.toList[pos]? = some b) (h : (b == c || b == d) = true) : s.data.toList.any (fun b => b == c || b == d) = true := by
  rw [List.any_eq_true]
  exact ⟨b, List.mem_of_getElem? hb, h⟩

set_option maxHeartbeats 8000000 in
set_option maxRecDepth 1000000 in
theorem idxAny_short (L : Lays.n153 P ρ) (c d : UInt8) (hc : c.toNat < 128) (hd : d.toNat < 128) (s : ByteArray) (w : World) (h8 : s.size ≤ 8) :
    Calls P (ρ.f 153) #[.string s, .string ⟨#[c, d]⟩] w fun e w' => ∃ z : Int, e = .returned (.int .i64 z) ∧ decide (0 ≤ z) = (s.data.toList.any fun b => b == c || b == d) ∧ Below w.heap.size w w' := by
  have h8z : decide ((8 : Int) < (s.size : Int)) = false := decide_eq_false (by omega)
  have t3 := L.t3; have a3 := L.a3; have z3 := L.z3; have v3 := L.v3
  have t4 := L.t4; have a4 := L.a4; have z4 := L.z4; have v4 := L.v4
  have t5 := L.t5; have a5 := L.a5; have z5 := L.z5; have v5 := L.v5
  have t9 := L.t9; have a9 := L.a9; have z9 := L.z9; have v9 := L.v9
  have t21 := L.t21; have a21 := L.a21; have z21 := L.z21; have v21 := L.v21
  have e152 : ∀ args w, (callFunc (ρ.f 152) args).run P w = .ok (.enter (ρ.f 152) args) w := enters_of L.f152 (by kernel_rfl) rfl
  have e226 : ∀ args w, (callFunc (ρ.f 226) args).run P w = .ok (.enter (ρ.f 226) args) w := enters_of L.f226 (by kernel_rfl) rfl
  go_enter L.f153, Body.n153_ntmps ρ
  go_wp2_with (go_at_fn (ρ.f 226); refine (Any.strings_shouldUseASCIISet { L with } _ _).mono ?_; rintro e w' ⟨rfl, hw⟩; rw [hw, h8z])
  go_loopg [9, 10] s.size (fun g _ _ wx => ∃ pos : Nat, s.size ≤ pos + g ∧ pos ≤ s.size ∧ wx.heap[w.heap.size]? = some (.stringIter s pos) ∧ Below w.heap.size w wx ∧ CleanTo c d s pos)
  case atStart => exact ⟨0, by omega, Nat.zero_le _, World.iter_heap w s 0, (Below.refl _ w).alloc (Nat.le_refl _) _, fun j b h => absurd h (Nat.not_lt_zero _)⟩
  case round =>
    obtain ⟨pos, hfu, hps, hit, hbw, hno⟩ := hrel
    have HN : Aside (CleanTo c d s pos) := hno
    clear hno
    by_cases hlt : pos < s.size
    · obtain ⟨g', rfl⟩ : ∃ g', gk = g' + 1 := ⟨gk - 1, by omega⟩
      have hnx : ∀ ty, (Instr.next (.pointer (some ⟨w.heap.size, 0, none⟩)) true ty).run P wr = _ := fun ty => Lib.run_next_any_at wr w.heap.size s pos ty hit hlt
      have hit1 := fun q => Lib.iterAt_heap wr w.heap.size s pos q hit
      have hbw1 : ∀ q, Below w.heap.size w (wr.iterAt w.heap.size s q) := fun q => Lib.below_iterAt hbw (Nat.le_refl _) s q
      have hsz1 : ∀ q, w.heap.size < (wr.iterAt w.heap.size s q).heap.size := fun q => (Array.getElem?_eq_some_iff.1 (hit1 q)).1
      rcases dec_cases s pos hlt with ⟨b, hb, h128, hdc⟩ | ⟨hw1, hw2, hw3, hw4, hw5⟩
      · rw [hdc] at hnx
        have HB : Aside (s.data.toList[pos]? = some b) := hb
        clear hb
        have hback : ((b.toNat : Int)).toNat.toUInt8 = b := by simp
        by_cases hh : (b == c || b == d) = true
        · have hz : ∃ z : Int, 0 ≤ z ∧ Lib.indexByte [c, d] b = z := by
            simp only [Bool.or_eq_true, beq_iff_eq] at hh
            by_cases e : c = b
            · exact ⟨0, by decide, by simp [Lib.indexByte, e]⟩
            · have e2 : d = b := by rcases hh with h | h; exact absurd h.symm e; exact h.symm
              exact ⟨1, by decide, by simp [Lib.indexByte, beq_eq_false_iff_ne.2 e, e2]⟩
          obtain ⟨z, hz0, hz⟩ := hz
          have hge : decide ((0 : Int) ≤ z) = true := decide_eq_true hz0
          have hR : ∀ W, Calls P (ρ.f 152) #[.string ⟨#[c, d]⟩, .int .i32 b.toNat] W fun e w' => e = .returned (.int .i64 z) ∧ w' = W := fun W => (Any.strings_IndexRune_ascii { L with } ⟨#[c, d]⟩ b.toNat W (by omega) (by omega)).mono fun e w' h => ⟨by rw [h.1, hback]; exact congrArg _ (congrArg _ hz), h.2⟩
          go_wp2_with (go_at_fn (ρ.f 152); refine (hR _).mono ?_; rintro e w' ⟨rfl, hw⟩; rw [hw])
          go_ret
          exact ⟨_, rfl, by rw [hit_any HB.out hh]; exact decide_eq_true (Int.natCast_nonneg _), hbw1 _⟩
        · have hh : (b == c || b == d) = false := by simpa using hh
          have hz : Lib.indexByte [c, d] b = -1 := by
            simp only [Bool.or_eq_false_iff, beq_eq_false_iff_ne] at hh
            have h1 : (c == b) = false := beq_eq_false_iff_ne.2 fun e => hh.1 e.symm
            have h2 : (d == b) = false := beq_eq_false_iff_ne.2 fun e => hh.2 e.symm
            simp [Lib.indexByte, h1, h2]
          have hR : ∀ W, Calls P (ρ.f 152) #[.string ⟨#[c, d]⟩, .int .i32 b.toNat] W fun e w' => e = .returned (.int .i64 (-1)) ∧ w' = W := fun W => (Any.strings_IndexRune_ascii { L with } ⟨#[c, d]⟩ b.toNat W (by omega) (by omega)).mono fun e w' h => ⟨by rw [h.1, hback]; exact congrArg _ (congrArg _ hz), h.2⟩
          go_wp2_with (go_at_fn (ρ.f 152); refine (hR _).mono ?_; rintro e w' ⟨rfl, hw⟩; rw [hw])
          go_roundg g'
          case measure => omega
          case rel =>
            refine ⟨pos + 1, by omega, by omega, hit1 _, hbw1 _, fun j x hj hx => ?_⟩
            by_cases hjp : j < pos
            · exact HN.out j x hjp hx
            · obtain rfl : j = pos := by omega
              have := HB.out
              rw [this] at hx
              obtain rfl := Option.some.inj hx
              exact hh
      · have HW : Aside (∀ j b, pos ≤ j → j < pos + (Utf8.decode s pos).2 → s.data.toList[j]? = some b → 128 ≤ b.toNat) := hw5
        clear hw5
        have hR : ∀ W, Calls P (ρ.f 152) #[.string ⟨#[c, d]⟩, .int .i32 (Utf8.decode s pos).1] W fun e w' => e = .returned (.int .i64 (-1)) ∧ Below W.heap.size W w' := fun W => idxRune_wide { L with } c d hc hd _ hw1 hw2 W
        go_wp2_with (go_at_fn (ρ.f 152); refine (hR _).mono ?_; rintro e w2 ⟨rfl, hbel⟩)
        go_roundg g'
        case measure => omega
        case rel =>
          refine ⟨pos + (Utf8.decode s pos).2, by omega, by omega, (hbel.block _ (hsz1 _)).trans (hit1 _), (hbw1 _).trans (hbel.mono (Nat.le_of_lt (hsz1 _))), fun j x hj hx => ?_⟩
          by_cases hjp : j < pos
          · exact HN.out j x hjp hx
          · have := HW.out j x (by omega) hj hx
            simp only [Bool.or_eq_false_iff, beq_eq_false_iff_ne]
            constructor <;> (rintro rfl; omega)
    · have hnx : ∀ ty, (Instr.next (.pointer (some ⟨w.heap.size, 0, none⟩)) true ty).run P wr = _ := fun ty => Lib.run_next_end_at wr w.heap.size s pos ty hit hlt
      go_wp2
      go_ret
      exact ⟨-1, rfl, by rw [HN.out.all (by omega)]; rfl, hbw⟩

theorem indexAny_any (c d : UInt8) : ∀ l : List UInt8, decide (0 ≤ Lib.indexAny l [c, d]) = l.any fun b => b == c || b == d
  | [] => rfl
  | b :: l => by
    have ih := indexAny_any c d l
    have hg := Lib.indexAny_ge [c, d] l
    have e : [c, d].contains b = (b == c || b == d) := by
      show (b == c || (b == d || false)) = _
      rw [Bool.or_false]
    unfold Lib.indexAny
    rw [e, List.any_cons, ← ih]
    cases (b == c || b == d) with
    | true => simp
    | false =>
      simp only [Bool.false_eq_true, if_false, Bool.false_or]
      by_cases h : Lib.indexAny l [c, d] = -1
      · simp [h]
      · have : (Lib.indexAny l [c, d] == -1) = false := beq_eq_false_iff_ne.2 h
        rw [this]
        simp only [Bool.false_eq_true, if_false]
        rw [decide_eq_true (show 0 ≤ Lib.indexAny l [c, d] + 1 by omega), decide_eq_true (show 0 ≤ Lib.indexAny l [c, d] by omega)]

theorem idxAny (L : Lays.n153 P ρ) (h116 : (P.info? (ρ.t 116)).map (fun i => (i.zero, i.size)) = some (some (.agg (Array.replicate 256 (.bool false))), 256)) (c d : UInt8) (hc : c.toNat < 128) (hd : d.toNat < 128) (s : ByteArray) (w : World) (hs : s.size ≤ 16777216) :
    Calls P (ρ.f 153) #[.string s, .string ⟨#[c, d]⟩] w fun e w' => ∃ z : Int, e = .returned (.int .i64 z) ∧ decide (0 ≤ z) = (s.data.toList.any fun b => b == c || b == d) ∧ Below w.heap.size w w' := by
  by_cases h8 : s.size ≤ 8
  · exact idxAny_short L c d hc hd s w h8
  have hasc : ∀ (j : Nat) b, (⟨#[c, d]⟩ : ByteArray).data.toList[j]? = some b → b.toNat < 128 := by
    intro j b hb
    rcases j with _ | _ | j
    · obtain rfl := Option.some.inj (show some c = some b from hb); exact hc
    · obtain rfl := Option.some.inj (show some d = some b from hb); exact hd
    · exact absurd hb (by simp)
  refine (Any.strings_IndexAny_long L (zero_of_info h116).1 (zero_of_info h116).2 s ⟨#[c, d]⟩ w (Nat.le_refl _) (by omega) (by omega) (by show 2 < _; omega) hasc).mono ?_
  rintro e w' ⟨rfl, rfl⟩
  exact ⟨_, rfl, indexAny_any c d _, ((Below.refl _ w).alloc (Nat.le_refl _) _).alloc (by simp) _⟩

set_option maxRecDepth 100000 in
theorem containsAny (L : Lays.n150 P ρ) (h116 : (P.info? (ρ.t 116)).map (fun i => (i.zero, i.size)) = some (some (.agg (Array.replicate 256 (.bool false))), 256)) (c d : UInt8) (hc : c.toNat < 128) (hd : d.toNat < 128) (s : ByteArray) (w : World) (hs : s.size ≤ 16777216) :
    Calls P (ρ.f 150) #[.string s, .string ⟨#[c, d]⟩] w fun e w' => e = .returned (.bool (s.data.toList.any fun b => b == c || b == d)) ∧ Below w.heap.size w w' := by
  have hI := idxAny { L with } h116 c d hc hd s w hs
  have t3 := L.t3; have a3 := L.a3; have z3 := L.z3; have v3 := L.v3
  have t4 := L.t4; have a4 := L.a4; have z4 := L.z4; have v4 := L.v4
  have t9 := L.t9; have a9 := L.a9; have z9 := L.z9; have v9 := L.v9
  have e153 : ∀ args w, (callFunc (ρ.f 153) args).run P w = .ok (.enter (ρ.f 153) args) w := enters_of L.f153 (by kernel_rfl) rfl
  go_enter L.f150, Body.n150_ntmps ρ
  go_wp2_with (go_at_fn (ρ.f 153); refine hI.mono ?_; rintro e w' ⟨z, rfl, hz, hw⟩; have HZ : Aside (decide (0 ≤ z) = (s.data.toList.any fun b => b == c || b == d)) := hz; clear hz)
  go_ret
  exact ⟨by rw [← HZ.out]; rfl, hw⟩

end Go.Eng
end

section
set_option linter.unusedVariables false
set_option linter.unusedSimpArgs false
namespace Go.Eng
open Go.Shelf Go.RowKit Go.Proofs

theorem hook_any_eq' {k : Nat} (hk : k % 16 = 0) (hk0 : k ≠ 0) (h1 : k / 16 % 16 = 4) (args : List Value) (h : H) : hook k args h = hAny args h := by
  rw [hook_gen2 hk (.inr ⟨rfl, hk0⟩)]
  unfold hGen
  rw [show Nat.mod k 16 = 0 from hk]
  simp only
  unfold hMore
  rw [show Nat.mod (Nat.div k 16) 16 = 4 from h1]
  rfl
theorem hook_count_eq' {k : Nat} (hk : k % 16 = 0) (hk0 : k ≠ 0) (h1 : k / 16 % 16 = 5) (args : List Value) (h : H) : hook k args h = hCount args h := by
  rw [hook_gen2 hk (.inr ⟨rfl, hk0⟩)]
  unfold hGen
  rw [show Nat.mod k 16 = 0 from hk]
  simp only
  unfold hMore
  rw [show Nat.mod (Nat.div k 16) 16 = 5 from h1]
  rfl
theorem hook_index_eq' {k : Nat} (hk : k % 16 = 0) (hk0 : k ≠ 0) (h1 : k / 16 % 16 = 6) (args : List Value) (h : H) : hook k args h = hIndex args h := by
  rw [hook_gen2 hk (.inr ⟨rfl, hk0⟩)]
  unfold hGen
  rw [show Nat.mod k 16 = 0 from hk]
  simp only
  unfold hMore
  rw [show Nat.mod (Nat.div k 16) 16 = 6 from h1]
  rfl

def AnyCall (P : Program) (f : Nat) : Prop :=
  ∀ (c d : UInt8) (s : ByteArray) (w : World), c.toNat < 128 → d.toNat < 128 → s.size ≤ 16777216 → Calls P f #[.string s, .string ⟨#[c, d]⟩] w fun e w' => e = .returned (.bool (s.data.toList.any fun b => b == c || b == d)) ∧ Below w.heap.size w w'

theorem hook_any {P : Program} {f k : Nat} (hk : k % 16 = 0) (hk0 : k ≠ 0) (h1 : k / 16 % 16 = 4)
    (hent : ∀ args w, (callFunc f args).run P w = .ok (.enter f args) w) (hc : AnyCall P f) : HookOK P f k := by
  intro vs h v h' he φ w cs hR hv
  rw [hook_any_eq' hk hk0 h1] at he
  unfold hAny at he
  split at he
  case h_2 => simp at he
  rename_i s ch
  split at he
  case h_2 => simp at he
  rename_i c d hcd h2
  split at he
  case h_2 => simp at he
  rename_i h3 h4
  have h2 := Nat.le_of_ble_eq_true h2
  have h3 : c.toNat < 128 := Nat.le_of_ble_eq_true h3
  have h4 : d.toNat < 128 := Nat.le_of_ble_eq_true h4
  simp only [Option.some.injEq, Prod.mk.injEq] at he; obtain ⟨rfl, rfl⟩ := he
  obtain ⟨c1, c2, rfl, g1, g2⟩ := hv.two
  have := g1.str'; subst this
  have := g2.str'; subst this
  have hch : ch = ⟨#[c, d]⟩ := by rw [← bsOf_data ch, hcd]; rfl
  subst hch
  right
  refine ⟨hent _ _, ?_⟩
  refine (hc c d s w h3 h4 (by rw [Lib.size_eq]; exact h2)).mono ?_
  rintro x w' ⟨rfl, hbel⟩
  exact ⟨_, φ, rfl, .bool _, hR.below hbel, Step.of_below hbel⟩

def CountCall (P : Program) (f : Nat) : Prop :=
  ∀ (c : UInt8) (s : ByteArray) (w : World), Calls P f #[.string s, .string ⟨#[c]⟩] w fun e w' => e = .returned (.int .i64 (Int.ofNat (Lib.countByte s.data.toList c))) ∧ Below w.heap.size w w'

theorem hook_count {P : Program} {f k : Nat} (hk : k % 16 = 0) (hk0 : k ≠ 0) (h1 : k / 16 % 16 = 5)
    (hent : ∀ args w, (callFunc f args).run P w = .ok (.enter f args) w) (hc : CountCall P f) : HookOK P f k := by
  intro vs h v h' he φ w cs hR hv
  rw [hook_count_eq' hk hk0 h1] at he
  unfold hCount at he
  split at he
  case h_2 => simp at he
  rename_i s ch
  split at he
  case h_2 => simp at he
  rename_i c hcd
  simp only [Option.some.injEq, Prod.mk.injEq] at he; obtain ⟨rfl, rfl⟩ := he
  obtain ⟨c1, c2, rfl, g1, g2⟩ := hv.two
  have := g1.str'; subst this
  have := g2.str'; subst this
  have hch : ch = ⟨#[c]⟩ := by rw [← bsOf_data ch, hcd]; rfl
  subst hch
  right
  refine ⟨hent _ _, ?_⟩
  refine (hc c s w).mono ?_
  rintro x w' ⟨rfl, hbel⟩
  exact ⟨_, φ, rfl, .int _ _, hR.below hbel, Step.of_below hbel⟩

def IndexCall (P : Program) (f : Nat) : Prop :=
  ∀ (c : UInt8) (s : ByteArray) (w : World), Calls P f #[.string s, .string ⟨#[c]⟩] w fun e w' => e = .returned (.int .i64 (Lib.indexByte s.data.toList c)) ∧ Below w.heap.size w w'

theorem hook_index {P : Program} {f k : Nat} (hk : k % 16 = 0) (hk0 : k ≠ 0) (h1 : k / 16 % 16 = 6)
    (hent : ∀ args w, (callFunc f args).run P w = .ok (.enter f args) w) (hc : IndexCall P f) : HookOK P f k := by
  intro vs h v h' he φ w cs hR hv
  rw [hook_index_eq' hk hk0 h1] at he
  unfold hIndex at he
  split at he
  case h_2 => simp at he
  rename_i s ch
  split at he
  case h_2 => simp at he
  rename_i c hcd
  simp only [Option.some.injEq, Prod.mk.injEq] at he; obtain ⟨rfl, rfl⟩ := he
  obtain ⟨c1, c2, rfl, g1, g2⟩ := hv.two
  have := g1.str'; subst this
  have := g2.str'; subst this
  have hch : ch = ⟨#[c]⟩ := by rw [← bsOf_data ch, hcd]; rfl
  subst hch
  right
  refine ⟨hent _ _, ?_⟩
  refine (hc c s w).mono ?_
  rintro x w' ⟨rfl, hbel⟩
  exact ⟨_, φ, rfl, .int _ _, hR.below hbel, Step.of_below hbel⟩

variable {P : Program} {ρ : Ren}
theorem any_call (L : Lays.n150 P ρ) (h116 : (P.info? (ρ.t 116)).map (fun i => (i.zero, i.size)) = some (some (.agg (Array.replicate 256 (.bool false))), 256)) : AnyCall P (ρ.f 150) :=
  fun c d s w hc hd hs => containsAny L h116 c d hc hd s w hs
theorem count_call (L : Lays.n138 P ρ) : CountCall P (ρ.f 138) := by
  intro c s w
  refine (Any.strings_Count_one L s c w).mono ?_
  rintro e w' h
  first
    | exact ⟨h.1, by rw [h.2]; exact Below.refl _ _⟩
    | exact h
theorem index_call (L : Lays.n143 P ρ) : IndexCall P (ρ.f 143) := by
  intro c s w
  refine (Any.strings_Index_one L s c w).mono ?_
  rintro e w' h
  first
    | exact ⟨h.1, by rw [h.2]; exact Below.refl _ _⟩
    | exact h
end Go.Eng
end
