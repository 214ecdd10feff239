/-
  strconv.ParseUint, base 10, of 64 bits, at strings of digits: what the abstract machine says of it is so, where the kit's contracts are laid and the variable ErrRange is an object.
-/
import Derived.Test.YtkoccbggjfbgaaaGreatDoorK07
import Derived.Test.YtkoccbggjfbgaaaGreatDoorK24
import Derived.Shelf.Pu.ParseUintPublic10
set_option linter.all false
set_option linter.unusedVariables false
namespace Go.Eng
open Go.Shelf Go.RowKit Go.Proofs

def ParseUCall (P : Program) (f t b : Nat) : Prop :=
  ∀ (s : ByteArray) (w : World), s.size ≠ 0 → s.size ≤ 4294967296 →
    (∀ n, Lib.parseUint10 0 s.data.toList = .ok n → Calls P f #[.string s, .int .i64 10, .int .i64 64] w fun x w' => x = .returned (.tuple #[.int .u64 (Int.ofNat n), .nilIface]) ∧ Below w.heap.size w w') ∧
    (Lib.parseUint10 0 s.data.toList = .range → (∃ te pe, w.cell? ⟨b, 0, none⟩ = some (.iface te pe)) →
      Calls P f #[.string s, .int .i64 10, .int .i64 64] w fun x w' => ∃ N, x = .returned (.tuple #[.int .u64 18446744073709551615, .iface t (.pointer (some ⟨N, 0, none⟩))]) ∧ w.heap.size ≤ N ∧ (∃ o, w'.heap[N]? = some o) ∧ Below w.heap.size w w')

theorem hook_parseU {P : Program} {f k t b : Nat} (hk : k % 16 = 0) (hk0 : k ≠ 0) (h1 : k / 16 % 16 = 1) (ht : k / 16 / 16 % 65536 = t) (hb : k / 16 / 16 / 65536 = b)
    (hent : ∀ args w, (callFunc f args).run P w = .ok (.enter f args) w) (hc : ParseUCall P f t b) : HookOK P f k := by
  intro vs h v h' he φ w cs hR hv
  rw [hook_parseU_eq hk hk0 h1 ht hb] at he
  unfold hParseU at he
  split at he
  case h_2 => simp at he
  rename_i s b0 z
  split at he
  case h_2 => simp at he
  rename_i y l hsl hb0 hz hle
  have hb0 := of_decide_eq_true hb0
  have hz := of_decide_eq_true hz
  subst hb0; subst hz
  obtain ⟨c1, c2, c3, rfl, g1, g2, g3⟩ := hv.three
  have := g1.str'; subst this
  have := g2.int'; subst this
  have := g3.int'; subst this
  have hs : s.size ≤ 4294967296 := by
    rw [Lib.size_eq]
    exact Nat.le_of_ble_eq_true hle
  obtain ⟨k1, k2⟩ := hc s w (by rw [Lib.size_eq, hsl]; simp) hs
  rw [hsl] at k1 k2
  right
  refine ⟨hent _ _, ?_⟩
  split at he
  · rename_i n hn
    simp only [Option.some.injEq, Prod.mk.injEq] at he; obtain ⟨rfl, rfl⟩ := he
    refine (k1 n hn).mono ?_
    rintro x w' ⟨rfl, hbel⟩
    exact ⟨_, φ, rfl, VR.tuple (xs := [_, _]) (ys := [_, _]) (.cons (.int _ _) (.cons .nili .nil)), hR.below hbel, Step.of_below hbel⟩
  · rename_i hn
    split at he
    case h_2 => simp at he
    rename_i b' t' fz te pe r hg
    split at he
    case h_2 => simp at he
    rename_i hbb
    have hbb := Nat.eq_of_beq_eq_true hbb
    subst hbb
    simp only [Option.some.injEq, Prod.mk.injEq] at he; obtain ⟨rfl, rfl⟩ := he
    obtain ⟨p, hp, ⟨hpb, _⟩, hcell⟩ := hR.obj _ _ hg
    rw [hpb] at hcell
    refine (k2 hn ⟨te, pe, ?_⟩).mono ?_
    · simp [World.cell?, hcell]
    rintro x w' ⟨N, rfl, hN, ⟨o, ho⟩, hbel⟩
    have hR' := hR.below hbel
    have hnl : ¬ Live h φ N := by
      rintro ⟨i, y, q, hi, hq, rfl⟩
      obtain ⟨q', hq', hor⟩ := hR.obj i y hi
      rw [hq] at hq'; simp only [Option.some.injEq] at hq'; subst hq'
      have := hor.lt
      omega
    have hR2 := hR'.adopt (x := .blob) (p := ⟨N, 0, 1⟩) hnl ⟨(Array.getElem?_eq_some_iff.1 ho).1, o, ho⟩
    have hx := Pl.add_ext (φ := φ) ⟨N, 0, 1⟩ (hR.fresh _ (Nat.le_refl _))
    refine ⟨_, _, rfl, VR.tuple (xs := [_, _]) (ys := [_, _]) (.cons (.int _ _) (.cons (.iface _ ?_) .nil)), hR2, ?_⟩
    · exact VR.ptr (p := ⟨N, 0, 1⟩) (off := 0) (Pl.add_self _ _ _)
    · have st := Step.of_below (h := h) (φ := φ) hbel
      refine ⟨hx, Nat.le_succ _, st.size, st.frame, ?_, st.os, st.tape, st.output⟩
      intro bb hl
      rcases hl.new with hl | hl
      · exact .inl hl
      · subst hl; exact .inr hN
  · simp at he

variable {P : Program} {ρ : Ren}
theorem parseU_eq (l : List UInt8) (h : l ≠ []) : Lib.parseUintB 64 l = Lib.parseUint10 0 l := by
  have eM : (2 : Nat) ^ 64 - 1 = 18446744073709551615 := by decide
  rw [Lib.parseUintB, if_neg h, eM, Lib.parseUintM_64]

theorem parseU_call (L : LaysPu.n14 P ρ) : ParseUCall P (ρ.f 14) (ρ.t 39) (ρ.g 1) := by
  intro s w h0 hs
  have hne : s.data.toList ≠ [] := fun h => h0 (by rw [Lib.size_eq, h]; rfl)
  have hq := parseU_eq _ hne
  refine ⟨fun n hn => ?_, fun hn ⟨te, pe, hv⟩ => ?_⟩
  · refine (Any.strconv_ParseUint_10_at64_ok L s (by omega) n (by rw [hq, hn]) w).mono ?_
    rintro e w' ⟨rfl, hw⟩
    refine ⟨rfl, ?_⟩
    rcases hw with rfl | rfl
    · exact Below.refl _ _
    · exact Lib.bytesWorld_below _ _ _
  · refine (Any.strconv_ParseUint_10_at64_range L s (by omega) (by rw [hq, hn]) _ w hv (.inr ⟨te, pe, rfl⟩)).mono ?_
    rintro e w' ⟨N, rfl, h1, h2, h3⟩
    exact ⟨N, rfl, h1, ⟨_, h2⟩, h3⟩

end Go.Eng
