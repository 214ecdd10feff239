/-
  The twin seat: what is read of the arguments, as the machine sees the memory.
-/
import Derived.Test.YtbhafgjcmgobmaaGreatDoorKTb
import Derived.Test.YtbhafgjcmgobmaaGreatDoorKEe
import Derived.SliceStrings
set_option linter.all false
open Go.Eng Go.RowKit
set_option maxRecDepth 100000
set_option linter.unusedVariables false
namespace Go.Proofs.YtbhafgjcmgobmaaGreatDoor

def sk : Nat → Bool := fun _ => false
noncomputable def H0 (W : World) : H := romH H.empty W sk
theorem H0_rel (W : World) : Rel (H0 W) (romPl (fun _ => none) W sk) W := rom_rel (Rel.empty W) (Nat.zero_le 2) (fun o x p h => by simp [H.empty, H.get, Tr.get_nil] at h)
theorem H0_fixed (W : World) : AllFixed (H0 W) := rom_fixed (Rel.empty W) (Nat.zero_le 2) AllFixed.empty
theorem H0_rd {W : World} {b x : Nat} {v : Value} (hc : W.cell? ⟨b, x, none⟩ = some v) (ht : toldV (trV W sk v) = true) : rd (H0 W) (b + 2) x 1 = some [trV W sk v] := rom_rd (Rel.empty W) (Nat.zero_le 2) rfl hc ht
theorem H0_next (W : World) : (H0 W).next = 2 + W.heap.size := rfl
theorem blk_next {W : World} {b sz : Nat} (h : blkSz W sk b = some sz) : b + 2 < (H0 W).next := by
  obtain ⟨_, c, t, fz, hc, _⟩ := blkSz_lt h
  have := (Array.getElem?_eq_some_iff.1 hc).1
  rw [H0_next]; omega

theorem cells9 : Tryz.prog.cellsOf 9 = 1 := by kernel_rfl
theorem cells22 : Tryz.prog.cellsOf 22 = 1 := by kernel_rfl

variable {K : Type} {enc : TypeId × Value → K}

theorem open_str {W : World} {fuel base : Nat} {held : Bool} {cs : List Value} {x : DataW K × List MemPlace} (h : DataW.trod enc Tryz.prog W base (fun _ => true) held fuel 22 cs = some x) :
    ∃ v l, cs = [v] ∧ toldV (trV W sk v) = true ∧ RStrs (H0 W) (trV W sk v) l := by
  rcases Go.ChangeShapes.open_strings Tryz.underlying22 Tryz.underlying9 cells9 h with ⟨rfl, _⟩ | ⟨a, len, cap, ss, rfl, _, hl, _, hz, _, hcell, _⟩
  · refine ⟨_, [], rfl, ?_, ?_⟩
    · rw [trV_nils]; rfl
    · rw [trV_nils]; exact RView.nil _
  · rw [if_pos rfl] at hz
    rw [hz] at hcell
    by_cases hc : cap = 0
    · subst hc
      have : len = 0 := by omega
      subst this
      refine ⟨_, [], rfl, ?_, ?_⟩
      · rw [trV_empty]; rfl
      · rw [trV_empty]; exact ⟨_, _, rfl, fun i x hx => by simp [strC] at hx⟩
    · obtain ⟨b, x0, sz, rfl, hb, hx⟩ := slice_at (W := W) (a := a) (c := cap) (by omega) fun i hi => ⟨_, hcell i hi⟩
      have ht := trV_slice (W := W) (skip := sk) (n := len) hb (by omega) hl hx
      refine ⟨_, (ss.take len).map fun s => s.data.toList, rfl, ?_, ?_⟩
      · rw [ht]; rfl
      · rw [ht]
        refine ⟨some ⟨b + 2, x0, none⟩, 1, by simp [strC]; omega, fun i y hy => ?_⟩
        have hi : i < len := by
          have := (List.getElem?_eq_some_iff.1 hy).1
          simp [strC] at this
          omega
        have hi' : i < ss.length := by omega
        refine ⟨rfl, b + 2, x0, rfl, blk_next hb, ?_⟩
        have hcl := hcell i (by omega)
        rw [Addr.add_lit] at hcl
        have hrd := H0_rd hcl (by rw [trV_str]; rfl)
        rw [trV_str] at hrd
        rw [hrd]
        have hy2 : y = .string (ss.getD i ByteArray.empty) := by
          unfold strC at hy
          rw [List.getElem?_map, List.getElem?_map, List.getElem?_take, if_pos hi, List.getElem?_eq_getElem hi'] at hy
          simp only [Option.map_some, Option.some.injEq] at hy
          rw [← hy, List.getD_eq_getElem?_getD, List.getElem?_eq_getElem hi']
          rfl
        rw [hy2]

theorem open_lists {W : World} {fuel base : Nat} {held : Bool} {cs : List Value} {x : DataW K × List MemPlace} (h : DataW.trod enc Tryz.prog W base (fun _ => true) held fuel 23 cs = some x) :
    ∃ v vs L, cs = [v] ∧ toldV (trV W sk v) = true ∧ RLists (H0 W) (trV W sk v) vs L := by
  rcases DataW.trod_slice Tryz.underlying23 h with ⟨rfl, _⟩ | ⟨a, len, cap, elems, rest, n, _, rfl, _, _, hl, _, hlen, hel, hsp, _⟩
  · refine ⟨_, [], [], rfl, ?_, ?_⟩
    · rw [trV_nils]; rfl
    · rw [trV_nils]; exact ⟨RView.nil _, rfl, fun i h1 => by simp at h1⟩
  · obtain ⟨hrl, hr⟩ := hsp rfl
    have each : ∀ i, i < cap → ∃ v l, W.cell? (a.add i) = some v ∧ toldV (trV W sk v) = true ∧ RStrs (H0 W) (trV W sk v) l := by
      intro i hi
      have hb : ∃ y, (W.cells? base (a.add (i * Tryz.prog.cellsOf 22)) (Tryz.prog.cellsOf 22)).bind (DataW.trod enc Tryz.prog W base (fun _ => true) held n 22) = some y := by
        by_cases hil : i < len
        · exact ⟨elems[i]'(by omega), by rw [hel i hil, List.getElem?_eq_getElem]⟩
        · have := hr (i - len) (by omega)
          rw [show len + (i - len) = i by omega] at this
          exact ⟨rest[i - len]'(by omega), by rw [this, List.getElem?_eq_getElem]⟩
      obtain ⟨y, hy⟩ := hb
      rw [cells22, Nat.mul_one, Option.bind_eq_some_iff] at hy
      obtain ⟨cs', hcs, hy⟩ := hy
      obtain ⟨v, l, rfl, h1, h2⟩ := open_str hy
      exact ⟨v, l, Go.ChangeShapes.cell_of_cells?_one hcs, h1, h2⟩
    by_cases hc : cap = 0
    · subst hc
      have : len = 0 := by omega
      subst this
      refine ⟨_, [], [], rfl, ?_, ?_⟩
      · rw [trV_empty]; rfl
      · rw [trV_empty]; exact ⟨⟨_, _, rfl, fun i x hx => by simp at hx⟩, rfl, fun i h1 => by simp at h1⟩
    · obtain ⟨b, x0, sz, rfl, hb, hx⟩ := slice_at (W := W) (a := a) (c := cap) (by omega) fun i hi => let ⟨v, _, h, _⟩ := each i hi; ⟨v, h⟩
      have ht := trV_slice (W := W) (skip := sk) (n := len) hb (by omega) hl hx
      have hsk : ∀ i, ∃ q : Value × List (List UInt8), i < cap → W.cell? ((⟨b, x0, none⟩ : Addr).add i) = some q.1 ∧ toldV (trV W sk q.1) = true ∧ RStrs (H0 W) (trV W sk q.1) q.2 := by
        intro i
        by_cases hi : i < cap
        · obtain ⟨v, l, h⟩ := each i hi
          exact ⟨(v, l), fun _ => h⟩
        · exact ⟨(.nilIface, []), fun h => absurd h hi⟩
      obtain ⟨f, hf⟩ := Classical.skolem.1 hsk
      refine ⟨_, (List.range len).map fun i => trV W sk (f i).1, (List.range len).map fun i => (f i).2, rfl, ?_, ⟨?_, by simp, ?_⟩⟩
      · rw [ht]; rfl
      · rw [ht]
        refine ⟨some ⟨b + 2, x0, none⟩, 1, by simp, fun i y hy => ?_⟩
        have hi : i < len := by
          have := (List.getElem?_eq_some_iff.1 hy).1
          simpa using this
        refine ⟨rfl, b + 2, x0, rfl, blk_next hb, ?_⟩
        obtain ⟨hcl, htold, _⟩ := hf i (by omega)
        rw [Addr.add_lit] at hcl
        rw [H0_rd hcl htold]
        rw [List.getElem?_map, List.getElem?_range hi] at hy
        simp only [Option.map_some, Option.some.injEq] at hy
        rw [hy]
      · intro i h1 h2
        have hi : i < len := by simpa using h1
        obtain ⟨_, _, hs⟩ := hf i (by omega)
        simpa using hs
end Go.Proofs.YtbhafgjcmgobmaaGreatDoor
