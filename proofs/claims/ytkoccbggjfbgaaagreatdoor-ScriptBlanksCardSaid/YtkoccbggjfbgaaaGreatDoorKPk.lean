/-
  ScriptBlanks at the script seat: the machine's tables and its own answers hold; the law.
-/
import Derived.Test.YtkoccbggjfbgaaaGreatDoorKPj
import Derived.Test.YtkoccbggjfbgaaaGreatDoorKSi
import Derived.Test.YtkoccbggjfbgaaaGreatDoorKAwK
import Derived.Shelf.Vars
set_option linter.all false
open Go.Eng Go.RowKit
set_option maxRecDepth 100000
namespace Go.Proofs.YtkoccbggjfbgaaaGreatDoor

def XB : List (Nat × Nat) := [(19, 156), (43, 46137501), (108, 151063056), (7, 10), (13, 32), (11, 48)]
theorem pxB : PX (tabOf XB) := by constructor <;> kernel_rfl
theorem pbB : PB (tabOf XB) := by constructor <;> kernel_rfl
theorem envB : EnvOK Tryz.prog (EX (tabOf XB)) := envOf_list mixed_ok fields_ok names_ok held_ok (fun p hp => by
  simp only [XB, List.mem_cons, List.not_mem_nil, or_false] at hp
  rcases hp with rfl | rfl | rfl | rfl | rfl | rfl
  · exact g19
  · exact g43
  · exact g108
  · exact says7.hook
  · exact g13
  · exact g11)

theorem maxLenCell {W : World} (h : W.ShapedOpen Tryz.prog) : ∃ m, W.cell? ⟨0, 0, none⟩ = some (.int .i64 m) :=
  cell_of_shapedOpen_int (t := 3) (zero := #[.int .i64 0]) h (of_decide_eq_true (by kernel_rfl)) (by kernel_rfl) rfl (by kernel_rfl) (by kernel_rfl) Tryz.underlying3

theorem block_of_cell {W : World} {b : Nat} {v : Value} (h : W.cell? ⟨b, 0, none⟩ = some v) : ∃ t fz r, W.heap[b]? = some (.cells ⟨v :: r⟩ t fz) := by
  unfold World.cell? at h
  split at h
  · rename_i cs t fz hc
    obtain ⟨l⟩ := cs
    cases l with
    | nil => simp at h
    | cons x r =>
      have h : some x = some v := by simpa using h
      obtain rfl := Option.some.inj h
      exact ⟨t, fz, r, hc⟩
  · simp at h

theorem blanks_law (s : ByteArray) (m : Nat) (hm : m < 256) (W : World) (h : laidMetH Tryz.prog Rows.scriptParsesRow.laid W) (hsh : W.ShapedOpen Tryz.prog) :
    Calls Tryz.prog 4 #[.string s, .int .u8 (Int.ofNat m)] W fun e w' => e = .returned (.bool true) ∧ Below W.heap.size W w' := by
  obtain ⟨t, fz, p, hc⟩ := errRange h
  obtain ⟨z, hz⟩ := maxLenCell hsh
  obtain ⟨t', fz', r', hc'⟩ := block_of_cell hz
  have hR := (rel_fixed hc).fix (b := 0) (fun hl => by
    rcases Live.new (h := H.empty) (φ := fun _ => none) (p := ⟨9, 0, 1⟩) hl with hl | hl
    · exact live_empty hl
    · cases hl) hc'
  refine law_of (args := [.string s, .int .u8 (Int.ofNat m)]) (cs := [.string s, .int .u8 (Int.ofNat m)]) envB (f := 4) pbB.n4 hR ((AllFixed.empty.new _ _ _ _).new _ _ _ _)
    (x_law4 pxB pbB (by kernel_rfl) s.data.toList m hm _ ⟨Nat.succ_pos _, t, fz, 328, p, [], ?_⟩ ⟨Nat.lt_succ_self 1, ?_⟩) (.cons (.str _) (.cons (.int _ _) .nil))
  · rw [H.get_new, if_neg (show ¬ 0 = (H.empty.new (.fixed 9 t fz [.iface 328 p])).next from Nat.zero_ne_one)]; exact H.get_new' _ _
  · unfold intA
    rw [show ((H.empty.new (.fixed 9 t fz [.iface 328 p])).new (.fixed 0 t' fz' (.int .i64 z :: r'))).get 1 = some (.fixed 0 t' fz' (.int .i64 z :: r')) from H.get_new' _ _]
    rfl
end Go.Proofs.YtkoccbggjfbgaaaGreatDoor
