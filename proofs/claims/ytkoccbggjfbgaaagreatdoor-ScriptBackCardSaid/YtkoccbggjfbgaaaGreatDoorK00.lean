/-
  Closed facts of the program, each by itself.
-/
import Derived.Test.YtkoccbggjfbgaaaGreatDoorRows
import Derived.ProofKit
import Derived.JoinedOf
set_option linter.all false
set_option maxRecDepth 100000
namespace Go.Proofs.YtkoccbggjfbgaaaGreatDoor
theorem fa2 : laidOutB Tryz.pinned.checked.prog = true := by kernel_rfl
theorem fa3 : mapsRowed Tryz.pinned.checked.prog = true := by kernel_rfl
theorem fa7 : (Tryz.pinned.checked.prog.stops == []) = true := by kernel_rfl
theorem fa9 : (Tryz.pinned.checked.prog.stopKnobs == []) = true := by kernel_rfl
theorem fa22 : (false == Tryz.pinned.checked.prog.plainKeys) = true ∨ (true == Tryz.pinned.checked.prog.plainKeys) = true := by
  cases Tryz.pinned.checked.prog.plainKeys
  · exact .inl rfl
  · exact .inr rfl
theorem fa23b : Tryz.pinned.checked.prog.stopsHeard = true := by kernel_rfl
theorem fa24 : Tryz.pinned.checked.prog.mayEnter = true := by kernel_rfl
end Go.Proofs.YtkoccbggjfbgaaaGreatDoor
