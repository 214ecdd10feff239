/-
  The script seat: what the cards of its rows ask alike.
-/
import Derived.Test.YtkoccbggjfbgaaaGreatDoorRows
import Derived.Test.YtkoccbggjfbgaaaGreatDoorCards
import Derived.Test.YtkoccbggjfbgaaaGreatDoorTie
import Derived.ProofKit
import Derived.OpenShut
import Derived.LaidMore
import Derived.Lay
import Derived.SevenTiedAt
import Derived.Stop.Joined
import Derived.Below
import Derived.Test.YtkoccbggjfbgaaaGreatDoorKFg
set_option linter.all false
set_option linter.unusedSimpArgs false
namespace Go.Proofs.YtkoccbggjfbgaaaGreatDoor
open Go.ChangeShapes Go.WideShapes Go.ChangeAt Go.RowKit

theorem own : ownKnob Tryz.prog.godebug = none := by kernel_rfl
theorem c_main : Tryz.pinned.checked.prog.mainIs = some (true, "65f71336986510874c1221065003c0f858bf1983a03e6056288455256982cd97".toList) := by kernel_rfl
theorem c_looks : true = Tryz.pinned.checked.prog.looks [] := by kernel_rfl
end Go.Proofs.YtkoccbggjfbgaaaGreatDoor
