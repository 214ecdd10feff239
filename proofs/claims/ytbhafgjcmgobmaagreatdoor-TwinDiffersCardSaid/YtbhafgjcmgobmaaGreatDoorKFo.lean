/-
  The twin seat: what the cards of its rows ask alike.
-/
import Derived.Test.YtbhafgjcmgobmaaGreatDoorRows
import Derived.Test.YtbhafgjcmgobmaaGreatDoorCards
import Derived.Test.YtbhafgjcmgobmaaGreatDoorTie
import Derived.ProofKit
import Derived.OpenShut
import Derived.LaidMore
import Derived.Lay
import Derived.SevenTiedAt
import Derived.Stop.Joined
import Derived.Below
import Derived.Test.YtbhafgjcmgobmaaGreatDoorKFg
set_option linter.all false
set_option linter.unusedSimpArgs false
namespace Go.Proofs.YtbhafgjcmgobmaaGreatDoor
open Go.ChangeShapes Go.WideShapes Go.ChangeAt Go.RowKit

theorem own : ownKnob Tryz.prog.godebug = none := by kernel_rfl
theorem c_main : Tryz.pinned.checked.prog.mainIs = some (true, "cfd84029f6b8ec288604b93804ac7aa8d0105c380034b55c0ba674e2d3b9e1e1".toList) := by kernel_rfl
theorem c_looks : true = Tryz.pinned.checked.prog.looks [] := by kernel_rfl
end Go.Proofs.YtbhafgjcmgobmaaGreatDoor
