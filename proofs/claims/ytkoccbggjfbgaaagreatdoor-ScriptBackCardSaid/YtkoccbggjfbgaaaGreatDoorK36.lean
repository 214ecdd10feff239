/-
  strconv.ParseUint at this seat: what the abstract machine says of it is so.
-/
import Derived.Test.YtkoccbggjfbgaaaGreatDoorK21
import Derived.Test.YtkoccbggjfbgaaaGreatDoorK35
set_option linter.all false
open Go.Eng Go.RowKit Go.Shelf
namespace Go.Proofs.YtkoccbggjfbgaaaGreatDoor
theorem g108 : HookOK Tryz.prog 108 151063056 := hook_parseU (t := 266) (b := 9) (by rfl) (by decide) (by rfl) (by rfl) (by rfl) (enters_of Tryz.func108 (by kernel_rfl) rfl) (parseU_call Tryz.laysPu14)
end Go.Proofs.YtkoccbggjfbgaaaGreatDoor
