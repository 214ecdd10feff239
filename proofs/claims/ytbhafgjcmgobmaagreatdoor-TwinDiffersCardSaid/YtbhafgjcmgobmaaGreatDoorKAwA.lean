/-
  The awake chain of this seat: closed facts of the loaded program, and the functions that the abstract machine answers by itself.
-/
import Derived.Test.YtbhafgjcmgobmaaGreatDoorProg
import Derived.Test.YtbhafgjcmgobmaaGreatDoorKEc
import Derived.KernelRfl
set_option linter.all false
open Go.Eng
namespace Go.Proofs.YtbhafgjcmgobmaaGreatDoor
theorem mixed_ok : Tryz.prog.follows .mixedOrders = true := by kernel_rfl
theorem fields_ok : fieldsIn Tryz.prog = true := by kernel_rfl
theorem names_ok : namesIn Tryz.prog = true := by kernel_rfl
def sS : List (Nat × Nat) := [(121, 1), (361, 1), (291, 1), (149, 1), (85, 1), (35, 1), (119, 1), (37, 1)]
theorem held_ok : heldIn Tryz.prog sS = true := by kernel_rfl
theorem hk2 : HookOK Tryz.prog 95 2 := hook_sub64 (fn := Tryz.f95) ⟨Tryz.func95, by kernel_rfl, by kernel_rfl, by kernel_rfl, by kernel_rfl⟩
theorem hk3 : HookOK Tryz.prog 94 3 := hook_clone (fn := Tryz.f94) ⟨Tryz.func94, by kernel_rfl, by kernel_rfl, by kernel_rfl, by kernel_rfl⟩
theorem hk1 : HookOK Tryz.prog 45 1 := hook_add64 (fn := Tryz.f45) ⟨Tryz.func45, by kernel_rfl, by kernel_rfl, by kernel_rfl, by kernel_rfl⟩
end Go.Proofs.YtbhafgjcmgobmaaGreatDoor
