/-
  The awake chain of this seat: closed facts of the loaded program, and the functions that the abstract machine answers by itself.
-/
import Derived.Test.YtkoccbggjfbgaaaGreatDoorProg
import Derived.Test.YtkoccbggjfbgaaaGreatDoorK05
import Derived.KernelRfl
set_option linter.all false
open Go.Eng
namespace Go.Proofs.YtkoccbggjfbgaaaGreatDoor
theorem mixed_ok : Tryz.prog.follows .mixedOrders = true := by kernel_rfl
theorem fields_ok : fieldsIn Tryz.prog = true := by kernel_rfl
theorem names_ok : namesIn Tryz.prog = true := by kernel_rfl
def sS : List (Nat × Nat) := [(225, 1), (317, 1), (223, 1), (162, 1), (275, 1), (164, 1), (200, 1), (25, 1), (30, 1)]
theorem held_ok : heldIn Tryz.prog sS = true := by kernel_rfl
theorem hk1 : HookOK Tryz.prog 301 1 := hook_add64 (fn := Tryz.f301) ⟨Tryz.func301, by kernel_rfl, by kernel_rfl, by kernel_rfl, by kernel_rfl⟩
theorem hk3 : HookOK Tryz.prog 247 3 := hook_clone (fn := Tryz.f247) ⟨Tryz.func247, by kernel_rfl, by kernel_rfl, by kernel_rfl, by kernel_rfl⟩
theorem hk2 : HookOK Tryz.prog 196 2 := hook_sub64 (fn := Tryz.f196) ⟨Tryz.func196, by kernel_rfl, by kernel_rfl, by kernel_rfl, by kernel_rfl⟩
end Go.Proofs.YtkoccbggjfbgaaaGreatDoor
