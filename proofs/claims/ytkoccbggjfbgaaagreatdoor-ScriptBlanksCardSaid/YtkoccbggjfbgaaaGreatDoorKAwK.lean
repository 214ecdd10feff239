/-
  strings.Repeat and strings.ReplaceAll at this seat: what the abstract machine says of them is so.
-/
import Derived.Test.YtkoccbggjfbgaaaGreatDoorKLays
import Derived.Test.YtkoccbggjfbgaaaGreatDoorKEq
set_option linter.all false
open Go.Eng Go.RowKit Go.Shelf
namespace Go.Proofs.YtkoccbggjfbgaaaGreatDoor
theorem extra105 : Builder.Extra Tryz.prog Tryz.lays105_ren := {
  sizeBuilder := by kernel_rfl
  liesBuilder := by kernel_rfl
  t5 := Tryz.underlying5
  a5 := Tryz.isAgg5
  z5 := Tryz.sizeOf5
  v5 := Tryz.zeroValue5
  infoByte := by kernel_rfl
  cellsByte := by kernel_rfl
  sizeByte := by kernel_rfl
  neB5 := by decide }
theorem extra155 : Builder.Extra Tryz.prog Tryz.lays155_ren := {
  sizeBuilder := by kernel_rfl
  liesBuilder := by kernel_rfl
  t5 := Tryz.underlying5
  a5 := Tryz.isAgg5
  z5 := Tryz.sizeOf5
  v5 := Tryz.zeroValue5
  infoByte := by kernel_rfl
  cellsByte := by kernel_rfl
  sizeByte := by kernel_rfl
  neB5 := by decide }
theorem g13 : HookOK Tryz.prog 13 32 := hook_repeat (by rfl) (by decide) (by rfl) (enters_of Tryz.func13 (by kernel_rfl) rfl) (repeat_call Tryz.lays105 extra105)
theorem g11 : HookOK Tryz.prog 11 48 := hook_replace (b := 0) (by rfl) (by decide) (by rfl) (by rfl) (enters_of Tryz.func11 (by kernel_rfl) rfl) (replace_call Tryz.lays155 extra155)
end Go.Proofs.YtkoccbggjfbgaaaGreatDoor
