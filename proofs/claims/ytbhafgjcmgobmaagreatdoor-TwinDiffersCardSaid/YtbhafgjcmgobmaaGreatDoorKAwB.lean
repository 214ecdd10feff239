/-
  maps.Keys and slices.Sorted at this seat: what the abstract machine says of them is so. strings.Builder, Split, FieldsFunc and ParseUint at this seat: what the abstract machine says of them is so.
-/
import Derived.Test.YtbhafgjcmgobmaaGreatDoorKLays
import Derived.Test.YtbhafgjcmgobmaaGreatDoorKEc
import Derived.Shelf.SlIterI.Nil
import Derived.Shelf.SlIterI.Sorted
import Derived.Shelf.SortM.Plain
import Derived.Shelf.SortM.SortNone
import Derived.Test.YtbhafgjcmgobmaaGreatDoorKEd
set_option linter.all false

section
open Go.Eng Go.RowKit Go.Maps Go.Sort Go.Shelf
namespace Go.Proofs.YtbhafgjcmgobmaaGreatDoor
theorem sortsA (m : Nat) : AnyZI.SortsIn Tryz.prog Tryz.sortedA_ren Fence.wide m :=
  ⟨fun blk off cap ss W hH hblk hsz => callsIn_wide.2 (AnyM.slices_Sort_int Tryz.sortA blk off cap ss W hH hblk hsz),
   fun p cap W => callsIn_wide.2 (AnyM.slices_Sort_int_none Tryz.sortA p cap W)⟩
theorem keys_call (mb : Option Nat) (w : World) : Calls Tryz.prog 101 #[.map mb] w fun e w' => e = .returned (.func (.func 144) #[] #[.pointer (some ⟨w.heap.size, 0, none⟩)]) ∧ ∃ t, w' = w.alloc (.cells #[.map mb] t) :=
  ((callsIn_wide (n := 5)).1 (AnyZI.keys_in Tryz.keysA Fence.wide 5 trivial rfl mb w)).mono fun _ _ ⟨h1, h2⟩ => ⟨h1, _, h2⟩
theorem sorted_call : SortedCall Tryz.prog 100 144 3 := by
  intro w Bm b nn D0 hBm hcell hown hmax hbytes
  have hseq : SeqGives Fence.wide 2 Tryz.prog 144 #[.pointer (some ⟨Bm, 0, none⟩)] encZ (fun ss => ss.Perm (intKeys D0)) (Maps.size D0) w :=
    AnyZI.keys_gives (ρ := Tryz.keysA_ren) { Tryz.keysA with } Fence.wide _ trivial rfl (by omega) Bm b nn D0 _ hBm hcell hown
  exact (callsIn_wide (n := 5)).1 (AnyZI.sorted_in Tryz.sortedA Fence.wide 5 trivial trivial trivial trivial rfl (by omega) (sortsA _) (enters_of Tryz.func143 (by kernel_rfl) rfl) 144 _ trivial (enters_of Tryz.func144 (by kernel_rfl) rfl) _ _ hmax hbytes _ hseq)
theorem g101 : HookOK Tryz.prog 101 2309 := hook_keys (g := 144) (by rfl) (by rfl) (enters_of Tryz.func101 (by kernel_rfl) rfl) keys_call
theorem g100 : HookOK Tryz.prog 100 150994998 := hook_sorted (g := 144) (et := 3) (by rfl) (by rfl) (by rfl) Tryz.underlying3 (enters_of Tryz.func100 (by kernel_rfl) rfl) sorted_call
end Go.Proofs.YtbhafgjcmgobmaaGreatDoor
end

section
open Go.Eng Go.RowKit Go.Shelf
namespace Go.Proofs.YtbhafgjcmgobmaaGreatDoor
theorem extra156 : Builder.Extra Tryz.prog Tryz.lays156_ren := {
  sizeBuilder := by kernel_rfl
  liesBuilder := by kernel_rfl
  t5 := Tryz.underlying5
  a5 := Tryz.isAgg5
  z5 := Tryz.sizeOf5
  v5 := Tryz.zeroValue5
  infoByte := by kernel_rfl
  cellsByte := by kernel_rfl
  sizeByte := by kernel_rfl
  neB5 := by decide }
theorem space_at (w : World) : PredAt Tryz.prog 164 #[] encR isSp w := fun W r _ => by
  unfold FnGives
  go_enter Tryz.func164, Tryz.ntmps164
  go_wp2
  go_ret
  refine ⟨?_, 0, rfl⟩
  have : decide ((r : Int) = 32) = isSp r := by
    unfold isSp
    cases hb : Nat.beq r 32 with
    | true => have := Nat.eq_of_beq_eq_true hb; subst this; rfl
    | false => exact decide_eq_false fun e => by have : r = 32 := by omega
                                                 subst this; simp at hb
  simp only [Ending.returned.injEq, Value.bool.injEq]
  rw [← this]; rfl
theorem g339 : HookOK Tryz.prog 339 422576216 := hook_grow (tb := 403) (e := 5) (by rfl) (by rfl) (by rfl) (enters_of Tryz.func339 (by kernel_rfl) rfl) (grow_call (ρ := Tryz.lays156_ren) { Tryz.lays156 with } extra156)
theorem g340 : HookOK Tryz.prog 340 422576215 := hook_write (tb := 403) (e := 5) (by rfl) (by rfl) (by rfl) (enters_of Tryz.func340 (by kernel_rfl) rfl) (write_call (ρ := Tryz.lays156_ren) { Tryz.lays156 with } extra156)
theorem g341 : HookOK Tryz.prog 341 422576219 := hook_str (tb := 403) (e := 5) (by rfl) (by rfl) (by rfl) (enters_of Tryz.func341 (by kernel_rfl) rfl) (str_call (ρ := Tryz.lays156_ren) { Tryz.lays156 with } extra156)
theorem g122 : HookOK Tryz.prog 122 156 := hook_split (t := 9) (by rfl) (by rfl) (enters_of Tryz.func122 (by kernel_rfl) rfl) (split_call Tryz.lays146 (by kernel_rfl))
theorem g163 : HookOK Tryz.prog 163 171966621 := hook_fields (g := 164) (t := 9) (by rfl) (by rfl) (by rfl) (enters_of Tryz.func163 (by kernel_rfl) rfl) (fields_call Tryz.lays229 164 (enters_of Tryz.func164 (by kernel_rfl) rfl) space_at (by kernel_rfl) (by kernel_rfl))
theorem g212 : HookOK Tryz.prog 212 5438 := hook_parse (t := 339) (by rfl) (by rfl) (enters_of Tryz.func212 (by kernel_rfl) rfl) (parse_call Tryz.lays287)
end Go.Proofs.YtbhafgjcmgobmaaGreatDoor
end
