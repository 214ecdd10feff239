/-
  maps.Keys and slices.Sorted at this seat: what the abstract machine says of them is so. strings.Builder, Split, FieldsFunc and ParseUint at this seat: what the abstract machine says of them is so. strconv.ParseUint at this seat: what the abstract machine says of it is so.
-/
import Derived.Test.YtkoccbggjfbgaaaGreatDoorKLays
import Derived.Test.YtkoccbggjfbgaaaGreatDoorKEc
import Derived.Shelf.SlIterI.Nil
import Derived.Shelf.SlIterI.Sorted
import Derived.Shelf.SortM.Plain
import Derived.Shelf.SortM.SortNone
import Derived.Test.YtkoccbggjfbgaaaGreatDoorKEd
import Derived.Test.YtkoccbggjfbgaaaGreatDoorKEe
set_option linter.all false

section
open Go.Eng Go.RowKit Go.Maps Go.Sort Go.Shelf
namespace Go.Proofs.YtkoccbggjfbgaaaGreatDoor
theorem sortsA (m : Nat) : AnyZI.SortsIn Tryz.prog Tryz.sortedA_ren Fence.wide m :=
  ⟨fun blk off cap ss W hH hblk hsz => callsIn_wide.2 (AnyM.slices_Sort_int Tryz.sortA blk off cap ss W hH hblk hsz),
   fun p cap W => callsIn_wide.2 (AnyM.slices_Sort_int_none Tryz.sortA p cap W)⟩
theorem keys_call (mb : Option Nat) (w : World) : Calls Tryz.prog 172 #[.map mb] w fun e w' => e = .returned (.func (.func 200) #[] #[.pointer (some ⟨w.heap.size, 0, none⟩)]) ∧ ∃ t, w' = w.alloc (.cells #[.map mb] t) :=
  ((callsIn_wide (n := 5)).1 (AnyZI.keys_in Tryz.keysA Fence.wide 5 trivial rfl mb w)).mono fun _ _ ⟨h1, h2⟩ => ⟨h1, _, h2⟩
theorem sorted_call : SortedCall Tryz.prog 171 200 3 := by
  intro w Bm b nn D0 hBm hcell hown hmax hbytes
  have hseq : SeqGives Fence.wide 2 Tryz.prog 200 #[.pointer (some ⟨Bm, 0, none⟩)] encZ (fun ss => ss.Perm (intKeys D0)) (Maps.size D0) w :=
    AnyZI.keys_gives (ρ := Tryz.keysA_ren) { Tryz.keysA with } Fence.wide _ trivial rfl (by omega) Bm b nn D0 _ hBm hcell hown
  exact (callsIn_wide (n := 5)).1 (AnyZI.sorted_in Tryz.sortedA Fence.wide 5 trivial trivial trivial trivial rfl (by omega) (sortsA _) (enters_of Tryz.func199 (by kernel_rfl) rfl) 200 _ trivial (enters_of Tryz.func200 (by kernel_rfl) rfl) _ _ hmax hbytes _ hseq)
theorem g172 : HookOK Tryz.prog 172 3205 := hook_keys (g := 200) (by rfl) (by rfl) (enters_of Tryz.func172 (by kernel_rfl) rfl) keys_call
theorem g171 : HookOK Tryz.prog 171 209715254 := hook_sorted (g := 200) (et := 3) (by rfl) (by rfl) (by rfl) Tryz.underlying3 (enters_of Tryz.func171 (by kernel_rfl) rfl) sorted_call
end Go.Proofs.YtkoccbggjfbgaaaGreatDoor
end

section
open Go.Eng Go.RowKit Go.Shelf
namespace Go.Proofs.YtkoccbggjfbgaaaGreatDoor
theorem extra156 : Builder.Extra Tryz.prog Tryz.lays156_ren := {
  sizeBuilder := by kernel_rfl
  liesBuilder := by kernel_rfl
  t5 := Tryz.underlying5
  a5 := Tryz.isAgg5
  z5 := Tryz.sizeOf5
  v5 := Tryz.zeroValue5
  infoByte := by kernel_rfl
  cellsByte := by kernel_rfl
  sizeByte := by kernel_rfl
  neB5 := by decide }
theorem extra170 : Builder.Extra Tryz.prog Tryz.lays170_ren := {
  sizeBuilder := by kernel_rfl
  liesBuilder := by kernel_rfl
  t5 := Tryz.underlying5
  a5 := Tryz.isAgg5
  z5 := Tryz.sizeOf5
  v5 := Tryz.zeroValue5
  infoByte := by kernel_rfl
  cellsByte := by kernel_rfl
  sizeByte := by kernel_rfl
  neB5 := by decide }
theorem space_at (w : World) : PredAt Tryz.prog 44 #[] encR isSp w := fun W r _ => by
  unfold FnGives
  go_enter Tryz.func44, Tryz.ntmps44
  go_wp2
  go_ret
  refine ⟨?_, 0, rfl⟩
  have : decide ((r : Int) = 32) = isSp r := by
    unfold isSp
    cases hb : Nat.beq r 32 with
    | true => have := Nat.eq_of_beq_eq_true hb; subst this; rfl
    | false => exact decide_eq_false fun e => by have : r = 32 := by omega
                                                 subst this; simp at hb
  simp only [Ending.returned.injEq, Value.bool.injEq]
  rw [← this]; rfl
theorem g31 : HookOK Tryz.prog 31 75497560 := hook_grow (tb := 72) (e := 5) (by rfl) (by rfl) (by rfl) (enters_of Tryz.func31 (by kernel_rfl) rfl) (grow_call (ρ := Tryz.lays156_ren) { Tryz.lays156 with } extra156)
theorem g32 : HookOK Tryz.prog 32 75497559 := hook_write (tb := 72) (e := 5) (by rfl) (by rfl) (by rfl) (enters_of Tryz.func32 (by kernel_rfl) rfl) (write_call (ρ := Tryz.lays156_ren) { Tryz.lays156 with } extra156)
theorem g34 : HookOK Tryz.prog 34 75497563 := hook_str (tb := 72) (e := 5) (by rfl) (by rfl) (by rfl) (enters_of Tryz.func34 (by kernel_rfl) rfl) (str_call (ρ := Tryz.lays156_ren) { Tryz.lays156 with } extra156)
theorem g33 : HookOK Tryz.prog 33 75497561 := hook_len (tb := 72) (e := 5) (by rfl) (by rfl) (by rfl) (enters_of Tryz.func33 (by kernel_rfl) rfl) (len_call Tryz.lays170 extra170)
theorem g19 : HookOK Tryz.prog 19 156 := hook_split (t := 9) (by rfl) (by rfl) (enters_of Tryz.func19 (by kernel_rfl) rfl) (split_call Tryz.lays146 (by kernel_rfl))
theorem g43 : HookOK Tryz.prog 43 46137501 := hook_fields (g := 44) (t := 9) (by rfl) (by rfl) (by rfl) (enters_of Tryz.func43 (by kernel_rfl) rfl) (fields_call Tryz.lays229 44 (enters_of Tryz.func44 (by kernel_rfl) rfl) space_at (by kernel_rfl) (by kernel_rfl))
theorem g145 : HookOK Tryz.prog 145 4238 := hook_parse (t := 264) (by rfl) (by rfl) (enters_of Tryz.func145 (by kernel_rfl) rfl) (parse_call Tryz.lays287)
end Go.Proofs.YtkoccbggjfbgaaaGreatDoor
end

section
open Go.Eng Go.RowKit Go.Shelf
namespace Go.Proofs.YtkoccbggjfbgaaaGreatDoor
theorem g108 : HookOK Tryz.prog 108 151063056 := hook_parseU (t := 266) (b := 9) (by rfl) (by decide) (by rfl) (by rfl) (by rfl) (enters_of Tryz.func108 (by kernel_rfl) rfl) (parseU_call Tryz.laysPu14)
end Go.Proofs.YtkoccbggjfbgaaaGreatDoor
end
