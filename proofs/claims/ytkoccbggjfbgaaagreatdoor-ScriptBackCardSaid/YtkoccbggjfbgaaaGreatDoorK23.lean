/-
  maps.Keys and slices.Sorted at this seat: what the abstract machine says of them is so.
-/
import Derived.Test.YtkoccbggjfbgaaaGreatDoorK21
import Derived.Test.YtkoccbggjfbgaaaGreatDoorK22
import Derived.Shelf.SlIterI.Nil
import Derived.Shelf.SlIterI.Sorted
import Derived.Shelf.SortM.Plain
import Derived.Shelf.SortM.SortNone
set_option linter.all false
open Go.Eng Go.RowKit Go.Maps Go.Sort Go.Shelf
namespace Go.Proofs.YtkoccbggjfbgaaaGreatDoor
theorem sortsA (m : Nat) : AnyZI.SortsIn Tryz.prog Tryz.sortedA_ren Fence.wide m :=
  ⟨fun blk off cap ss W hH hblk hsz => callsIn_wide.2 (AnyM.slices_Sort_int Tryz.sortA blk off cap ss W hH hblk hsz),
   fun p cap W => callsIn_wide.2 (AnyM.slices_Sort_int_none Tryz.sortA p cap W)⟩
theorem keys_call (mb : Option Nat) (w : World) : Calls Tryz.prog 172 #[.map mb] w fun e w' => e = .returned (.func (.func 200) #[] #[.pointer (some ⟨w.heap.size, 0, none⟩)]) ∧ ∃ t, w' = w.alloc (.cells #[.map mb] t) :=
  ((callsIn_wide (n := 5)).1 (AnyZI.keys_in Tryz.keysA Fence.wide 5 trivial rfl mb w)).mono fun _ _ ⟨h1, h2⟩ => ⟨h1, _, h2⟩
theorem sorted_call : SortedCall Tryz.prog 171 200 3 := by
  intro w Bm b nn D0 hBm hcell hown hmax hbytes
  have hseq : SeqGives Fence.wide 2 Tryz.prog 200 #[.pointer (some ⟨Bm, 0, none⟩)] encZ (fun ss => ss.Perm (intKeys D0)) (Maps.size D0) w :=
    AnyZI.keys_gives (ρ := Tryz.keysA_ren) { Tryz.keysA with } Fence.wide _ trivial rfl (by omega) Bm b nn D0 _ hBm hcell hown
  exact (callsIn_wide (n := 5)).1 (AnyZI.sorted_in Tryz.sortedA Fence.wide 5 trivial trivial trivial trivial rfl (by omega) (sortsA _) (enters_of Tryz.func199 (by kernel_rfl) rfl) 200 _ trivial (enters_of Tryz.func200 (by kernel_rfl) rfl) _ _ hmax hbytes _ hseq)
theorem g172 : HookOK Tryz.prog 172 3205 := hook_keys (g := 200) (by rfl) (by rfl) (enters_of Tryz.func172 (by kernel_rfl) rfl) keys_call
theorem g171 : HookOK Tryz.prog 171 209715254 := hook_sorted (g := 200) (et := 3) (by rfl) (by rfl) (by rfl) Tryz.underlying3 (enters_of Tryz.func171 (by kernel_rfl) rfl) sorted_call
end Go.Proofs.YtkoccbggjfbgaaaGreatDoor
