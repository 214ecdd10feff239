/-
  No function of the translation starts a goroutine. The script seat: what the cards of its rows ask alike.
-/
import Derived.Test.YtkoccbggjfbgaaaGreatDoorK00
import GoSem.ClaimSeven
import Derived.Test.YtkoccbggjfbgaaaGreatDoorRows
import Derived.Test.YtkoccbggjfbgaaaGreatDoorCards
import Derived.Test.YtkoccbggjfbgaaaGreatDoorTie
import Derived.ProofKit
import Derived.OpenShut
import Derived.LaidMore
import Derived.Lay
import Derived.SevenTiedAt
import Derived.Stop.Joined
import Derived.Below
set_option linter.all false

section
set_option maxRecDepth 100000
namespace Go.Proofs.YtkoccbggjfbgaaaGreatDoor
theorem nogo1 : ((Tryz.pinned.checked.prog.funcs.toList.take 100).all fun fn => !fn.goes) = true := by kernel_rfl
theorem nogo2 : (((Tryz.pinned.checked.prog.funcs.toList.drop 100).take 100).all fun fn => !fn.goes) = true := by kernel_rfl
theorem nogo3 : (((Tryz.pinned.checked.prog.funcs.toList.drop 200).take 100).all fun fn => !fn.goes) = true := by kernel_rfl
theorem nogo4 : ((Tryz.pinned.checked.prog.funcs.toList.drop 300).all fun fn => !fn.goes) = true := by kernel_rfl
theorem all_cut {α : Type} (p : α → Bool) (l : List α) (a b : Nat) (h : ((l.drop a).take b).all p = true) (h2 : (l.drop (a + b)).all p = true) : (l.drop a).all p = true := by
  rw [← List.take_append_drop b (l.drop a), List.all_append, h, List.drop_drop, h2]; rfl
theorem nogo : (Tryz.pinned.checked.prog.funcs.toList.all fun fn => !fn.goes) = true :=
  all_cut _ _ 0 100 nogo1 (all_cut _ _ 100 100 nogo2 (all_cut _ _ 200 100 nogo3 nogo4))
theorem no_goes (f : FuncId) : Tryz.pinned.checked.prog.goes f = false := by
  have key : ∀ fn ∈ Tryz.pinned.checked.prog.funcs, fn.goes = false := fun fn hfn => by
    have := List.all_eq_true.1 nogo fn (by simpa using hfn)
    simpa using this
  unfold Program.goes
  rw [Bool.or_eq_false_iff]
  refine ⟨?_, ?_⟩
  · rw [List.any_eq_false]
    intro g _
    cases hg : Tryz.pinned.checked.prog.funcs[g]? with
    | none => simp
    | some fn => simpa using key fn (Array.mem_of_getElem? hg)
  · rw [Bool.and_eq_false_iff]
    right
    rw [Array.any_eq_false]
    intro i hi
    simpa using key _ (Array.getElem_mem hi)
theorem goes_by (c : OpenClaim) (hs : c.start = .entering) : false = c.goesBy Tryz.pinned.checked.prog := by
  unfold OpenClaim.goesBy Program.goesAt Program.goesFrom
  rw [hs]
  cases Tryz.pinned.checked.prog.funcNamed c.func with
  | none => rfl
  | some f => simp [no_goes]
end Go.Proofs.YtkoccbggjfbgaaaGreatDoor
end

section
set_option linter.unusedSimpArgs false
namespace Go.Proofs.YtkoccbggjfbgaaaGreatDoor
open Go.ChangeShapes Go.WideShapes Go.ChangeAt Go.RowKit

theorem own : ownKnob Tryz.prog.godebug = none := by kernel_rfl
theorem c_main : Tryz.pinned.checked.prog.mainIs = some (true, "65f71336986510874c1221065003c0f858bf1983a03e6056288455256982cd97".toList) := by kernel_rfl
theorem c_looks : true = Tryz.pinned.checked.prog.looks [] := by kernel_rfl
end Go.Proofs.YtkoccbggjfbgaaaGreatDoor
end
