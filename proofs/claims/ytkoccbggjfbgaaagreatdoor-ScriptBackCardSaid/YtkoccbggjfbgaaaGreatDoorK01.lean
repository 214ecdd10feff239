/-
  Closed facts of the row scriptBack, each by itself.
-/
import Derived.Test.YtkoccbggjfbgaaaGreatDoorK00
set_option linter.all false
set_option maxRecDepth 100000
namespace Go.Proofs.YtkoccbggjfbgaaaGreatDoor
namespace scriptBackF
theorem k1 : Rows.scriptBackRow.wf (OpenSpec.ofChange Rows.scriptBackSpec) = true := by kernel_rfl
theorem k4 : Tryz.f6.params.all (Tryz.pinned.checked.prog.readableRec ·) = true := by kernel_rfl
theorem k5 : namedTie Tryz.pinned.checked.prog Rows.scriptBackRow.named Rows.scriptBackSpec.vars = true := by kernel_rfl
theorem k6 : (Rows.scriptBackRow.stops == []) = true := by kernel_rfl
theorem k8 : (Rows.scriptBackRow.knobs == []) = true := by kernel_rfl
theorem k10 : (Rows.scriptBackRow.inPlace == Tryz.pinned.checked.prog.inPlace 6) = true := by kernel_rfl
theorem k11 : (Rows.scriptBackRow.unfollowed == Tryz.pinned.checked.prog.unfollowed 6) = true := by kernel_rfl
theorem k12 : (Rows.scriptBackRow.recurses == Tryz.pinned.checked.prog.recurses 6) = true := by kernel_rfl
theorem k13 : (Rows.scriptBackRow.named == Tryz.pinned.checked.prog.varsNamed 6) = true := by kernel_rfl
theorem k14 : (Rows.scriptBackRow.maps == (Tryz.f6.params.toList ++ Rows.scriptBackSpec.plain.varTypes Tryz.pinned.checked.prog).any (Tryz.pinned.checked.prog.mapsRec ·)) = true := by kernel_rfl
theorem k15 : (Rows.scriptBackRow.ifaces == (Tryz.f6.params.toList ++ Rows.scriptBackSpec.plain.varTypes Tryz.pinned.checked.prog).any (Tryz.pinned.checked.prog.ifacesRec ·)) = true := by kernel_rfl
theorem k16 : (Rows.scriptBackRow.mapsOut == Tryz.pinned.checked.prog.mapsAmong Tryz.f6.resultTypes.toList) = true := by kernel_rfl
theorem k17 : (Rows.scriptBackRow.loops == (Tryz.f6.params.toList ++ Rows.scriptBackSpec.plain.varTypes Tryz.pinned.checked.prog).any (Tryz.pinned.checked.prog.loopsFrom ·)) = true := by kernel_rfl
theorem k17b : (Rows.scriptBackRow.wideKeys == (Tryz.f6.params.toList ++ Rows.scriptBackSpec.plain.varTypes Tryz.pinned.checked.prog ++ Tryz.f6.resultTypes.toList).any (Tryz.pinned.checked.prog.wideKeysFrom ·)) = true := by kernel_rfl
theorem k18 : Rows.scriptBackSpec.vars.all (Tryz.pinned.checked.prog.varReadable ·) = true := by kernel_rfl
theorem k19 : Tryz.f6.resultTypes.all (fun t => Tryz.pinned.checked.prog.readableRec t && decide (t < Tryz.pinned.checked.prog.types.size)) = true := by kernel_rfl
theorem k20 : (Rows.scriptBackRow.ifacesOut == Tryz.f6.resultTypes.toList.any (Tryz.pinned.checked.prog.ifacesRec ·)) = true := by kernel_rfl
theorem k21 : (Rows.scriptBackRow.loopsOut == Tryz.f6.resultTypes.toList.any (Tryz.pinned.checked.prog.loopsFrom ·)) = true := by kernel_rfl
theorem k22 : (Rows.scriptBackRow.plainKeys == Tryz.pinned.checked.prog.plainKeys) = true := by kernel_rfl
theorem k23 : Rows.scriptBackRow.shortTexts.isNone = true := by kernel_rfl
theorem k24b : (Rows.scriptBackRow.lifted == Tryz.pinned.checked.prog.liftsFinal) = true := by kernel_rfl
theorem k24c : (Tryz.pinned.checked.prog.make == some Rows.scriptBackRow.make) = true := by kernel_rfl
theorem k25 : (Rows.scriptBackRow.kinds == (if Rows.scriptBackRow.domain.isEmpty then [] else Tryz.f6.params.toList.map fun t => match Tryz.pinned.checked.prog.underlying t with | some (.int k) => some k | _ => none)) = true := by kernel_rfl
theorem k26 : (Rows.scriptBackRow.pinned == Rows.scriptBackRow.pinnedBy) = true := by kernel_rfl
theorem k27 : (Rows.scriptBackRow.veiled == (Tryz.f6.params.toList ++ Rows.scriptBackSpec.plain.varTypes Tryz.pinned.checked.prog ++ Tryz.f6.resultTypes.toList).any (Tryz.pinned.checked.prog.veiledRec ·)) = true := by kernel_rfl
theorem k28 : Rows.scriptBackRow.veiledFits Tryz.pinned.checked.prog Tryz.f6.params.toList (Tryz.f6.params.toList ++ Rows.scriptBackSpec.plain.varTypes Tryz.pinned.checked.prog ++ Tryz.f6.resultTypes.toList) = true := by kernel_rfl
theorem closed : joinedFacts Tryz.pinned.checked.prog 6 Tryz.f6 Rows.scriptBackSpec Rows.scriptBackRow = true := by
  unfold joinedFacts
  simp only [Bool.and_eq_true]
  exact ⟨⟨⟨⟨⟨⟨⟨⟨⟨⟨⟨⟨⟨⟨⟨⟨⟨⟨⟨⟨⟨⟨⟨⟨⟨⟨⟨⟨⟨⟨⟨k1, fa2⟩, fa3⟩, k4⟩, k5⟩, k6⟩, fa7⟩, k8⟩, fa9⟩, k10⟩, k11⟩, k12⟩, k13⟩, k14⟩, k15⟩, k16⟩, k17⟩, k17b⟩, k18⟩, k19⟩, k20⟩, k21⟩, k22⟩, k23⟩, fa23b⟩, fa24⟩, k24b⟩, k24c⟩, k25⟩, k26⟩, k27⟩, k28⟩
end scriptBackF
end Go.Proofs.YtkoccbggjfbgaaaGreatDoor
