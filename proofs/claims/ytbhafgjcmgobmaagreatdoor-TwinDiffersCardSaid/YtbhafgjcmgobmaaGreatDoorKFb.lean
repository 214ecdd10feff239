/-
  Closed facts of the row twinDiffers, each by itself.
-/
import Derived.Test.YtbhafgjcmgobmaaGreatDoorKFa
set_option linter.all false
set_option maxRecDepth 100000
namespace Go.Proofs.YtbhafgjcmgobmaaGreatDoor
namespace twinDiffersF
theorem k1 : Rows.twinDiffersRow.wf (OpenSpec.ofChange Rows.twinDiffersSpec) = true := by kernel_rfl
theorem k4 : Tryz.f3.params.all (Tryz.pinned.checked.prog.readableRec ·) = true := by kernel_rfl
theorem k5 : namedTie Tryz.pinned.checked.prog Rows.twinDiffersRow.named Rows.twinDiffersSpec.vars = true := by kernel_rfl
theorem k6 : (Rows.twinDiffersRow.stops == []) = true := by kernel_rfl
theorem k8 : (Rows.twinDiffersRow.knobs == []) = true := by kernel_rfl
theorem k10 : (Rows.twinDiffersRow.inPlace == Tryz.pinned.checked.prog.inPlace 3) = true := by kernel_rfl
theorem k11 : (Rows.twinDiffersRow.unfollowed == Tryz.pinned.checked.prog.unfollowed 3) = true := by kernel_rfl
theorem k12 : (Rows.twinDiffersRow.recurses == Tryz.pinned.checked.prog.recurses 3) = true := by kernel_rfl
theorem k13 : (Rows.twinDiffersRow.named == Tryz.pinned.checked.prog.varsNamed 3) = true := by kernel_rfl
theorem k14 : (Rows.twinDiffersRow.maps == (Tryz.f3.params.toList ++ Rows.twinDiffersSpec.plain.varTypes Tryz.pinned.checked.prog).any (Tryz.pinned.checked.prog.mapsRec ·)) = true := by kernel_rfl
theorem k15 : (Rows.twinDiffersRow.ifaces == (Tryz.f3.params.toList ++ Rows.twinDiffersSpec.plain.varTypes Tryz.pinned.checked.prog).any (Tryz.pinned.checked.prog.ifacesRec ·)) = true := by kernel_rfl
theorem k16 : (Rows.twinDiffersRow.mapsOut == Tryz.pinned.checked.prog.mapsAmong Tryz.f3.resultTypes.toList) = true := by kernel_rfl
theorem k17 : (Rows.twinDiffersRow.loops == (Tryz.f3.params.toList ++ Rows.twinDiffersSpec.plain.varTypes Tryz.pinned.checked.prog).any (Tryz.pinned.checked.prog.loopsFrom ·)) = true := by kernel_rfl
theorem k17b : (Rows.twinDiffersRow.wideKeys == (Tryz.f3.params.toList ++ Rows.twinDiffersSpec.plain.varTypes Tryz.pinned.checked.prog ++ Tryz.f3.resultTypes.toList).any (Tryz.pinned.checked.prog.wideKeysFrom ·)) = true := by kernel_rfl
theorem k18 : Rows.twinDiffersSpec.vars.all (Tryz.pinned.checked.prog.varReadable ·) = true := by kernel_rfl
theorem k19 : Tryz.f3.resultTypes.all (fun t => Tryz.pinned.checked.prog.readableRec t && decide (t < Tryz.pinned.checked.prog.types.size)) = true := by kernel_rfl
theorem k20 : (Rows.twinDiffersRow.ifacesOut == Tryz.f3.resultTypes.toList.any (Tryz.pinned.checked.prog.ifacesRec ·)) = true := by kernel_rfl
theorem k21 : (Rows.twinDiffersRow.loopsOut == Tryz.f3.resultTypes.toList.any (Tryz.pinned.checked.prog.loopsFrom ·)) = true := by kernel_rfl
theorem k22 : (Rows.twinDiffersRow.plainKeys == Tryz.pinned.checked.prog.plainKeys) = true := by kernel_rfl
theorem k23 : Rows.twinDiffersRow.shortTexts.isNone = true := by kernel_rfl
theorem k24b : (Rows.twinDiffersRow.lifted == Tryz.pinned.checked.prog.liftsFinal) = true := by kernel_rfl
theorem k24c : (Tryz.pinned.checked.prog.make == some Rows.twinDiffersRow.make) = true := by kernel_rfl
theorem k25 : (Rows.twinDiffersRow.kinds == (if Rows.twinDiffersRow.domain.isEmpty then [] else Tryz.f3.params.toList.map fun t => match Tryz.pinned.checked.prog.underlying t with | some (.int k) => some k | _ => none)) = true := by kernel_rfl
theorem k26 : (Rows.twinDiffersRow.pinned == Rows.twinDiffersRow.pinnedBy) = true := by kernel_rfl
theorem k27 : (Rows.twinDiffersRow.veiled == (Tryz.f3.params.toList ++ Rows.twinDiffersSpec.plain.varTypes Tryz.pinned.checked.prog ++ Tryz.f3.resultTypes.toList).any (Tryz.pinned.checked.prog.veiledRec ·)) = true := by kernel_rfl
theorem k28 : Rows.twinDiffersRow.veiledFits Tryz.pinned.checked.prog Tryz.f3.params.toList (Tryz.f3.params.toList ++ Rows.twinDiffersSpec.plain.varTypes Tryz.pinned.checked.prog ++ Tryz.f3.resultTypes.toList) = true := by kernel_rfl
theorem closed : joinedFacts Tryz.pinned.checked.prog 3 Tryz.f3 Rows.twinDiffersSpec Rows.twinDiffersRow = true := by
  unfold joinedFacts
  simp only [Bool.and_eq_true]
  exact ⟨⟨⟨⟨⟨⟨⟨⟨⟨⟨⟨⟨⟨⟨⟨⟨⟨⟨⟨⟨⟨⟨⟨⟨⟨⟨⟨⟨⟨⟨⟨k1, fa2⟩, fa3⟩, k4⟩, k5⟩, k6⟩, fa7⟩, k8⟩, fa9⟩, k10⟩, k11⟩, k12⟩, k13⟩, k14⟩, k15⟩, k16⟩, k17⟩, k17b⟩, k18⟩, k19⟩, k20⟩, k21⟩, k22⟩, k23⟩, fa23b⟩, fa24⟩, k24b⟩, k24c⟩, k25⟩, k26⟩, k27⟩, k28⟩
end twinDiffersF
end Go.Proofs.YtbhafgjcmgobmaaGreatDoor
