/-
  Closed facts of the row scriptPrints, each by itself.
-/
import Derived.Test.YtkoccbggjfbgaaaGreatDoorK00
set_option linter.all false
set_option maxRecDepth 100000
namespace Go.Proofs.YtkoccbggjfbgaaaGreatDoor
namespace scriptPrintsF
theorem k1 : Rows.scriptPrintsRow.wf (OpenSpec.ofChange Rows.scriptPrintsSpec) = true := by kernel_rfl
theorem k4 : Tryz.f5.params.all (Tryz.pinned.checked.prog.readableRec ·) = true := by kernel_rfl
theorem k5 : namedTie Tryz.pinned.checked.prog Rows.scriptPrintsRow.named Rows.scriptPrintsSpec.vars = true := by kernel_rfl
theorem k6 : (Rows.scriptPrintsRow.stops == []) = true := by kernel_rfl
theorem k8 : (Rows.scriptPrintsRow.knobs == []) = true := by kernel_rfl
theorem k10 : (Rows.scriptPrintsRow.inPlace == Tryz.pinned.checked.prog.inPlace 5) = true := by kernel_rfl
theorem k11 : (Rows.scriptPrintsRow.unfollowed == Tryz.pinned.checked.prog.unfollowed 5) = true := by kernel_rfl
theorem k12 : (Rows.scriptPrintsRow.recurses == Tryz.pinned.checked.prog.recurses 5) = true := by kernel_rfl
theorem k13 : (Rows.scriptPrintsRow.named == Tryz.pinned.checked.prog.varsNamed 5) = true := by kernel_rfl
theorem k14 : (Rows.scriptPrintsRow.maps == (Tryz.f5.params.toList ++ Rows.scriptPrintsSpec.plain.varTypes Tryz.pinned.checked.prog).any (Tryz.pinned.checked.prog.mapsRec ·)) = true := by kernel_rfl
theorem k15 : (Rows.scriptPrintsRow.ifaces == (Tryz.f5.params.toList ++ Rows.scriptPrintsSpec.plain.varTypes Tryz.pinned.checked.prog).any (Tryz.pinned.checked.prog.ifacesRec ·)) = true := by kernel_rfl
theorem k16 : (Rows.scriptPrintsRow.mapsOut == Tryz.pinned.checked.prog.mapsAmong Tryz.f5.resultTypes.toList) = true := by kernel_rfl
theorem k17 : (Rows.scriptPrintsRow.loops == (Tryz.f5.params.toList ++ Rows.scriptPrintsSpec.plain.varTypes Tryz.pinned.checked.prog).any (Tryz.pinned.checked.prog.loopsFrom ·)) = true := by kernel_rfl
theorem k17b : (Rows.scriptPrintsRow.wideKeys == (Tryz.f5.params.toList ++ Rows.scriptPrintsSpec.plain.varTypes Tryz.pinned.checked.prog ++ Tryz.f5.resultTypes.toList).any (Tryz.pinned.checked.prog.wideKeysFrom ·)) = true := by kernel_rfl
theorem k18 : Rows.scriptPrintsSpec.vars.all (Tryz.pinned.checked.prog.varReadable ·) = true := by kernel_rfl
theorem k19 : Tryz.f5.resultTypes.all (fun t => Tryz.pinned.checked.prog.readableRec t && decide (t < Tryz.pinned.checked.prog.types.size)) = true := by kernel_rfl
theorem k20 : (Rows.scriptPrintsRow.ifacesOut == Tryz.f5.resultTypes.toList.any (Tryz.pinned.checked.prog.ifacesRec ·)) = true := by kernel_rfl
theorem k21 : (Rows.scriptPrintsRow.loopsOut == Tryz.f5.resultTypes.toList.any (Tryz.pinned.checked.prog.loopsFrom ·)) = true := by kernel_rfl
theorem k22 : (Rows.scriptPrintsRow.plainKeys == Tryz.pinned.checked.prog.plainKeys) = true := by kernel_rfl
theorem k23 : Rows.scriptPrintsRow.shortTexts.isNone = true := by kernel_rfl
theorem k24b : (Rows.scriptPrintsRow.lifted == Tryz.pinned.checked.prog.liftsFinal) = true := by kernel_rfl
theorem k24c : (Tryz.pinned.checked.prog.make == some Rows.scriptPrintsRow.make) = true := by kernel_rfl
theorem k25 : (Rows.scriptPrintsRow.kinds == (if Rows.scriptPrintsRow.domain.isEmpty then [] else Tryz.f5.params.toList.map fun t => match Tryz.pinned.checked.prog.underlying t with | some (.int k) => some k | _ => none)) = true := by kernel_rfl
theorem k26 : (Rows.scriptPrintsRow.pinned == Rows.scriptPrintsRow.pinnedBy) = true := by kernel_rfl
theorem k27 : (Rows.scriptPrintsRow.veiled == (Tryz.f5.params.toList ++ Rows.scriptPrintsSpec.plain.varTypes Tryz.pinned.checked.prog ++ Tryz.f5.resultTypes.toList).any (Tryz.pinned.checked.prog.veiledRec ·)) = true := by kernel_rfl
theorem k28 : Rows.scriptPrintsRow.veiledFits Tryz.pinned.checked.prog Tryz.f5.params.toList (Tryz.f5.params.toList ++ Rows.scriptPrintsSpec.plain.varTypes Tryz.pinned.checked.prog ++ Tryz.f5.resultTypes.toList) = true := by kernel_rfl
theorem closed : joinedFacts Tryz.pinned.checked.prog 5 Tryz.f5 Rows.scriptPrintsSpec Rows.scriptPrintsRow = true := by
  unfold joinedFacts
  simp only [Bool.and_eq_true]
  exact ⟨⟨⟨⟨⟨⟨⟨⟨⟨⟨⟨⟨⟨⟨⟨⟨⟨⟨⟨⟨⟨⟨⟨⟨⟨⟨⟨⟨⟨⟨⟨k1, fa2⟩, fa3⟩, k4⟩, k5⟩, k6⟩, fa7⟩, k8⟩, fa9⟩, k10⟩, k11⟩, k12⟩, k13⟩, k14⟩, k15⟩, k16⟩, k17⟩, k17b⟩, k18⟩, k19⟩, k20⟩, k21⟩, k22⟩, k23⟩, fa23b⟩, fa24⟩, k24b⟩, k24c⟩, k25⟩, k26⟩, k27⟩, k28⟩
end scriptPrintsF
end Go.Proofs.YtkoccbggjfbgaaaGreatDoor
