/-
  Closed facts of the row scriptParses, each by itself.
-/
import Derived.Test.YtkoccbggjfbgaaaGreatDoorKFa
set_option linter.all false
set_option maxRecDepth 100000
namespace Go.Proofs.YtkoccbggjfbgaaaGreatDoor
namespace scriptParsesF
theorem k1 : Rows.scriptParsesRow.wf (OpenSpec.ofChange Rows.scriptParsesSpec) = true := by kernel_rfl
theorem k4 : Tryz.f3.params.all (Tryz.pinned.checked.prog.readableRec ·) = true := by kernel_rfl
theorem k5 : namedTie Tryz.pinned.checked.prog Rows.scriptParsesRow.named Rows.scriptParsesSpec.vars = true := by kernel_rfl
theorem k6 : (Rows.scriptParsesRow.stops == []) = true := by kernel_rfl
theorem k8 : (Rows.scriptParsesRow.knobs == []) = true := by kernel_rfl
theorem k10 : (Rows.scriptParsesRow.inPlace == Tryz.pinned.checked.prog.inPlace 3) = true := by kernel_rfl
theorem k11 : (Rows.scriptParsesRow.unfollowed == Tryz.pinned.checked.prog.unfollowed 3) = true := by kernel_rfl
theorem k12 : (Rows.scriptParsesRow.recurses == Tryz.pinned.checked.prog.recurses 3) = true := by kernel_rfl
theorem k13 : (Rows.scriptParsesRow.named == Tryz.pinned.checked.prog.varsNamed 3) = true := by kernel_rfl
theorem k14 : (Rows.scriptParsesRow.maps == (Tryz.f3.params.toList ++ Rows.scriptParsesSpec.plain.varTypes Tryz.pinned.checked.prog).any (Tryz.pinned.checked.prog.mapsRec ·)) = true := by kernel_rfl
theorem k15 : (Rows.scriptParsesRow.ifaces == (Tryz.f3.params.toList ++ Rows.scriptParsesSpec.plain.varTypes Tryz.pinned.checked.prog).any (Tryz.pinned.checked.prog.ifacesRec ·)) = true := by kernel_rfl
theorem k16 : (Rows.scriptParsesRow.mapsOut == Tryz.pinned.checked.prog.mapsAmong Tryz.f3.resultTypes.toList) = true := by kernel_rfl
theorem k17 : (Rows.scriptParsesRow.loops == (Tryz.f3.params.toList ++ Rows.scriptParsesSpec.plain.varTypes Tryz.pinned.checked.prog).any (Tryz.pinned.checked.prog.loopsFrom ·)) = true := by kernel_rfl
theorem k17b : (Rows.scriptParsesRow.wideKeys == (Tryz.f3.params.toList ++ Rows.scriptParsesSpec.plain.varTypes Tryz.pinned.checked.prog ++ Tryz.f3.resultTypes.toList).any (Tryz.pinned.checked.prog.wideKeysFrom ·)) = true := by kernel_rfl
theorem k18 : Rows.scriptParsesSpec.vars.all (Tryz.pinned.checked.prog.varReadable ·) = true := by kernel_rfl
theorem k19 : Tryz.f3.resultTypes.all (fun t => Tryz.pinned.checked.prog.readableRec t && decide (t < Tryz.pinned.checked.prog.types.size)) = true := by kernel_rfl
theorem k20 : (Rows.scriptParsesRow.ifacesOut == Tryz.f3.resultTypes.toList.any (Tryz.pinned.checked.prog.ifacesRec ·)) = true := by kernel_rfl
theorem k21 : (Rows.scriptParsesRow.loopsOut == Tryz.f3.resultTypes.toList.any (Tryz.pinned.checked.prog.loopsFrom ·)) = true := by kernel_rfl
theorem k22 : (Rows.scriptParsesRow.plainKeys == Tryz.pinned.checked.prog.plainKeys) = true := by kernel_rfl
theorem k23 : Rows.scriptParsesRow.shortTexts.isNone = true := by kernel_rfl
theorem k24b : (Rows.scriptParsesRow.lifted == Tryz.pinned.checked.prog.liftsFinal) = true := by kernel_rfl
theorem k24c : (Tryz.pinned.checked.prog.make == some Rows.scriptParsesRow.make) = true := by kernel_rfl
theorem k25 : (Rows.scriptParsesRow.kinds == (if Rows.scriptParsesRow.domain.isEmpty then [] else Tryz.f3.params.toList.map fun t => match Tryz.pinned.checked.prog.underlying t with | some (.int k) => some k | _ => none)) = true := by kernel_rfl
theorem k26 : (Rows.scriptParsesRow.pinned == Rows.scriptParsesRow.pinnedBy) = true := by kernel_rfl
theorem k27 : (Rows.scriptParsesRow.veiled == (Tryz.f3.params.toList ++ Rows.scriptParsesSpec.plain.varTypes Tryz.pinned.checked.prog ++ Tryz.f3.resultTypes.toList).any (Tryz.pinned.checked.prog.veiledRec ·)) = true := by kernel_rfl
theorem k28 : Rows.scriptParsesRow.veiledFits Tryz.pinned.checked.prog Tryz.f3.params.toList (Tryz.f3.params.toList ++ Rows.scriptParsesSpec.plain.varTypes Tryz.pinned.checked.prog ++ Tryz.f3.resultTypes.toList) = true := by kernel_rfl
theorem closed : joinedFacts Tryz.pinned.checked.prog 3 Tryz.f3 Rows.scriptParsesSpec Rows.scriptParsesRow = true := by
  unfold joinedFacts
  simp only [Bool.and_eq_true]
  exact ⟨⟨⟨⟨⟨⟨⟨⟨⟨⟨⟨⟨⟨⟨⟨⟨⟨⟨⟨⟨⟨⟨⟨⟨⟨⟨⟨⟨⟨⟨⟨k1, fa2⟩, fa3⟩, k4⟩, k5⟩, k6⟩, fa7⟩, k8⟩, fa9⟩, k10⟩, k11⟩, k12⟩, k13⟩, k14⟩, k15⟩, k16⟩, k17⟩, k17b⟩, k18⟩, k19⟩, k20⟩, k21⟩, k22⟩, k23⟩, fa23b⟩, fa24⟩, k24b⟩, k24c⟩, k25⟩, k26⟩, k27⟩, k28⟩
end scriptParsesF
end Go.Proofs.YtkoccbggjfbgaaaGreatDoor
