/-
  Closed facts of the row scriptBlanks, each by itself.
-/
import Derived.Test.YtkoccbggjfbgaaaGreatDoorKFa
set_option linter.all false
set_option maxRecDepth 100000
namespace Go.Proofs.YtkoccbggjfbgaaaGreatDoor
namespace scriptBlanksF
theorem k1 : Rows.scriptBlanksRow.wf (OpenSpec.ofChange Rows.scriptBlanksSpec) = true := by kernel_rfl
theorem k4 : Tryz.f4.params.all (Tryz.pinned.checked.prog.readableRec ·) = true := by kernel_rfl
theorem k5 : namedTie Tryz.pinned.checked.prog Rows.scriptBlanksRow.named Rows.scriptBlanksSpec.vars = true := by kernel_rfl
theorem k6 : (Rows.scriptBlanksRow.stops == []) = true := by kernel_rfl
theorem k8 : (Rows.scriptBlanksRow.knobs == []) = true := by kernel_rfl
theorem k10 : (Rows.scriptBlanksRow.inPlace == Tryz.pinned.checked.prog.inPlace 4) = true := by kernel_rfl
theorem k11 : (Rows.scriptBlanksRow.unfollowed == Tryz.pinned.checked.prog.unfollowed 4) = true := by kernel_rfl
theorem k12 : (Rows.scriptBlanksRow.recurses == Tryz.pinned.checked.prog.recurses 4) = true := by kernel_rfl
theorem k13 : (Rows.scriptBlanksRow.named == Tryz.pinned.checked.prog.varsNamed 4) = true := by kernel_rfl
theorem k14 : (Rows.scriptBlanksRow.maps == (Tryz.f4.params.toList ++ Rows.scriptBlanksSpec.plain.varTypes Tryz.pinned.checked.prog).any (Tryz.pinned.checked.prog.mapsRec ·)) = true := by kernel_rfl
theorem k15 : (Rows.scriptBlanksRow.ifaces == (Tryz.f4.params.toList ++ Rows.scriptBlanksSpec.plain.varTypes Tryz.pinned.checked.prog).any (Tryz.pinned.checked.prog.ifacesRec ·)) = true := by kernel_rfl
theorem k16 : (Rows.scriptBlanksRow.mapsOut == Tryz.pinned.checked.prog.mapsAmong Tryz.f4.resultTypes.toList) = true := by kernel_rfl
theorem k17 : (Rows.scriptBlanksRow.loops == (Tryz.f4.params.toList ++ Rows.scriptBlanksSpec.plain.varTypes Tryz.pinned.checked.prog).any (Tryz.pinned.checked.prog.loopsFrom ·)) = true := by kernel_rfl
theorem k17b : (Rows.scriptBlanksRow.wideKeys == (Tryz.f4.params.toList ++ Rows.scriptBlanksSpec.plain.varTypes Tryz.pinned.checked.prog ++ Tryz.f4.resultTypes.toList).any (Tryz.pinned.checked.prog.wideKeysFrom ·)) = true := by kernel_rfl
theorem k18 : Rows.scriptBlanksSpec.vars.all (Tryz.pinned.checked.prog.varReadable ·) = true := by kernel_rfl
theorem k19 : Tryz.f4.resultTypes.all (fun t => Tryz.pinned.checked.prog.readableRec t && decide (t < Tryz.pinned.checked.prog.types.size)) = true := by kernel_rfl
theorem k20 : (Rows.scriptBlanksRow.ifacesOut == Tryz.f4.resultTypes.toList.any (Tryz.pinned.checked.prog.ifacesRec ·)) = true := by kernel_rfl
theorem k21 : (Rows.scriptBlanksRow.loopsOut == Tryz.f4.resultTypes.toList.any (Tryz.pinned.checked.prog.loopsFrom ·)) = true := by kernel_rfl
theorem k22 : (Rows.scriptBlanksRow.plainKeys == Tryz.pinned.checked.prog.plainKeys) = true := by kernel_rfl
theorem k23 : Rows.scriptBlanksRow.shortTexts.isNone = true := by kernel_rfl
theorem k24b : (Rows.scriptBlanksRow.lifted == Tryz.pinned.checked.prog.liftsFinal) = true := by kernel_rfl
theorem k24c : (Tryz.pinned.checked.prog.make == some Rows.scriptBlanksRow.make) = true := by kernel_rfl
theorem k25 : (Rows.scriptBlanksRow.kinds == (if Rows.scriptBlanksRow.domain.isEmpty then [] else Tryz.f4.params.toList.map fun t => match Tryz.pinned.checked.prog.underlying t with | some (.int k) => some k | _ => none)) = true := by kernel_rfl
theorem k26 : (Rows.scriptBlanksRow.pinned == Rows.scriptBlanksRow.pinnedBy) = true := by kernel_rfl
theorem k27 : (Rows.scriptBlanksRow.veiled == (Tryz.f4.params.toList ++ Rows.scriptBlanksSpec.plain.varTypes Tryz.pinned.checked.prog ++ Tryz.f4.resultTypes.toList).any (Tryz.pinned.checked.prog.veiledRec ·)) = true := by kernel_rfl
theorem k28 : Rows.scriptBlanksRow.veiledFits Tryz.pinned.checked.prog Tryz.f4.params.toList (Tryz.f4.params.toList ++ Rows.scriptBlanksSpec.plain.varTypes Tryz.pinned.checked.prog ++ Tryz.f4.resultTypes.toList) = true := by kernel_rfl
theorem closed : joinedFacts Tryz.pinned.checked.prog 4 Tryz.f4 Rows.scriptBlanksSpec Rows.scriptBlanksRow = true := by
  unfold joinedFacts
  simp only [Bool.and_eq_true]
  exact ⟨⟨⟨⟨⟨⟨⟨⟨⟨⟨⟨⟨⟨⟨⟨⟨⟨⟨⟨⟨⟨⟨⟨⟨⟨⟨⟨⟨⟨⟨⟨k1, fa2⟩, fa3⟩, k4⟩, k5⟩, k6⟩, fa7⟩, k8⟩, fa9⟩, k10⟩, k11⟩, k12⟩, k13⟩, k14⟩, k15⟩, k16⟩, k17⟩, k17b⟩, k18⟩, k19⟩, k20⟩, k21⟩, k22⟩, k23⟩, fa23b⟩, fa24⟩, k24b⟩, k24c⟩, k25⟩, k26⟩, k27⟩, k28⟩
end scriptBlanksF
end Go.Proofs.YtkoccbggjfbgaaaGreatDoor
