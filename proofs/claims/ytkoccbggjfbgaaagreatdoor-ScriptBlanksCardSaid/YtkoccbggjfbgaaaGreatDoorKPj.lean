/-
  ScriptParses at the script seat: the machine's tables and its own answers hold; the world that the row describes; the law.
-/
import Derived.Test.YtkoccbggjfbgaaaGreatDoorRows
import Derived.Test.YtkoccbggjfbgaaaGreatDoorKSd
import Derived.Test.YtkoccbggjfbgaaaGreatDoorKSh
import Derived.Test.YtkoccbggjfbgaaaGreatDoorKAwJ
import Derived.Test.YtkoccbggjfbgaaaGreatDoorKAwB
import Derived.Test.YtkoccbggjfbgaaaGreatDoorKEe
import Derived.Stop.LaidErr
import Derived.LaidMore
set_option linter.all false
open Go.Eng Go.RowKit
set_option maxRecDepth 100000
namespace Go.Proofs.YtkoccbggjfbgaaaGreatDoor

def XP : List (Nat × Nat) := [(19, 156), (43, 46137501), (108, 151063056), (7, 10)]
theorem pxP : PX (tabOf XP) := by constructor <;> kernel_rfl
theorem envP : EnvOK Tryz.prog (EX (tabOf XP)) := envOf_list mixed_ok fields_ok names_ok held_ok (fun p hp => by
  simp only [XP, List.mem_cons, List.not_mem_nil, or_false] at hp
  rcases hp with rfl | rfl | rfl | rfl
  · exact g19
  · exact g43
  · exact g108
  · exact says7.hook)

/-! ### The variable strconv.ErrRange -/
theorem gErr : Tryz.prog.globalNamed "strconv.ErrRange" = some 9 := by kernel_rfl
theorem gErrT : (Tryz.prog.globals[9]?).map (·.type) = some 75 := by kernel_rfl
theorem starErr : "*" ++ "errors.errorString" = "*errors.errorString" := by decide
theorem rowErr (u : TypeId) (h : Tryz.prog.typeName? 3 u = some "*errors.errorString") : u = 328 :=
  typeName_ptr_named (nm := "errors.errorString") (by rw [starErr]; kernel_rfl) (by kernel_rfl) (by decide) u (by rw [starErr]; exact h)
theorem cells330 : Tryz.prog.cellsOf 330 = 1 := by kernel_rfl
theorem cells9 : Tryz.prog.cellsOf 9 = 1 := by kernel_rfl

theorem errRange {W : World} (h : laidMetH Tryz.prog Rows.scriptParsesRow.laid W) : ∃ t fz p, W.heap[9]? = some (.cells ⟨[.iface 328 p]⟩ t fz) := by
  rw [MakeChecks.laidMetH_plain _ _ _ (by kernel_rfl)] at h
  obtain ⟨a, s, hv, _⟩ := laid_sentinel (laidMet.tail (laidMet.tail (laidMet.tail (laidMet.tail h)))) gErr gErrT Tryz.underlying75 rowErr Tryz.underlying328 Tryz.underlying330 rfl rfl Tryz.underlying9 cells330 cells9
  unfold World.var? at hv
  rw [gErr] at hv
  simp only [Option.bind_some] at hv
  split at hv
  · rename_i cs t fz hc
    simp only [Option.some.injEq] at hv
    subst hv
    exact ⟨t, fz, _, hc⟩
  · simp at hv

theorem parses_law (s : ByteArray) (W : World) (h : laidMetH Tryz.prog Rows.scriptParsesRow.laid W) :
    Calls Tryz.prog 3 #[.string s] W fun e w' => e = .returned (.bool true) ∧ Below W.heap.size W w' := by
  obtain ⟨t, fz, p, hc⟩ := errRange h
  exact law_of (args := [.string s]) (cs := [.string s]) envP (f := 3) pxP.n3 (rel_fixed hc) (AllFixed.empty.new _ _ _ _)
    (x_law3 pxP (by kernel_rfl) pxP.n3 (fun t h ht => x_refParse pxP t (by omega) h) s.data.toList _ ⟨Nat.lt_succ_self 0, t, fz, 328, p, [], H.get_new' _ _⟩) (.cons (.str _) .nil)
end Go.Proofs.YtkoccbggjfbgaaaGreatDoor
