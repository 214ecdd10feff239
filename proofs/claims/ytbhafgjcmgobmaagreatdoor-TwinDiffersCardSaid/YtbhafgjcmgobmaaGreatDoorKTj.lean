/-
  TwinDiffers at the twin seat: the machine's tables hold; the law, whatever the memory holds.
-/
import Derived.Test.YtbhafgjcmgobmaaGreatDoorKTc
import Derived.Test.YtbhafgjcmgobmaaGreatDoorKAwJ
set_option linter.all false
open Go.Eng Go.RowKit
set_option maxRecDepth 100000
namespace Go.Proofs.YtbhafgjcmgobmaaGreatDoor
def XT : List (Nat × Nat) := [(4, 10)]
theorem ptT : PT (tabOf XT) := by constructor <;> kernel_rfl
theorem envT : EnvOK Tryz.prog (EX (tabOf XT)) := envOf_list mixed_ok fields_ok names_ok held_ok (fun p hp => by
  simp only [XT, List.mem_cons, List.not_mem_nil, or_false] at hp
  subst hp
  exact says4.hook)
theorem twin_law {K : Type} {enc : TypeId × Value → K} {W : World} {f1 f2 f3 b1 b2 b3 : Nat} {k1 k2 k3 : Bool} {v1 v2 v3 : Value} {x1 x2 x3 : DataW K × List MemPlace}
    (h1 : DataW.trod enc Tryz.prog W b1 (fun _ => true) k1 f1 22 [v1] = some x1) (h2 : DataW.trod enc Tryz.prog W b2 (fun _ => true) k2 f2 22 [v2] = some x2) (h3 : DataW.trod enc Tryz.prog W b3 (fun _ => true) k3 f3 23 [v3] = some x3) :
    Calls Tryz.prog 3 #[v1, v2, v3] W fun e w' => e = .returned (.bool true) ∧ Below W.heap.size W w' := by
  obtain ⟨w1, l1, e1, t1, r1⟩ := open_str h1
  obtain ⟨w2, l2, e2, t2, r2⟩ := open_str h2
  obtain ⟨w3, vs, L, e3, t3, r3⟩ := open_lists h3
  simp only [List.cons.injEq, and_true] at e1 e2 e3
  subst e1; subst e2; subst e3
  exact law_of (args := [trV W sk v1, trV W sk v2, trV W sk v3]) (cs := [v1, v2, v3]) envT (f := 3) ptT.n3 (H0_rel W) (H0_fixed W) (x_law ptT l1 l2 L _ _ _ vs (H0 W) r1 r2 r3)
    (.cons (trV_ok _ W sk v1 t1) (.cons (trV_ok _ W sk v2 t2) (.cons (trV_ok _ W sk v3 t3) .nil)))
end Go.Proofs.YtbhafgjcmgobmaaGreatDoor
