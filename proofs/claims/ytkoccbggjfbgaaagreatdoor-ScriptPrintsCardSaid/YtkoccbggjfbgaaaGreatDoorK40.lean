/-
  'ScriptPrints' is true of every configuration and all commands, as its given card says; the conditions are the card's own: what it lists as laid, pinned or open.
-/
import Derived.Test.YtkoccbggjfbgaaaGreatDoorK01
import Derived.Test.YtkoccbggjfbgaaaGreatDoorK02
import Derived.Test.YtkoccbggjfbgaaaGreatDoorK39
import Derived.Carry
import Derived.ChangeOld
set_option linter.all false
set_option linter.unusedSimpArgs false
namespace Go.Proofs.YtkoccbggjfbgaaaGreatDoor
open Go.ChangeShapes Go.WideShapes Go.ChangeAt Go.RowKit

theorem read25 : Tryz.prog.readableRec 25 = true := by kernel_rfl
theorem read26 : Tryz.prog.readableRec 26 = true := by kernel_rfl
theorem laidOutP : laidOutB Tryz.prog = true := by kernel_rfl
theorem rows27 : decide (26 < Tryz.prog.types.size) = true := by kernel_rfl

set_option maxRecDepth 100000 in
theorem prints_lifted (os : Os) (started : os.Started) (H : Type) (enc : TypeId × Value → H) :
    ReturnsInHanded {} Tryz.checked os 5 .any (fun w args => (Rows.scriptPrintsSpec.pre enc Tryz.prog Tryz.f5 [] false w args ∧ laidMetH Tryz.prog Rows.scriptPrintsRow.laid w) ∧ sizedMet enc Tryz.prog Tryz.f5 (OpenSpec.ofChange Rows.scriptPrintsSpec) false w args)
      (Rows.scriptPrintsSpec.post enc Tryz.prog Tryz.f5 false true false false) := by
  refine returnsInHanded_of_change_and (C := Tryz.checked) (X := fun w _ => laidMetH Tryz.prog Rows.scriptPrintsRow.laid w) (fun _ _ _ hh h => h.of_heap hh) own started (by kernel_rfl) Tryz.func5
    (ChangeSpec.witness_shaped (enc := enc) (C := Tryz.checked) (os := os) (X := fun w _ => laidMetH Tryz.prog Rows.scriptPrintsRow.laid w) false (World.laidAll Tryz.prog os Rows.scriptPrintsRow.laid) #[.agg #[.int .i64 0, .int .i64 0, .int .u64 0, .int .u64 0, .int .u64 0], .slice none 0 0] 8 (World.laidAll_os _ _ _)
      (World.shaped_of_RefB (by kernel_rfl) (by kernel_rfl)) (by kernel_rfl) (by kernel_rfl) (by kernel_rfl)
      (by rw [MakeChecks.laidMetH_plain _ _ _ (by kernel_rfl)]; exact laidMet_laidAll _ (by kernel_rfl) (by kernel_rfl))) ?_
  intro W base args ds gs before hval0 hW _ _ hL _
  have hval : ∀ (j : Nat) t v, Tryz.f5.params[j]? = some t → args[j]? = some v → Value.okWide Tryz.prog W .any base t v := hval0
  have hL2 : laidMetH Tryz.prog Rows.scriptPrintsRow.laid W := hL
  rw [show Rows.scriptPrintsRow.laid = Rows.scriptParsesRow.laid from rfl] at hL2
  have hW' := hW
  have hlt := hW.lt
  obtain ⟨p, q, hA0, hV, rfl, hfz, hnd⟩ := hW
  have hA : DataW.TrodAll enc Tryz.prog W 0 (fun _ => true) true Tryz.f5.params.toList args.toList ds p := hA0
  rw [Tryz.params5] at hA hval
  obtain ⟨v0, v1, d0, d1, p0, p1, rfl, rfl, rfl, h0, h1⟩ := trodAll_two hA
  obtain ⟨rfl, rfl⟩ := trodVars_none hV
  obtain ⟨cores, tasks, tick, slice, origin, rfl, hT⟩ := open_cfg (hval 0 25 v0 rfl rfl) h0
  obtain ⟨a1, n1, c1, rfl⟩ := okWide_slice Tryz.underlying26 (hval 1 26 v1 rfl rfl)
  clear hA0 hval0
  simp only [List.append_nil] at hW' hlt
  obtain ⟨f1, g1⟩ := h1
  refine (prints_law hL2 hT g1).mono fun e W' ⟨he, hb⟩ => ?_
  subst he
  have r27 : 26 < Tryz.prog.types.size := of_decide_eq_true rows27
  exact ⟨_, rfl, _, _, _, [], p0 ++ p1, [], hW', trodAll_mk1 (shut_bool Tryz.underlying4 _),
    trodAll_mk2 (Below.trod laidOutP read25 (Nat.lt_trans (Nat.lt_succ_self 25) r27) h0 hb fun x hx => hlt x (by simp [hx]))
      (Below.trod laidOutP read26 r27 ⟨f1, g1⟩ hb fun x hx => hlt x (by simp [hx])), rfl, hb.frame _, fun h => by cases h⟩

theorem p_named2 : Tryz.pinned.checked.prog.funcNamed Rows.scriptPrintsRow.func = some 5 := by kernel_rfl
theorem prints_row : Rows.ScriptPrintsSaid :=
  OpenClaim.holds_of_wide 5 Tryz.f5 rfl rfl rfl rfl rfl rfl rfl ⟨rfl, rfl, rfl, rfl, rfl⟩ rfl rfl rfl rfl rfl p_named2 Tryz.func5 scriptPrintsF.closed
    (of_decide_eq_true (by kernel_rfl)) (by unfold Func.isWrapper; first | (rw [if_pos (by decide +kernel)]; kernel_rfl) | (rw [if_neg (by decide +kernel)]; exact ⟨rfl, rfl⟩))
    (fun os started H enc _ => prints_lifted os started H enc)

theorem p_wf : Rows.scriptPrintsRow.wfByText (OpenSpec.ofChange Rows.scriptPrintsSpec) = true := by kernel_rfl
theorem p_goes : false = Rows.scriptPrintsRow.goesBy Tryz.pinned.checked.prog := goes_by _ rfl
theorem p_named : Tryz.prog.funcNamed "turnstone/turnstonelaw24.ScriptPrints" = some 5 := by kernel_rfl
theorem p_hall : ([25, 26].all fun u => !Tryz.prog.wantsStandIn u) = true := by kernel_rfl

theorem prints_card : Rows.ScriptPrintsCardSaid :=
  Claim7.holds_tied_plain_at .later [] [.data, .data, .data, .data, .sentinel, .sentinel, .pinned] true (true, "65f71336986510874c1221065003c0f858bf1983a03e6056288455256982cd97") true prints_row (fun _ h => by cases h) p_wf (fun _ h => by cases h) scriptPrints_row_tie rfl ⟨rfl, rfl⟩ c_main rfl
    (fun f fn hf hfn => by
      obtain rfl : f = 5 := Option.some.inj (p_named.symm.trans hf) |>.symm
      obtain rfl : fn = Tryz.f5 := (Option.some.inj (Tryz.func5.symm.trans hfn)).symm
      exact ⟨c_looks, fun j t ht => by
        rw [Tryz.params5] at ht
        have hm : t ∈ [25, 26] := by simpa using Array.mem_of_getElem? ht
        exact (show Tryz.prog.wantsStandIn t = false by simpa using List.all_eq_true.1 p_hall t hm)⟩)
    p_goes
#print axioms prints_card
end Go.Proofs.YtkoccbggjfbgaaaGreatDoor
