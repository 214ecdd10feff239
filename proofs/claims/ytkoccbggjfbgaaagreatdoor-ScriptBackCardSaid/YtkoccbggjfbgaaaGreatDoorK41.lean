/-
  'ScriptBack' is true of every configuration, all commands and every text, as its given card says; the conditions are the card's own: what it lists as laid, pinned or open.
-/
import Derived.Test.YtkoccbggjfbgaaaGreatDoorK01
import Derived.Test.YtkoccbggjfbgaaaGreatDoorK02
import Derived.Test.YtkoccbggjfbgaaaGreatDoorK40
import Derived.Carry
import Derived.ChangeOld
set_option linter.all false
set_option linter.unusedSimpArgs false
namespace Go.Proofs.YtkoccbggjfbgaaaGreatDoor
open Go.ChangeShapes Go.WideShapes Go.ChangeAt Go.RowKit

theorem read25b : Tryz.prog.readableRec 25 = true := by kernel_rfl
theorem read26b : Tryz.prog.readableRec 26 = true := by kernel_rfl
theorem laidOutB6 : laidOutB Tryz.prog = true := by kernel_rfl
theorem rows27b : decide (26 < Tryz.prog.types.size) = true := by kernel_rfl

set_option maxRecDepth 100000 in
theorem back_lifted (os : Os) (started : os.Started) (H : Type) (enc : TypeId × Value → H) :
    ReturnsInHanded {} Tryz.checked os 6 .any (fun w args => (Rows.scriptBackSpec.pre enc Tryz.prog Tryz.f6 [] false w args ∧ laidMetH Tryz.prog Rows.scriptBackRow.laid w) ∧ sizedMet enc Tryz.prog Tryz.f6 (OpenSpec.ofChange Rows.scriptBackSpec) false w args)
      (Rows.scriptBackSpec.post enc Tryz.prog Tryz.f6 false true false false) := by
  refine returnsInHanded_of_change_and (C := Tryz.checked) (X := fun w _ => laidMetH Tryz.prog Rows.scriptBackRow.laid w) (fun _ _ _ hh h => h.of_heap hh) own started (by kernel_rfl) Tryz.func6
    (ChangeSpec.witness_shaped (enc := enc) (C := Tryz.checked) (os := os) (X := fun w _ => laidMetH Tryz.prog Rows.scriptBackRow.laid w) false (World.laidAll Tryz.prog os Rows.scriptBackRow.laid) #[.agg #[.int .i64 0, .int .i64 0, .int .u64 0, .int .u64 0, .int .u64 0], .slice none 0 0, .string ⟨#[]⟩] 8 (World.laidAll_os _ _ _)
      (World.shaped_of_RefB (by kernel_rfl) (by kernel_rfl)) (by kernel_rfl) (by kernel_rfl) (by kernel_rfl)
      (by rw [MakeChecks.laidMetH_plain _ _ _ (by kernel_rfl)]; exact laidMet_laidAll _ (by kernel_rfl) (by kernel_rfl))) ?_
  intro W base args ds gs before hval0 hW _ _ hL _
  have hval : ∀ (j : Nat) t v, Tryz.f6.params[j]? = some t → args[j]? = some v → Value.okWide Tryz.prog W .any base t v := hval0
  have hL2 : laidMetH Tryz.prog Rows.scriptBackRow.laid W := hL
  rw [show Rows.scriptBackRow.laid = Rows.scriptParsesRow.laid from rfl] at hL2
  have hW' := hW
  have hlt := hW.lt
  obtain ⟨p, q, hA0, hV, rfl, hfz, hnd⟩ := hW
  have hA : DataW.TrodAll enc Tryz.prog W 0 (fun _ => true) true Tryz.f6.params.toList args.toList ds p := hA0
  rw [Tryz.params6] at hA hval
  obtain ⟨v0, v1, v2, d0, d1, d2, p0, p1, p2, rfl, rfl, rfl, h0, h1, h2⟩ := trodAll_three hA
  obtain ⟨rfl, rfl⟩ := trodVars_none hV
  obtain ⟨cores, tasks, tick, slice, origin, rfl, hT⟩ := open_cfg (hval 0 25 v0 rfl rfl) h0
  obtain ⟨a1, n1, c1, rfl⟩ := okWide_slice Tryz.underlying26 (hval 1 26 v1 rfl rfl)
  obtain ⟨s, rfl, rfl, rfl, hs⟩ := Go.ChangeMaps.open_string Tryz.underlying9 (hval 2 9 v2 rfl rfl) h2
  clear hA0 hval0
  simp only [List.append_nil] at hW' hlt
  obtain ⟨f1, g1⟩ := h1
  refine (back_law hL2 hT s g1).mono fun e W' ⟨he, hb⟩ => ?_
  subst he
  have r27 : 26 < Tryz.prog.types.size := of_decide_eq_true rows27b
  exact ⟨_, rfl, _, _, _, [], p0 ++ (p1 ++ []), [], hW', trodAll_mk1 (shut_bool Tryz.underlying4 _),
    trodAll_mk3 (Below.trod laidOutB6 read25b (Nat.lt_trans (Nat.lt_succ_self 25) r27) h0 hb fun x hx => hlt x (by simp [hx]))
      (Below.trod laidOutB6 read26b r27 ⟨f1, g1⟩ hb fun x hx => hlt x (by simp [hx])) (Go.ChangeMaps.shut_string Tryz.underlying9 hs), rfl, hb.frame _, fun h => by cases h⟩

theorem b_named2 : Tryz.pinned.checked.prog.funcNamed Rows.scriptBackRow.func = some 6 := by kernel_rfl
theorem back_row : Rows.ScriptBackSaid :=
  OpenClaim.holds_of_wide 6 Tryz.f6 rfl rfl rfl rfl rfl rfl rfl ⟨rfl, rfl, rfl, rfl, rfl⟩ rfl rfl rfl rfl rfl b_named2 Tryz.func6 scriptBackF.closed
    (of_decide_eq_true (by kernel_rfl)) (by unfold Func.isWrapper; first | (rw [if_pos (by decide +kernel)]; kernel_rfl) | (rw [if_neg (by decide +kernel)]; exact ⟨rfl, rfl⟩))
    (fun os started H enc _ => back_lifted os started H enc)

theorem b_wf : Rows.scriptBackRow.wfByText (OpenSpec.ofChange Rows.scriptBackSpec) = true := by kernel_rfl
theorem b_goes : false = Rows.scriptBackRow.goesBy Tryz.pinned.checked.prog := goes_by _ rfl
theorem b_named : Tryz.prog.funcNamed "turnstone/turnstonelaw24.ScriptBack" = some 6 := by kernel_rfl
theorem b_hall : ([25, 26, 9].all fun u => !Tryz.prog.wantsStandIn u) = true := by kernel_rfl

theorem back_card : Rows.ScriptBackCardSaid :=
  Claim7.holds_tied_plain_at .later [] [.data, .data, .data, .data, .sentinel, .sentinel, .pinned] true (true, "65f71336986510874c1221065003c0f858bf1983a03e6056288455256982cd97") true back_row (fun _ h => by cases h) b_wf (fun _ h => by cases h) scriptBack_row_tie rfl ⟨rfl, rfl⟩ c_main rfl
    (fun f fn hf hfn => by
      obtain rfl : f = 6 := Option.some.inj (b_named.symm.trans hf) |>.symm
      obtain rfl : fn = Tryz.f6 := (Option.some.inj (Tryz.func6.symm.trans hfn)).symm
      exact ⟨c_looks, fun j t ht => by
        rw [Tryz.params6] at ht
        have hm : t ∈ [25, 26, 9] := by simpa using Array.mem_of_getElem? ht
        exact (show Tryz.prog.wantsStandIn t = false by simpa using List.all_eq_true.1 b_hall t hm)⟩)
    b_goes
#print axioms back_card
end Go.Proofs.YtkoccbggjfbgaaaGreatDoor
