/-
  'TwinDiffers' is true of all slices of strings, as its given card says; the conditions are the card's own: what it lists as laid, pinned or open.
-/
import Derived.Test.YtbhafgjcmgobmaaGreatDoorKFb
import Derived.Test.YtbhafgjcmgobmaaGreatDoorKFo
import Derived.Test.YtbhafgjcmgobmaaGreatDoorKTj
import Derived.Carry
import Derived.ChangeOld
set_option linter.all false
set_option linter.unusedSimpArgs false
namespace Go.Proofs.YtbhafgjcmgobmaaGreatDoor
open Go.ChangeShapes Go.WideShapes Go.ChangeAt Go.RowKit

theorem read22 : Tryz.prog.readableRec 22 = true := by kernel_rfl
theorem read23 : Tryz.prog.readableRec 23 = true := by kernel_rfl
theorem laidOut : laidOutB Tryz.prog = true := by kernel_rfl
theorem rows24 : decide (23 < Tryz.prog.types.size) = true := by kernel_rfl

set_option maxRecDepth 100000 in
theorem twin_lifted (os : Os) (started : os.Started) (H : Type) (enc : TypeId × Value → H) :
    ReturnsInHanded {} Tryz.checked os 3 .any (fun w args => (Rows.twinDiffersSpec.pre enc Tryz.prog Tryz.f3 [] false w args ∧ laidMetH Tryz.prog Rows.twinDiffersRow.laid w) ∧ sizedMet enc Tryz.prog Tryz.f3 (OpenSpec.ofChange Rows.twinDiffersSpec) false w args)
      (Rows.twinDiffersSpec.post enc Tryz.prog Tryz.f3 false true false false) := by
  refine returnsInHanded_of_change_and (C := Tryz.checked) (X := fun w _ => laidMetH Tryz.prog Rows.twinDiffersRow.laid w) (fun _ _ _ hh h => h.of_heap hh) own started (by kernel_rfl) Tryz.func3
    (ChangeSpec.witness_shaped (enc := enc) (C := Tryz.checked) (os := os) (X := fun w _ => laidMetH Tryz.prog Rows.twinDiffersRow.laid w) false (World.laidAll Tryz.prog os Rows.twinDiffersRow.laid) #[.slice none 0 0, .slice none 0 0, .slice none 0 0] 8 (World.laidAll_os _ _ _)
      (World.shaped_of_RefB (by kernel_rfl) (by kernel_rfl)) (by kernel_rfl) (by kernel_rfl) (by kernel_rfl)
      (by rw [MakeChecks.laidMetH_plain _ _ _ (by kernel_rfl)]; exact laidMet_laidAll _ (by kernel_rfl) (by kernel_rfl))) ?_
  intro W base args ds gs before hval0 hW _ _ hL _
  have hval : ∀ (j : Nat) t v, Tryz.f3.params[j]? = some t → args[j]? = some v → Value.okWide Tryz.prog W .any base t v := hval0
  have hW' := hW
  have hlt := hW.lt
  obtain ⟨p, q, hA0, hV, rfl, hfz, hnd⟩ := hW
  have hA : DataW.TrodAll enc Tryz.prog W 0 (fun _ => true) true Tryz.f3.params.toList args.toList ds p := hA0
  rw [Tryz.params3] at hA hval
  obtain ⟨v0, v1, v2, d0, d1, d2, p0, p1, p2, rfl, rfl, rfl, h0, h1, h2⟩ := trodAll_three hA
  obtain ⟨rfl, rfl⟩ := trodVars_none hV
  obtain ⟨a0, n0, c0, rfl⟩ := okWide_slice Tryz.underlying22 (hval 0 22 v0 rfl rfl)
  obtain ⟨a1, n1, c1, rfl⟩ := okWide_slice Tryz.underlying22 (hval 1 22 v1 rfl rfl)
  obtain ⟨a2, n2, c2, rfl⟩ := okWide_slice Tryz.underlying23 (hval 2 23 v2 rfl rfl)
  clear hA0 hval0
  simp only [List.append_nil] at hW' hlt
  obtain ⟨f0, g0⟩ := h0
  obtain ⟨f1, g1⟩ := h1
  obtain ⟨f2, g2⟩ := h2
  refine (twin_law g0 g1 g2).mono fun e W' ⟨he, hb⟩ => ?_
  subst he
  have r24 : 23 < Tryz.prog.types.size := of_decide_eq_true rows24
  exact ⟨_, rfl, _, _, _, [], p0 ++ (p1 ++ p2), [], hW', trodAll_mk1 (shut_bool Tryz.underlying4 _),
    trodAll_mk3 (Below.trod laidOut read22 (Nat.lt_trans (Nat.lt_succ_self 22) r24) ⟨f0, g0⟩ hb fun x hx => hlt x (by simp [hx]))
      (Below.trod laidOut read22 (Nat.lt_trans (Nat.lt_succ_self 22) r24) ⟨f1, g1⟩ hb fun x hx => hlt x (by simp [hx]))
      (Below.trod laidOut read23 r24 ⟨f2, g2⟩ hb fun x hx => hlt x (by simp [hx])), rfl, hb.frame _, fun h => by cases h⟩

theorem c_named2 : Tryz.pinned.checked.prog.funcNamed Rows.twinDiffersRow.func = some 3 := by kernel_rfl
theorem twin_row : Rows.TwinDiffersSaid :=
  OpenClaim.holds_of_wide 3 Tryz.f3 rfl rfl rfl rfl rfl rfl rfl ⟨rfl, rfl, rfl, rfl, rfl⟩ rfl rfl rfl rfl rfl c_named2 Tryz.func3 twinDiffersF.closed
    (of_decide_eq_true (by kernel_rfl)) (by unfold Func.isWrapper; first | (rw [if_pos (by decide +kernel)]; kernel_rfl) | (rw [if_neg (by decide +kernel)]; exact ⟨rfl, rfl⟩))
    (fun os started H enc _ => twin_lifted os started H enc)

theorem c_wf : Rows.twinDiffersRow.wfByText (OpenSpec.ofChange Rows.twinDiffersSpec) = true := by kernel_rfl
theorem c_goes : false = Rows.twinDiffersRow.goesBy Tryz.pinned.checked.prog := goes_by _ rfl
theorem c_named : Tryz.prog.funcNamed "turnstone/turnstonelaw28.TwinDiffers" = some 3 := by kernel_rfl
theorem c_hall : ([22, 23].all fun u => !Tryz.prog.wantsStandIn u) = true := by kernel_rfl

theorem twin_card : Rows.TwinDiffersCardSaid :=
  Claim7.holds_tied_plain_at .later [] [.data, .data, .data, .data, .sentinel, .sentinel, .pinned] true (true, "cfd84029f6b8ec288604b93804ac7aa8d0105c380034b55c0ba674e2d3b9e1e1") true twin_row (fun _ h => by cases h) c_wf (fun _ h => by cases h) twinDiffers_row_tie rfl ⟨rfl, rfl⟩ c_main rfl
    (fun f fn hf hfn => by
      obtain rfl : f = 3 := Option.some.inj (c_named.symm.trans hf) |>.symm
      obtain rfl : fn = Tryz.f3 := (Option.some.inj (Tryz.func3.symm.trans hfn)).symm
      exact ⟨c_looks, fun j t ht => by
        rw [Tryz.params3] at ht
        have hm : t ∈ [22, 23] := by
          have : t ∈ [22, 22, 23] := by simpa using Array.mem_of_getElem? ht
          simpa using this
        exact (show Tryz.prog.wantsStandIn t = false by simpa using List.all_eq_true.1 c_hall t hm)⟩)
    c_goes
#print axioms twin_card
end Go.Proofs.YtbhafgjcmgobmaaGreatDoor
