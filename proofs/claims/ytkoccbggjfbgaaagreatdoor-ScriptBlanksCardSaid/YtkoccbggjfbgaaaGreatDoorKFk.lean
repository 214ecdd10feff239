/-
  'ScriptBlanks' is true of every string and every byte, as its given card says; the conditions are the card's own: what it lists as laid, pinned or open.
-/
import Derived.Test.YtkoccbggjfbgaaaGreatDoorKFc
import Derived.Test.YtkoccbggjfbgaaaGreatDoorKFo
import Derived.Test.YtkoccbggjfbgaaaGreatDoorKPk
set_option linter.all false
set_option linter.unusedSimpArgs false
namespace Go.Proofs.YtkoccbggjfbgaaaGreatDoor
open Go.ChangeShapes Go.WideShapes Go.ChangeAt Go.RowKit

theorem byte_nat {n : Int} (h : (Lit.int .u8 n).wf = true) : ∃ m : Nat, m < 256 ∧ n = Int.ofNat m := by
  simp only [Lit.wf, Bool.and_eq_true, decide_eq_true_eq] at h
  have h0 : (0 : Int) ≤ n := h.1
  have h1 : n ≤ 255 := h.2
  exact ⟨n.toNat, by omega, by show n = ((n.toNat : Nat) : Int); omega⟩

set_option maxRecDepth 100000 in
theorem blanks_lifted (os : Os) (started : os.Started) (H : Type) (enc : TypeId × Value → H) :
    ReturnsInHanded {} Tryz.checked os 4 .any (fun w args => (Rows.scriptBlanksSpec.pre enc Tryz.prog Tryz.f4 [] false w args ∧ laidMetH Tryz.prog Rows.scriptBlanksRow.laid w) ∧ sizedMet enc Tryz.prog Tryz.f4 (OpenSpec.ofChange Rows.scriptBlanksSpec) false w args)
      (Rows.scriptBlanksSpec.post enc Tryz.prog Tryz.f4 false true false false) := by
  refine returnsInHanded_of_calls (C := Tryz.checked) own started (by kernel_rfl)
    (ChangeSpec.witness_shaped (enc := enc) (C := Tryz.checked) (os := os) (X := fun w _ => laidMetH Tryz.prog Rows.scriptBlanksRow.laid w) false (World.laidAll Tryz.prog os Rows.scriptBlanksRow.laid) #[.string ⟨#[]⟩, .int .u8 0] 8 (World.laidAll_os _ _ _)
      (World.shaped_of_RefB (by kernel_rfl) (by kernel_rfl)) (by kernel_rfl) (by kernel_rfl) (by kernel_rfl)
      (by rw [MakeChecks.laidMetH_plain _ _ _ (by kernel_rfl)]; exact laidMet_laidAll _ (by kernel_rfl) (by kernel_rfl))) ?_
  intro w tape i _ hsh _ hok hpre _
  obtain ⟨_, _, _, fn', hfn', _, _, _, _, hval0⟩ := hok
  obtain rfl : fn' = Tryz.f4 := Option.some.inj (hfn'.symm.trans Tryz.func4)
  obtain ⟨⟨⟨ds, gs, before, hw0, _⟩, hL0⟩, _⟩ := hpre
  have hL : laidMetH Tryz.prog Rows.scriptBlanksRow.laid (w.forCall tape i) := laidMetH.of_heap (by rfl) hL0
  rw [show Rows.scriptBlanksRow.laid = Rows.scriptParsesRow.laid from rfl] at hL
  have hW := DataW.Whole.of_heap (w' := w.forCall tape i) (by rfl) hw0
  generalize w.forCall tape i = W at hsh hL hW hval0 ⊢
  generalize i.args = args at hW hval0 ⊢
  have hval : ∀ (j : Nat) t v, Tryz.f4.params[j]? = some t → args[j]? = some v → Value.okWide Tryz.prog W .any w.heap.size t v := hval0
  have hW' := hW
  obtain ⟨p, q, hA0, hV, rfl, hfz, hnd⟩ := hW
  have hA : DataW.TrodAll enc Tryz.prog W 0 (fun _ => true) true Tryz.f4.params.toList args.toList ds p := hA0
  rw [Tryz.params4] at hA hval
  obtain ⟨v0, v1, d0, d1, p0, p1, rfl, rfl, rfl, h0, h1⟩ := trodAll_two hA
  obtain ⟨rfl, rfl⟩ := trodVars_none hV
  obtain ⟨s, rfl, rfl, rfl, hs⟩ := Go.ChangeMaps.open_string Tryz.underlying9 (hval 0 9 v0 rfl rfl) h0
  obtain ⟨n, rfl, rfl, rfl, hwf⟩ := open_int Tryz.underlying5 (hval 1 5 v1 rfl rfl) h1
  clear hA0 hval0
  simp only [List.append_nil] at hW'
  obtain ⟨m, hm, rfl⟩ := byte_nat hwf
  refine (blanks_law s m hm W hL hsh).mono fun e W' ⟨he, hb⟩ => ?_
  subst he
  exact ChangeSpec.post_blind ⟨_, _, _, [], [], [], hW', trodAll_mk1 (shut_bool Tryz.underlying4 _), trodAll_mk2 (Go.ChangeMaps.shut_string Tryz.underlying9 hs) (shut_int Tryz.underlying5 hwf), rfl, hb.frame _, fun h => by cases h⟩

theorem b_named2 : Tryz.pinned.checked.prog.funcNamed Rows.scriptBlanksRow.func = some 4 := by kernel_rfl
theorem blanks_row : Rows.ScriptBlanksSaid :=
  OpenClaim.holds_of_wide 4 Tryz.f4 rfl rfl rfl rfl rfl rfl rfl ⟨rfl, rfl, rfl, rfl, rfl⟩ rfl rfl rfl rfl rfl b_named2 Tryz.func4 scriptBlanksF.closed
    (of_decide_eq_true (by kernel_rfl)) (by unfold Func.isWrapper; first | (rw [if_pos (by decide +kernel)]; kernel_rfl) | (rw [if_neg (by decide +kernel)]; exact ⟨rfl, rfl⟩))
    (fun os started H enc _ => blanks_lifted os started H enc)

theorem b_wf : Rows.scriptBlanksRow.wfByText (OpenSpec.ofChange Rows.scriptBlanksSpec) = true := by kernel_rfl
theorem b_goes : false = Rows.scriptBlanksRow.goesBy Tryz.pinned.checked.prog := goes_by _ rfl
theorem b_named : Tryz.prog.funcNamed "turnstone/turnstonelaw24.ScriptBlanks" = some 4 := by kernel_rfl
theorem b_hall : ([9, 5].all fun u => !Tryz.prog.wantsStandIn u) = true := by kernel_rfl

theorem blanks_card : Rows.ScriptBlanksCardSaid :=
  Claim7.holds_tied_plain_at .later [] [.data, .data, .data, .data, .sentinel, .sentinel, .pinned] true (true, "65f71336986510874c1221065003c0f858bf1983a03e6056288455256982cd97") true blanks_row (fun _ h => by cases h) b_wf (fun _ h => by cases h) scriptBlanks_row_tie rfl ⟨rfl, rfl⟩ c_main rfl
    (fun f fn hf hfn => by
      obtain rfl : f = 4 := Option.some.inj (b_named.symm.trans hf) |>.symm
      obtain rfl : fn = Tryz.f4 := (Option.some.inj (Tryz.func4.symm.trans hfn)).symm
      exact ⟨c_looks, fun j t ht => by
        rw [Tryz.params4] at ht
        have hm : t ∈ [9, 5] := by simpa using Array.mem_of_getElem? ht
        exact (show Tryz.prog.wantsStandIn t = false by simpa using List.all_eq_true.1 b_hall t hm)⟩)
    b_goes
#print axioms blanks_card
end Go.Proofs.YtkoccbggjfbgaaaGreatDoor
