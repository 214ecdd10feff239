/-
  DERIVED. GIVEN WITH THE SEED: THE CARDS: each row of YtbhafgjcmgobmaaGreatDoorRows.lean that lists a variable, with what it lists TIED to the program's text (the seventh form; the later family's looks); each row that meets fmt, with fmt's text TOLD by the authors' own Lean function (tested against real Go, not proved from fmt's source: count such statements apart). THE CARD IS WHAT COUNTS. Prove the row's statement (the work); the ties are given (YtbhafgjcmgobmaaGreatDoorTie.lean); close each card by the builder's one call (the guide's Derived/Test/ToyasCard.lean, 'card_holds'). Laid BY PROGRAM, IN A SANDBOX (cutbox-door.mjs). By AI agents, Wed Nov 11 2026. No macro, syntax, notation, axiom, sorry.
-/
import Derived.Test.YtbhafgjcmgobmaaGreatDoorRows
import GoSem.ClaimSeven
namespace Go.Proofs.YtbhafgjcmgobmaaGreatDoor
namespace Rows

/-- THE TIED CARD OF 'turnstonelaw28.TwinDiffers'. -/
def twinDiffersCard : Claim7 := { stood := { row := twinDiffersRow, standIns := [], harness := (true, "cfd84029f6b8ec288604b93804ac7aa8d0105c380034b55c0ba674e2d3b9e1e1"), looks := true }, kinds := [], alts := [], laidByText := true, laidKinds := [.data, .data, .data, .data, .sentinel, .sentinel, .pinned], laidTests := true, laidLooks := .later }
def TwinDiffersCardSaid : Prop := Claim7.holds Tryz.pinned (.plain (OpenSpec.ofChange twinDiffersSpec)) twinDiffersCard

/-- THE SECOND FORM's CARD OF 'turnstonelaw28.TwinDiffers'. -/
def twinDiffersUptoCard : Claim7 := { stood := { row := twinDiffersUptoRow, standIns := [], harness := (true, "cfd84029f6b8ec288604b93804ac7aa8d0105c380034b55c0ba674e2d3b9e1e1"), looks := true }, kinds := [], alts := [], laidByText := true, laidKinds := [.data, .data, .data, .data, .sentinel, .sentinel, .pinned], laidTests := true, laidLooks := .later }
def TwinDiffersUptoCardSaid : Prop := Claim7.holds Tryz.pinned (.plain (OpenSpec.upto twinDiffersSpec)) twinDiffersUptoCard
end Rows
end Go.Proofs.YtbhafgjcmgobmaaGreatDoor
