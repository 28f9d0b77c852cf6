/-
  DERIVED. GIVEN WITH THE SEED: THE CARDS: each row of YtahmkkjcchnonaaGreatDoorRows.lean that lists a variable, with what it lists TIED to the program's text (the seventh form; the later family's looks); each row that meets fmt, with fmt's text TOLD by the authors' own Lean function (tested against real Go, not proved from fmt's source: count such statements apart). THE CARD IS WHAT COUNTS. Prove the row's statement (the work); the ties are given (YtahmkkjcchnonaaGreatDoorTie.lean); close each card by the builder's one call (the guide's Derived/Test/ToyasCard.lean, 'card_holds'). Laid BY PROGRAM, IN A SANDBOX (cutbox-door.mjs). By AI agents, Wed Nov 11 2026. No macro, syntax, notation, axiom, sorry.
-/
import Derived.Test.YtahmkkjcchnonaaGreatDoorRows
import GoSem.ClaimSeven
namespace Go.Proofs.YtahmkkjcchnonaaGreatDoor
namespace Rows

/-- THE TIED CARD OF 'palimplaw20.TreeAgrees'. -/
def treeAgreesCard : Claim7 := { stood := { row := treeAgreesRow, standIns := [], harness := (true, "5fd2000d3e5dc5e637b9e53793e6159ef87f55f5d95d94780251a2f3f1cea860"), looks := false }, kinds := [], alts := [], laidByText := true, laidKinds := [.data, .data, .data], laidTests := true, laidLooks := .later }
def TreeAgreesCardSaid : Prop := Claim7.holds Tryz.pinned (.plain (OpenSpec.ofChange treeAgreesSpec)) treeAgreesCard

/-- THE SECOND FORM's CARD OF 'palimplaw20.TreeAgrees'. -/
def treeAgreesUptoCard : Claim7 := { stood := { row := treeAgreesUptoRow, standIns := [], harness := (true, "5fd2000d3e5dc5e637b9e53793e6159ef87f55f5d95d94780251a2f3f1cea860"), looks := false }, kinds := [], alts := [], laidByText := true, laidKinds := [.data, .data, .data], laidTests := true, laidLooks := .later }
def TreeAgreesUptoCardSaid : Prop := Claim7.holds Tryz.pinned (.plain (OpenSpec.upto treeAgreesSpec)) treeAgreesUptoCard
end Rows
end Go.Proofs.YtahmkkjcchnonaaGreatDoor
