/-
  DERIVED. GIVEN WITH THE SEED: THE CARDS: each row of YtbngojdlgfhacaaGreatDoorRows.lean that lists a variable, with what it lists TIED to the program's text (the seventh form; the later family's looks); each row that meets fmt, with fmt's text TOLD by the authors' own Lean function (tested against real Go, not proved from fmt's source: count such statements apart). THE CARD IS WHAT COUNTS. Prove the row's statement (the work); the ties are given (YtbngojdlgfhacaaGreatDoorTie.lean); close each card by the builder's one call (the guide's Derived/Test/ToyasCard.lean, 'card_holds'). Laid BY PROGRAM, IN A SANDBOX (cutbox-door.mjs). By AI agents, Wed Nov 11 2026. No macro, syntax, notation, axiom, sorry.
-/
import Derived.Test.YtbngojdlgfhacaaGreatDoorRows
import GoSem.ClaimSeven
namespace Go.Proofs.YtbngojdlgfhacaaGreatDoor
namespace Rows

/-- THE TIED CARD OF 'palimplaw22.PoolForms'. -/
def poolFormsCard : Claim7 := { stood := { row := poolFormsRow, standIns := [], harness := (true, "92f03e7c09c232507560d9b87bd9170ae00e8342df5af687cbe108059c469484"), looks := false }, kinds := [], alts := [], laidByText := true, laidKinds := [.data, .data, .data], laidTests := true, laidLooks := .later }
def PoolFormsCardSaid : Prop := Claim7.holds Tryz.pinned (.plain (OpenSpec.ofChange poolFormsSpec)) poolFormsCard

/-- THE SECOND FORM's CARD OF 'palimplaw22.PoolForms'. -/
def poolFormsUptoCard : Claim7 := { stood := { row := poolFormsUptoRow, standIns := [], harness := (true, "92f03e7c09c232507560d9b87bd9170ae00e8342df5af687cbe108059c469484"), looks := false }, kinds := [], alts := [], laidByText := true, laidKinds := [.data, .data, .data], laidTests := true, laidLooks := .later }
def PoolFormsUptoCardSaid : Prop := Claim7.holds Tryz.pinned (.plain (OpenSpec.upto poolFormsSpec)) poolFormsUptoCard
end Rows
end Go.Proofs.YtbngojdlgfhacaaGreatDoor
