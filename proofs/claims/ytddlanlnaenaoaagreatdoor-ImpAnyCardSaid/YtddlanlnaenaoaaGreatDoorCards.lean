/-
  DERIVED. GIVEN WITH THE SEED: THE CARDS: each row of YtddlanlnaenaoaaGreatDoorRows.lean that lists a variable, with what it lists TIED to the program's text (the seventh form; the later family's looks); each row that meets fmt, with fmt's text TOLD by the authors' own Lean function (tested against real Go, not proved from fmt's source: count such statements apart). THE CARD IS WHAT COUNTS. Prove the row's statement (the work); the ties are given (YtddlanlnaenaoaaGreatDoorTie.lean); close each card by the builder's one call (the guide's Derived/Test/ToyasCard.lean, 'card_holds'). Laid BY PROGRAM, IN A SANDBOX (cutbox-door.mjs). By AI agents, Wed Nov 11 2026. No macro, syntax, notation, axiom, sorry.
-/
import Derived.Test.YtddlanlnaenaoaaGreatDoorRows
import GoSem.ClaimSeven
namespace Go.Proofs.YtddlanlnaenaoaaGreatDoor
namespace Rows

/-- THE TIED CARD OF 'palimplaw24.ImpAny'. -/
def impAnyCard : Claim7 := { stood := { row := impAnyRow, standIns := [], harness := (true, "9356bf069f0de9ba39ca95fcbf2e1cafdc8fd3eaaa26c6840062d2cc9f5c536e"), looks := false }, kinds := [], alts := [], laidByText := true, laidKinds := [.data, .data, .data], laidTests := true, laidLooks := .later }
def ImpAnyCardSaid : Prop := Claim7.holds Tryz.pinned (.plain (OpenSpec.ofChange impAnySpec)) impAnyCard

/-- THE TIED CARD OF 'palimplaw24.ImpForms'. -/
def impFormsCard : Claim7 := { stood := { row := impFormsRow, standIns := [], harness := (true, "9356bf069f0de9ba39ca95fcbf2e1cafdc8fd3eaaa26c6840062d2cc9f5c536e"), looks := false }, kinds := [], alts := [], laidByText := true, laidKinds := [.data, .data, .data], laidTests := true, laidLooks := .later }
def ImpFormsCardSaid : Prop := Claim7.holds Tryz.pinned (.plain (OpenSpec.ofChange impFormsSpec)) impFormsCard

/-- THE SECOND FORM's CARD OF 'palimplaw24.ImpAny'. -/
def impAnyUptoCard : Claim7 := { stood := { row := impAnyUptoRow, standIns := [], harness := (true, "9356bf069f0de9ba39ca95fcbf2e1cafdc8fd3eaaa26c6840062d2cc9f5c536e"), looks := false }, kinds := [], alts := [], laidByText := true, laidKinds := [.data, .data, .data], laidTests := true, laidLooks := .later }
def ImpAnyUptoCardSaid : Prop := Claim7.holds Tryz.pinned (.plain (OpenSpec.upto impAnySpec)) impAnyUptoCard

/-- THE SECOND FORM's CARD OF 'palimplaw24.ImpForms'. -/
def impFormsUptoCard : Claim7 := { stood := { row := impFormsUptoRow, standIns := [], harness := (true, "9356bf069f0de9ba39ca95fcbf2e1cafdc8fd3eaaa26c6840062d2cc9f5c536e"), looks := false }, kinds := [], alts := [], laidByText := true, laidKinds := [.data, .data, .data], laidTests := true, laidLooks := .later }
def ImpFormsUptoCardSaid : Prop := Claim7.holds Tryz.pinned (.plain (OpenSpec.upto impFormsSpec)) impFormsUptoCard
end Rows
end Go.Proofs.YtddlanlnaenaoaaGreatDoor
