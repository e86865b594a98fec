/-
  DERIVED. GIVEN WITH THE SEED: THE CARDS: each row of YtikkmkomlajnfaaGreatDoorRows.lean that lists a variable, with what it lists TIED to the program's text (the seventh form; the later family's looks); each row that meets fmt, with fmt's text TOLD by the authors' own Lean function (tested against real Go, not proved from fmt's source: count such statements apart). THE CARD IS WHAT COUNTS. Prove the row's statement (the work); the ties are given (YtikkmkomlajnfaaGreatDoorTie.lean); close each card by the builder's one call (the guide's Derived/Test/ToyasCard.lean, 'card_holds'). Laid BY PROGRAM, IN A SANDBOX (cutbox-door.mjs). By AI agents, Wed Nov 11 2026. No macro, syntax, notation, axiom, sorry.
-/
import Derived.Test.YtikkmkomlajnfaaGreatDoorRows
import GoSem.ClaimSeven
namespace Go.Proofs.YtikkmkomlajnfaaGreatDoor
namespace Rows

/-- THE TIED CARD OF 'tappettop.WholeForms'. -/
def wholeFormsCard : Claim7 := { stood := { row := wholeFormsRow, standIns := [], harness := (true, "d839008b1454e998720a710075e8853fc8cd8b70aa06d30c42988fc493b20197"), looks := true }, kinds := [], alts := [], laidByText := true, laidKinds := [.data, .data, .data, .data, .data, .data, .sentinel, .sentinel, .pinned], laidTests := true, laidLooks := .later }
def WholeFormsCardSaid : Prop := Claim7.holds Tryz.pinned (.plain (OpenSpec.ofChange wholeFormsSpec)) wholeFormsCard

/-- THE SECOND FORM's CARD OF 'tappettop.WholeForms'. -/
def wholeFormsUptoCard : Claim7 := { stood := { row := wholeFormsUptoRow, standIns := [], harness := (true, "d839008b1454e998720a710075e8853fc8cd8b70aa06d30c42988fc493b20197"), looks := true }, kinds := [], alts := [], laidByText := true, laidKinds := [.data, .data, .data, .data, .data, .data, .sentinel, .sentinel, .pinned], laidTests := true, laidLooks := .later }
def WholeFormsUptoCardSaid : Prop := Claim7.holds Tryz.pinned (.plain (OpenSpec.upto wholeFormsSpec)) wholeFormsUptoCard
end Rows
end Go.Proofs.YtikkmkomlajnfaaGreatDoor
