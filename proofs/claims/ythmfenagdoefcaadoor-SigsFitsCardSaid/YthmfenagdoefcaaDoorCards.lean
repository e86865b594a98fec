/-
  DERIVED. GIVEN WITH THE SEED: THE CARDS: each row of YthmfenagdoefcaaDoorRows.lean that lists a variable, with what it lists TIED to the program's text (the seventh form; the later family's looks); each row that meets fmt, with fmt's text TOLD by the authors' own Lean function (tested against real Go, not proved from fmt's source: count such statements apart). THE CARD IS WHAT COUNTS. Prove the row's statement (the work); the ties are given (YthmfenagdoefcaaDoorTie.lean); close each card by the builder's one call (the guide's Derived/Test/ToyasCard.lean, 'card_holds'). Laid BY PROGRAM, IN A SANDBOX (cutbox-door.mjs). By AI agents, Wed Nov 11 2026. No macro, syntax, notation, axiom, sorry.
-/
import Derived.Test.YthmfenagdoefcaaDoorRows
import GoSem.ClaimSeven
namespace Go.Proofs.YthmfenagdoefcaaDoor
namespace Rows

/-- THE TIED CARD OF 'tappetlaw08.SigsArgs'. -/
def sigsArgsCard : Claim7 := { stood := { row := sigsArgsRow, standIns := [], harness := (true, "d108250a7faacb0a55a017e2996d4b6a4a7521d46d192695af7859e7ce8e0770"), looks := false }, kinds := [], alts := [], laidByText := true, laidKinds := [.data], laidTests := true, laidLooks := .later }
def SigsArgsCardSaid : Prop := Claim7.holds Tryd.pinned (.plain (OpenSpec.ofChange sigsArgsSpec)) sigsArgsCard

/-- THE TIED CARD OF 'tappetlaw08.SigsChecks'. -/
def sigsChecksCard : Claim7 := { stood := { row := sigsChecksRow, standIns := [], harness := (true, "d108250a7faacb0a55a017e2996d4b6a4a7521d46d192695af7859e7ce8e0770"), looks := false }, kinds := [], alts := [], laidByText := true, laidKinds := [.data], laidTests := true, laidLooks := .later }
def SigsChecksCardSaid : Prop := Claim7.holds Tryd.pinned (.plain (OpenSpec.ofChange sigsChecksSpec)) sigsChecksCard

/-- THE TIED CARD OF 'tappetlaw08.SigsFits'. -/
def sigsFitsCard : Claim7 := { stood := { row := sigsFitsRow, standIns := [], harness := (true, "d108250a7faacb0a55a017e2996d4b6a4a7521d46d192695af7859e7ce8e0770"), looks := false }, kinds := [], alts := [], laidByText := true, laidKinds := [.data], laidTests := true, laidLooks := .later }
def SigsFitsCardSaid : Prop := Claim7.holds Tryd.pinned (.plain (OpenSpec.ofChange sigsFitsSpec)) sigsFitsCard

/-- THE TIED CARD OF 'tappetlaw08.SigsValues'. -/
def sigsValuesCard : Claim7 := { stood := { row := sigsValuesRow, standIns := [], harness := (true, "d108250a7faacb0a55a017e2996d4b6a4a7521d46d192695af7859e7ce8e0770"), looks := false }, kinds := [], alts := [], laidByText := true, laidKinds := [.data], laidTests := true, laidLooks := .later }
def SigsValuesCardSaid : Prop := Claim7.holds Tryd.pinned (.plain (OpenSpec.ofChange sigsValuesSpec)) sigsValuesCard

/-- THE TIED CARD OF 'tappetlaw08.SigsNames'. -/
def sigsNamesCard : Claim7 := { stood := { row := sigsNamesRow, standIns := [], harness := (true, "d108250a7faacb0a55a017e2996d4b6a4a7521d46d192695af7859e7ce8e0770"), looks := false }, kinds := [], alts := [], laidByText := true, laidKinds := [.data], laidTests := true, laidLooks := .later }
def SigsNamesCardSaid : Prop := Claim7.holds Tryd.pinned (.plain (OpenSpec.ofChange sigsNamesSpec)) sigsNamesCard

/-- THE SECOND FORM's CARD OF 'tappetlaw08.SigsArgs'. -/
def sigsArgsUptoCard : Claim7 := { stood := { row := sigsArgsUptoRow, standIns := [], harness := (true, "d108250a7faacb0a55a017e2996d4b6a4a7521d46d192695af7859e7ce8e0770"), looks := false }, kinds := [], alts := [], laidByText := true, laidKinds := [.data], laidTests := true, laidLooks := .later }
def SigsArgsUptoCardSaid : Prop := Claim7.holds Tryd.pinned (.plain (OpenSpec.upto sigsArgsSpec)) sigsArgsUptoCard

/-- THE SECOND FORM's CARD OF 'tappetlaw08.SigsChecks'. -/
def sigsChecksUptoCard : Claim7 := { stood := { row := sigsChecksUptoRow, standIns := [], harness := (true, "d108250a7faacb0a55a017e2996d4b6a4a7521d46d192695af7859e7ce8e0770"), looks := false }, kinds := [], alts := [], laidByText := true, laidKinds := [.data], laidTests := true, laidLooks := .later }
def SigsChecksUptoCardSaid : Prop := Claim7.holds Tryd.pinned (.plain (OpenSpec.upto sigsChecksSpec)) sigsChecksUptoCard

/-- THE SECOND FORM's CARD OF 'tappetlaw08.SigsFits'. -/
def sigsFitsUptoCard : Claim7 := { stood := { row := sigsFitsUptoRow, standIns := [], harness := (true, "d108250a7faacb0a55a017e2996d4b6a4a7521d46d192695af7859e7ce8e0770"), looks := false }, kinds := [], alts := [], laidByText := true, laidKinds := [.data], laidTests := true, laidLooks := .later }
def SigsFitsUptoCardSaid : Prop := Claim7.holds Tryd.pinned (.plain (OpenSpec.upto sigsFitsSpec)) sigsFitsUptoCard

/-- THE SECOND FORM's CARD OF 'tappetlaw08.SigsValues'. -/
def sigsValuesUptoCard : Claim7 := { stood := { row := sigsValuesUptoRow, standIns := [], harness := (true, "d108250a7faacb0a55a017e2996d4b6a4a7521d46d192695af7859e7ce8e0770"), looks := false }, kinds := [], alts := [], laidByText := true, laidKinds := [.data], laidTests := true, laidLooks := .later }
def SigsValuesUptoCardSaid : Prop := Claim7.holds Tryd.pinned (.plain (OpenSpec.upto sigsValuesSpec)) sigsValuesUptoCard

/-- THE SECOND FORM's CARD OF 'tappetlaw08.SigsNames'. -/
def sigsNamesUptoCard : Claim7 := { stood := { row := sigsNamesUptoRow, standIns := [], harness := (true, "d108250a7faacb0a55a017e2996d4b6a4a7521d46d192695af7859e7ce8e0770"), looks := false }, kinds := [], alts := [], laidByText := true, laidKinds := [.data], laidTests := true, laidLooks := .later }
def SigsNamesUptoCardSaid : Prop := Claim7.holds Tryd.pinned (.plain (OpenSpec.upto sigsNamesSpec)) sigsNamesUptoCard
end Rows
end Go.Proofs.YthmfenagdoefcaaDoor
