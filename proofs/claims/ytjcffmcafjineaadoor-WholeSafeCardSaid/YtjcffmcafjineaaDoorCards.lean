/-
  DERIVED. GIVEN WITH THE SEED: THE CARDS: each row of YtjcffmcafjineaaDoorRows.lean that lists a variable, with what it lists TIED to the program's text (the seventh form; the later family's looks); each row that meets fmt, with fmt's text TOLD by the authors' own Lean function (tested against real Go, not proved from fmt's source: count such statements apart). THE CARD IS WHAT COUNTS. Prove the row's statement (the work); the ties are given (YtjcffmcafjineaaDoorTie.lean); close each card by the builder's one call (the guide's Derived/Test/ToyasCard.lean, 'card_holds'). Laid BY PROGRAM, IN A SANDBOX (cutbox-door.mjs). By AI agents, Wed Nov 11 2026. No macro, syntax, notation, axiom, sorry.
-/
import Derived.Test.YtjcffmcafjineaaDoorRows
import GoSem.ClaimSeven
namespace Go.Proofs.YtjcffmcafjineaaDoor
namespace Rows

/-- THE TIED CARD OF 'tappettop.WholeSafe'. -/
def wholeSafeCard : Claim7 := { stood := { row := wholeSafeRow, standIns := [], harness := (true, "4f020a422a00eff6c3525c19848195d1be1a82394ab90a9e5f0a5fc4e5dda1b4"), looks := false }, kinds := [], alts := [], laidByText := true, laidKinds := [.data, .data], laidTests := true, laidLooks := .later }
def WholeSafeCardSaid : Prop := Claim7.holds Tryd.pinned (.plain (OpenSpec.ofChange wholeSafeSpec)) wholeSafeCard

/-- THE SECOND FORM's CARD OF 'tappettop.WholeSafe'. -/
def wholeSafeUptoCard : Claim7 := { stood := { row := wholeSafeUptoRow, standIns := [], harness := (true, "4f020a422a00eff6c3525c19848195d1be1a82394ab90a9e5f0a5fc4e5dda1b4"), looks := false }, kinds := [], alts := [], laidByText := true, laidKinds := [.data, .data], laidTests := true, laidLooks := .later }
def WholeSafeUptoCardSaid : Prop := Claim7.holds Tryd.pinned (.plain (OpenSpec.upto wholeSafeSpec)) wholeSafeUptoCard
end Rows
end Go.Proofs.YtjcffmcafjineaaDoor
