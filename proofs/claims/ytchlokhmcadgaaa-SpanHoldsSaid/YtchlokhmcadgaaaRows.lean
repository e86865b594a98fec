/-
  No cell of these rows narrows 'for every input' (looked for: loops, veiled, ifaces, maps, wideKeys, modest, calm, conditions, laid).
  DERIVED. THE GIVEN ROWS OF THIS SEAT. 5 by the template 'for every input the law returns true; each argument reads behind the call as it read before'; 0 by the template 'total and deterministic' (their statements: YtchlokhmcadgaaaTotals.lean).
  GIVEN WITH THE SEED: the statements are not yours to turn. If you find one false, say at which input.
  Laid BY PROGRAM, IN A SANDBOX (cutbox-rows.mjs): the forced cells as the released guide's own fill.sh prints them over the translation 8db790def1404aec… (all of the seat's roots in one cut). By AI agents, Wed Nov 11 2026. No macro, syntax, notation, axiom, sorry.
-/
import Derived.Test.YtchlokhmcadgaaaChecked
import GoSem.Claim
import GoSem.ClaimJoined
import GoSem.ClaimMapViews
import Derived.JoinedTies
import Derived.KernelRfl
namespace Go.Proofs.Ytchlokhmcadgaaa
/- THE CELL 'sum', in the pinned program and in every row, IS THE sha256 OF THE DUMP (.gsa) THAT YtchlokhmcadgaaaProg.lean LOADS. Nothing in Lean hashes anything: it is a label: what it is worth is what the hold of that sum in a sandbox is worth. -/
noncomputable def Try.pinned : Pinned := { name := "ytchlokhmcadgaaa", sum := "8db790def1404aec0b2bf6a4bf3240affd37d4a3171c7cc9b42c3010482e07ae", checked := Try.checked }
namespace Rows
def none {H : Type} : Left H := { results := [], args := [] }

/-- 'tappetlaw06.SpanJoins': WHATEVER THE INPUT: true; the input reads as it did. -/
def spanJoinsSpec : ChangeSpec := { name := "spanJoins", fn := fun _ => fun
  | [d] => { results := [.lit (.bool true)], args := [d] }
  | _ => none }
def spanJoinsRow : OpenClaim := { program := "ytchlokhmcadgaaa", sum := "8db790def1404aec0b2bf6a4bf3240affd37d4a3171c7cc9b42c3010482e07ae", func := "tappet/tappetlaw06.SpanJoins", spec := "spanJoins", inPlace := ["math/bits.Add64"], apart := false }
def SpanJoinsSaid : Prop := spanJoinsRow.holds Try.pinned (OpenSpec.ofChange spanJoinsSpec)

/-- ITS FALSE NEIGHBOUR: 'it returns false'. Refute it at one input. -/
def spanJoinsWrong : ChangeSpec := { name := "spanJoins", fn := fun _ => fun
  | [d] => { results := [.lit (.bool false)], args := [d] }
  | _ => none }
def SpanJoinsWrongFalsely : Prop := spanJoinsRow.holds Try.pinned (OpenSpec.ofChange spanJoinsWrong)

/-- 'tappetlaw06.SpanDoes': WHATEVER THE INPUT: true; the input reads as it did. -/
def spanDoesSpec : ChangeSpec := { name := "spanDoes", fn := fun _ => fun
  | [d1, d2, d3] => { results := [.lit (.bool true)], args := [d1, d2, d3] }
  | _ => none }
def spanDoesRow : OpenClaim := { program := "ytchlokhmcadgaaa", sum := "8db790def1404aec0b2bf6a4bf3240affd37d4a3171c7cc9b42c3010482e07ae", func := "tappet/tappetlaw06.SpanDoes", spec := "spanDoes", inPlace := ["math/bits.Add64"], apart := false }
def SpanDoesSaid : Prop := spanDoesRow.holds Try.pinned (OpenSpec.ofChange spanDoesSpec)

/-- ITS FALSE NEIGHBOUR: 'it returns false'. Refute it at one input. -/
def spanDoesWrong : ChangeSpec := { name := "spanDoes", fn := fun _ => fun
  | [d1, d2, d3] => { results := [.lit (.bool false)], args := [d1, d2, d3] }
  | _ => none }
def SpanDoesWrongFalsely : Prop := spanDoesRow.holds Try.pinned (OpenSpec.ofChange spanDoesWrong)

/-- 'tappetlaw06.SpanOrder': WHATEVER THE INPUT: true; the input reads as it did. -/
def spanOrderSpec : ChangeSpec := { name := "spanOrder", fn := fun _ => fun
  | [d] => { results := [.lit (.bool true)], args := [d] }
  | _ => none }
def spanOrderRow : OpenClaim := { program := "ytchlokhmcadgaaa", sum := "8db790def1404aec0b2bf6a4bf3240affd37d4a3171c7cc9b42c3010482e07ae", func := "tappet/tappetlaw06.SpanOrder", spec := "spanOrder", inPlace := ["math/bits.Add64"], apart := false }
def SpanOrderSaid : Prop := spanOrderRow.holds Try.pinned (OpenSpec.ofChange spanOrderSpec)

/-- ITS FALSE NEIGHBOUR: 'it returns false'. Refute it at one input. -/
def spanOrderWrong : ChangeSpec := { name := "spanOrder", fn := fun _ => fun
  | [d] => { results := [.lit (.bool false)], args := [d] }
  | _ => none }
def SpanOrderWrongFalsely : Prop := spanOrderRow.holds Try.pinned (OpenSpec.ofChange spanOrderWrong)

/-- 'tappetlaw06.SpanAsks': WHATEVER THE INPUT: true; the input reads as it did. -/
def spanAsksSpec : ChangeSpec := { name := "spanAsks", fn := fun _ => fun
  | [d1, d2, d3] => { results := [.lit (.bool true)], args := [d1, d2, d3] }
  | _ => none }
def spanAsksRow : OpenClaim := { program := "ytchlokhmcadgaaa", sum := "8db790def1404aec0b2bf6a4bf3240affd37d4a3171c7cc9b42c3010482e07ae", func := "tappet/tappetlaw06.SpanAsks", spec := "spanAsks", inPlace := ["math/bits.Add64"], apart := false }
def SpanAsksSaid : Prop := spanAsksRow.holds Try.pinned (OpenSpec.ofChange spanAsksSpec)

/-- ITS FALSE NEIGHBOUR: 'it returns false'. Refute it at one input. -/
def spanAsksWrong : ChangeSpec := { name := "spanAsks", fn := fun _ => fun
  | [d1, d2, d3] => { results := [.lit (.bool false)], args := [d1, d2, d3] }
  | _ => none }
def SpanAsksWrongFalsely : Prop := spanAsksRow.holds Try.pinned (OpenSpec.ofChange spanAsksWrong)

/-- 'tappetlaw06.SpanHolds': WHATEVER THE INPUT: true; the input reads as it did. -/
def spanHoldsSpec : ChangeSpec := { name := "spanHolds", fn := fun _ => fun
  | [d] => { results := [.lit (.bool true)], args := [d] }
  | _ => none }
def spanHoldsRow : OpenClaim := { program := "ytchlokhmcadgaaa", sum := "8db790def1404aec0b2bf6a4bf3240affd37d4a3171c7cc9b42c3010482e07ae", func := "tappet/tappetlaw06.SpanHolds", spec := "spanHolds", inPlace := ["math/bits.Add64"], apart := false }
def SpanHoldsSaid : Prop := spanHoldsRow.holds Try.pinned (OpenSpec.ofChange spanHoldsSpec)

/-- ITS FALSE NEIGHBOUR: 'it returns false'. Refute it at one input. -/
def spanHoldsWrong : ChangeSpec := { name := "spanHolds", fn := fun _ => fun
  | [d] => { results := [.lit (.bool false)], args := [d] }
  | _ => none }
def SpanHoldsWrongFalsely : Prop := spanHoldsRow.holds Try.pinned (OpenSpec.ofChange spanHoldsWrong)

/- THE SECOND FORM. 'bulk': how many values and letters a reading holds, each counted each time it is reached (what is shared counts as often as it is met; a slice's spare places count too). A statement '..UptoSaid' is the law's where the arguments, and the package variables that the reading takes, are together of bulk at most 1048576: NARROWER than '..Said'. Prove '..Said' where nothing that the law and all that it calls make is longer than what came in: it says more and counts as full. Else prove '..UptoSaid'. A law counts once. -/
mutual
def uptoBulk {H : Type} : DataW H → Nat
  | .lit (.string bytes) => bytes.length + 1
  | .lit _ => 1
  | .nil => 1
  | .ptr d => uptoBulk d + 1
  | .slice elems spare => uptoBulkAll elems + uptoBulkAll spare + 1
  | .agg parts => uptoBulkAll parts + 1
  | .iface _ d => uptoBulk d + 1
  | .map entries => uptoBulkEntries entries + 1
  | .held _ => 1
def uptoBulkAll {H : Type} : List (DataW H) → Nat
  | [] => 0
  | d :: r => uptoBulk d + uptoBulkAll r
def uptoBulkEntries {H : Type} : List (Lit × DataW H) → Nat
  | [] => 0
  | x :: r => uptoBulkEntry x + uptoBulkEntries r
def uptoBulkEntry {H : Type} : Lit × DataW H → Nat
  | (.string bytes, d) => bytes.length + uptoBulk d + 1
  | (_, d) => uptoBulk d + 1
 end
def uptoSmall : (H : Type) → List (DataW H) → Bool := fun _ ds => decide (uptoBulkAll ds ≤ 1048576)
def OpenSpec.upto (s : _root_.Go.ChangeSpec) : _root_.Go.OpenSpec := { _root_.Go.OpenSpec.ofChange s with cond := some uptoSmall }

/-- 'tappetlaw06.SpanJoins', WHERE WHAT IT READS IS OF BULK AT MOST 1048576: true; the input reads as it did. -/
def spanJoinsUptoRow : OpenClaim := { program := "ytchlokhmcadgaaa", sum := "8db790def1404aec0b2bf6a4bf3240affd37d4a3171c7cc9b42c3010482e07ae", func := "tappet/tappetlaw06.SpanJoins", spec := "spanJoins", inPlace := ["math/bits.Add64"], apart := false, narrowed := true }
def SpanJoinsUptoSaid : Prop := spanJoinsUptoRow.holds Try.pinned (OpenSpec.upto spanJoinsSpec)

/-- 'tappetlaw06.SpanDoes', WHERE WHAT IT READS IS OF BULK AT MOST 1048576: true; the input reads as it did. -/
def spanDoesUptoRow : OpenClaim := { program := "ytchlokhmcadgaaa", sum := "8db790def1404aec0b2bf6a4bf3240affd37d4a3171c7cc9b42c3010482e07ae", func := "tappet/tappetlaw06.SpanDoes", spec := "spanDoes", inPlace := ["math/bits.Add64"], apart := false, narrowed := true }
def SpanDoesUptoSaid : Prop := spanDoesUptoRow.holds Try.pinned (OpenSpec.upto spanDoesSpec)

/-- 'tappetlaw06.SpanOrder', WHERE WHAT IT READS IS OF BULK AT MOST 1048576: true; the input reads as it did. -/
def spanOrderUptoRow : OpenClaim := { program := "ytchlokhmcadgaaa", sum := "8db790def1404aec0b2bf6a4bf3240affd37d4a3171c7cc9b42c3010482e07ae", func := "tappet/tappetlaw06.SpanOrder", spec := "spanOrder", inPlace := ["math/bits.Add64"], apart := false, narrowed := true }
def SpanOrderUptoSaid : Prop := spanOrderUptoRow.holds Try.pinned (OpenSpec.upto spanOrderSpec)

/-- 'tappetlaw06.SpanAsks', WHERE WHAT IT READS IS OF BULK AT MOST 1048576: true; the input reads as it did. -/
def spanAsksUptoRow : OpenClaim := { program := "ytchlokhmcadgaaa", sum := "8db790def1404aec0b2bf6a4bf3240affd37d4a3171c7cc9b42c3010482e07ae", func := "tappet/tappetlaw06.SpanAsks", spec := "spanAsks", inPlace := ["math/bits.Add64"], apart := false, narrowed := true }
def SpanAsksUptoSaid : Prop := spanAsksUptoRow.holds Try.pinned (OpenSpec.upto spanAsksSpec)

/-- 'tappetlaw06.SpanHolds', WHERE WHAT IT READS IS OF BULK AT MOST 1048576: true; the input reads as it did. -/
def spanHoldsUptoRow : OpenClaim := { program := "ytchlokhmcadgaaa", sum := "8db790def1404aec0b2bf6a4bf3240affd37d4a3171c7cc9b42c3010482e07ae", func := "tappet/tappetlaw06.SpanHolds", spec := "spanHolds", inPlace := ["math/bits.Add64"], apart := false, narrowed := true }
def SpanHoldsUptoSaid : Prop := spanHoldsUptoRow.holds Try.pinned (OpenSpec.upto spanHoldsSpec)

end Rows
end Go.Proofs.Ytchlokhmcadgaaa
