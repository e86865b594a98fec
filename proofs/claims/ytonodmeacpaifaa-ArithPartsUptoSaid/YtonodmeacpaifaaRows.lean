/-
  No cell of these rows narrows 'for every input' (looked for: loops, veiled, ifaces, maps, wideKeys, modest, calm, conditions, laid).
  DERIVED. THE GIVEN ROWS OF THIS SEAT. 5 by the template 'for every input the law returns true; each argument reads behind the call as it read before'; 0 by the template 'total and deterministic' (their statements: YtonodmeacpaifaaTotals.lean).
  GIVEN WITH THE SEED: the statements are not yours to turn. If you find one false, say at which input.
  Laid BY PROGRAM, IN A SANDBOX (cutbox-rows.mjs): the forced cells as the released guide's own fill.sh prints them over the translation b61b7f15f70d1996… (all of the seat's roots in one cut). By AI agents, Wed Nov 11 2026. No macro, syntax, notation, axiom, sorry.
-/
import Derived.Test.YtonodmeacpaifaaChecked
import GoSem.Claim
import GoSem.ClaimJoined
import GoSem.ClaimMapViews
import Derived.JoinedTies
import Derived.KernelRfl
namespace Go.Proofs.Ytonodmeacpaifaa
/- THE CELL 'sum', in the pinned program and in every row, IS THE sha256 OF THE DUMP (.gsa) THAT YtonodmeacpaifaaProg.lean LOADS. Nothing in Lean hashes anything: it is a label: what it is worth is what the hold of that sum in a sandbox is worth. -/
noncomputable def Try.pinned : Pinned := { name := "ytonodmeacpaifaa", sum := "b61b7f15f70d199606cf00c1a0f805b3cc9ce6096ad86ca9c5ac2c2f6e028e18", checked := Try.checked }
namespace Rows
def none {H : Type} : Left H := { results := [], args := [] }

/-- 'tappetlaw05.ArithDoes': WHATEVER THE INPUT: true; the input reads as it did. -/
def arithDoesSpec : ChangeSpec := { name := "arithDoes", fn := fun _ => fun
  | [d1, d2, d3] => { results := [.lit (.bool true)], args := [d1, d2, d3] }
  | _ => none }
def arithDoesRow : OpenClaim := { program := "ytonodmeacpaifaa", sum := "b61b7f15f70d199606cf00c1a0f805b3cc9ce6096ad86ca9c5ac2c2f6e028e18", func := "tappet/tappetlaw05.ArithDoes", spec := "arithDoes", apart := false }
def ArithDoesSaid : Prop := arithDoesRow.holds Try.pinned (OpenSpec.ofChange arithDoesSpec)

/-- ITS FALSE NEIGHBOUR: 'it returns false'. Refute it at one input. -/
def arithDoesWrong : ChangeSpec := { name := "arithDoes", fn := fun _ => fun
  | [d1, d2, d3] => { results := [.lit (.bool false)], args := [d1, d2, d3] }
  | _ => none }
def ArithDoesWrongFalsely : Prop := arithDoesRow.holds Try.pinned (OpenSpec.ofChange arithDoesWrong)

/-- 'tappetlaw05.ArithFolds': WHATEVER THE INPUT: true; the input reads as it did. -/
def arithFoldsSpec : ChangeSpec := { name := "arithFolds", fn := fun _ => fun
  | [d1, d2] => { results := [.lit (.bool true)], args := [d1, d2] }
  | _ => none }
def arithFoldsRow : OpenClaim := { program := "ytonodmeacpaifaa", sum := "b61b7f15f70d199606cf00c1a0f805b3cc9ce6096ad86ca9c5ac2c2f6e028e18", func := "tappet/tappetlaw05.ArithFolds", spec := "arithFolds", apart := false }
def ArithFoldsSaid : Prop := arithFoldsRow.holds Try.pinned (OpenSpec.ofChange arithFoldsSpec)

/-- ITS FALSE NEIGHBOUR: 'it returns false'. Refute it at one input. -/
def arithFoldsWrong : ChangeSpec := { name := "arithFolds", fn := fun _ => fun
  | [d1, d2] => { results := [.lit (.bool false)], args := [d1, d2] }
  | _ => none }
def ArithFoldsWrongFalsely : Prop := arithFoldsRow.holds Try.pinned (OpenSpec.ofChange arithFoldsWrong)

/-- 'tappetlaw05.ArithLaws': WHATEVER THE INPUT: true; the input reads as it did. -/
def arithLawsSpec : ChangeSpec := { name := "arithLaws", fn := fun _ => fun
  | [d1, d2, d3] => { results := [.lit (.bool true)], args := [d1, d2, d3] }
  | _ => none }
def arithLawsRow : OpenClaim := { program := "ytonodmeacpaifaa", sum := "b61b7f15f70d199606cf00c1a0f805b3cc9ce6096ad86ca9c5ac2c2f6e028e18", func := "tappet/tappetlaw05.ArithLaws", spec := "arithLaws", apart := false }
def ArithLawsSaid : Prop := arithLawsRow.holds Try.pinned (OpenSpec.ofChange arithLawsSpec)

/-- ITS FALSE NEIGHBOUR: 'it returns false'. Refute it at one input. -/
def arithLawsWrong : ChangeSpec := { name := "arithLaws", fn := fun _ => fun
  | [d1, d2, d3] => { results := [.lit (.bool false)], args := [d1, d2, d3] }
  | _ => none }
def ArithLawsWrongFalsely : Prop := arithLawsRow.holds Try.pinned (OpenSpec.ofChange arithLawsWrong)

/-- 'tappetlaw05.ArithHolds': WHATEVER THE INPUT: true; the input reads as it did. -/
def arithHoldsSpec : ChangeSpec := { name := "arithHolds", fn := fun _ => fun
  | [d1, d2] => { results := [.lit (.bool true)], args := [d1, d2] }
  | _ => none }
def arithHoldsRow : OpenClaim := { program := "ytonodmeacpaifaa", sum := "b61b7f15f70d199606cf00c1a0f805b3cc9ce6096ad86ca9c5ac2c2f6e028e18", func := "tappet/tappetlaw05.ArithHolds", spec := "arithHolds", apart := false }
def ArithHoldsSaid : Prop := arithHoldsRow.holds Try.pinned (OpenSpec.ofChange arithHoldsSpec)

/-- ITS FALSE NEIGHBOUR: 'it returns false'. Refute it at one input. -/
def arithHoldsWrong : ChangeSpec := { name := "arithHolds", fn := fun _ => fun
  | [d1, d2] => { results := [.lit (.bool false)], args := [d1, d2] }
  | _ => none }
def ArithHoldsWrongFalsely : Prop := arithHoldsRow.holds Try.pinned (OpenSpec.ofChange arithHoldsWrong)

/-- 'tappetlaw05.ArithParts': WHATEVER THE INPUT: true; the input reads as it did. -/
def arithPartsSpec : ChangeSpec := { name := "arithParts", fn := fun _ => fun
  | [d1, d2] => { results := [.lit (.bool true)], args := [d1, d2] }
  | _ => none }
def arithPartsRow : OpenClaim := { program := "ytonodmeacpaifaa", sum := "b61b7f15f70d199606cf00c1a0f805b3cc9ce6096ad86ca9c5ac2c2f6e028e18", func := "tappet/tappetlaw05.ArithParts", spec := "arithParts", apart := false }
def ArithPartsSaid : Prop := arithPartsRow.holds Try.pinned (OpenSpec.ofChange arithPartsSpec)

/-- ITS FALSE NEIGHBOUR: 'it returns false'. Refute it at one input. -/
def arithPartsWrong : ChangeSpec := { name := "arithParts", fn := fun _ => fun
  | [d1, d2] => { results := [.lit (.bool false)], args := [d1, d2] }
  | _ => none }
def ArithPartsWrongFalsely : Prop := arithPartsRow.holds Try.pinned (OpenSpec.ofChange arithPartsWrong)

/- THE SECOND FORM. 'bulk': how many values and letters a reading holds, each counted each time it is reached (what is shared counts as often as it is met; a slice's spare places count too). A statement '..UptoSaid' is the law's where the arguments, and the package variables that the reading takes, are together of bulk at most 1048576: NARROWER than '..Said'. Prove '..Said' where nothing that the law and all that it calls make is longer than what came in: it says more and counts as full. Else prove '..UptoSaid'. A law counts once. -/
mutual
def uptoBulk {H : Type} : DataW H → Nat
  | .lit (.string bytes) => bytes.length + 1
  | .lit _ => 1
  | .nil => 1
  | .ptr d => uptoBulk d + 1
  | .slice elems spare => uptoBulkAll elems + uptoBulkAll spare + 1
  | .agg parts => uptoBulkAll parts + 1
  | .iface _ d => uptoBulk d + 1
  | .map entries => uptoBulkEntries entries + 1
  | .held _ => 1
def uptoBulkAll {H : Type} : List (DataW H) → Nat
  | [] => 0
  | d :: r => uptoBulk d + uptoBulkAll r
def uptoBulkEntries {H : Type} : List (Lit × DataW H) → Nat
  | [] => 0
  | x :: r => uptoBulkEntry x + uptoBulkEntries r
def uptoBulkEntry {H : Type} : Lit × DataW H → Nat
  | (.string bytes, d) => bytes.length + uptoBulk d + 1
  | (_, d) => uptoBulk d + 1
 end
def uptoSmall : (H : Type) → List (DataW H) → Bool := fun _ ds => decide (uptoBulkAll ds ≤ 1048576)
def OpenSpec.upto (s : _root_.Go.ChangeSpec) : _root_.Go.OpenSpec := { _root_.Go.OpenSpec.ofChange s with cond := some uptoSmall }

/-- 'tappetlaw05.ArithDoes', WHERE WHAT IT READS IS OF BULK AT MOST 1048576: true; the input reads as it did. -/
def arithDoesUptoRow : OpenClaim := { program := "ytonodmeacpaifaa", sum := "b61b7f15f70d199606cf00c1a0f805b3cc9ce6096ad86ca9c5ac2c2f6e028e18", func := "tappet/tappetlaw05.ArithDoes", spec := "arithDoes", apart := false, narrowed := true }
def ArithDoesUptoSaid : Prop := arithDoesUptoRow.holds Try.pinned (OpenSpec.upto arithDoesSpec)

/-- 'tappetlaw05.ArithFolds', WHERE WHAT IT READS IS OF BULK AT MOST 1048576: true; the input reads as it did. -/
def arithFoldsUptoRow : OpenClaim := { program := "ytonodmeacpaifaa", sum := "b61b7f15f70d199606cf00c1a0f805b3cc9ce6096ad86ca9c5ac2c2f6e028e18", func := "tappet/tappetlaw05.ArithFolds", spec := "arithFolds", apart := false, narrowed := true }
def ArithFoldsUptoSaid : Prop := arithFoldsUptoRow.holds Try.pinned (OpenSpec.upto arithFoldsSpec)

/-- 'tappetlaw05.ArithLaws', WHERE WHAT IT READS IS OF BULK AT MOST 1048576: true; the input reads as it did. -/
def arithLawsUptoRow : OpenClaim := { program := "ytonodmeacpaifaa", sum := "b61b7f15f70d199606cf00c1a0f805b3cc9ce6096ad86ca9c5ac2c2f6e028e18", func := "tappet/tappetlaw05.ArithLaws", spec := "arithLaws", apart := false, narrowed := true }
def ArithLawsUptoSaid : Prop := arithLawsUptoRow.holds Try.pinned (OpenSpec.upto arithLawsSpec)

/-- 'tappetlaw05.ArithHolds', WHERE WHAT IT READS IS OF BULK AT MOST 1048576: true; the input reads as it did. -/
def arithHoldsUptoRow : OpenClaim := { program := "ytonodmeacpaifaa", sum := "b61b7f15f70d199606cf00c1a0f805b3cc9ce6096ad86ca9c5ac2c2f6e028e18", func := "tappet/tappetlaw05.ArithHolds", spec := "arithHolds", apart := false, narrowed := true }
def ArithHoldsUptoSaid : Prop := arithHoldsUptoRow.holds Try.pinned (OpenSpec.upto arithHoldsSpec)

/-- 'tappetlaw05.ArithParts', WHERE WHAT IT READS IS OF BULK AT MOST 1048576: true; the input reads as it did. -/
def arithPartsUptoRow : OpenClaim := { program := "ytonodmeacpaifaa", sum := "b61b7f15f70d199606cf00c1a0f805b3cc9ce6096ad86ca9c5ac2c2f6e028e18", func := "tappet/tappetlaw05.ArithParts", spec := "arithParts", apart := false, narrowed := true }
def ArithPartsUptoSaid : Prop := arithPartsUptoRow.holds Try.pinned (OpenSpec.upto arithPartsSpec)

end Rows
end Go.Proofs.Ytonodmeacpaifaa
