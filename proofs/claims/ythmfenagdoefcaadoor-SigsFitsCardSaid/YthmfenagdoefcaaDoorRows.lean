/-
  NARROWER THAN 'FOR EVERY INPUT', by the rows' own cells (each row's printed sentence says how): SigsArgs: laid · SigsChecks: laid · SigsFits: laid · SigsValues: laid · SigsNames: laid.
  DERIVED. THE GIVEN ROWS OF THIS SEAT. 5 by the template 'for every input the law returns true; each argument reads behind the call as it read before'; 0 by the template 'total and deterministic' (their statements: YthmfenagdoefcaaDoorTotals.lean).
  GIVEN WITH THE SEED: the statements are not yours to turn. If you find one false, say at which input.
  Laid BY PROGRAM, IN A SANDBOX (cutbox-rows.mjs): the forced cells as the released guide's own fill.sh prints them over the translation 6be76af6e0ea2d37… (all of the seat's roots in one cut). By AI agents, Wed Nov 11 2026. No macro, syntax, notation, axiom, sorry.
-/
import Derived.Test.YthmfenagdoefcaaDoorChecked
import GoSem.Claim
import GoSem.ClaimJoined
import GoSem.ClaimMapViews
import Derived.JoinedTies
import Derived.KernelRfl
namespace Go.Proofs.YthmfenagdoefcaaDoor
/- THE CELL 'sum', in the pinned program and in every row, IS THE sha256 OF THE DUMP (.gsa) THAT YthmfenagdoefcaaDoorProg.lean LOADS. Nothing in Lean hashes anything: it is a label: what it is worth is what the hold of that sum in a sandbox is worth. -/
noncomputable def Tryd.pinned : Pinned := { name := "ythmfenagdoefcaadoor", sum := "6be76af6e0ea2d37544f457a4814f3b412209ad60191f4caea02bfa44f5687d6", checked := Tryd.checked }
namespace Rows
def none {H : Type} : Left H := { results := [], args := [] }

/- WHAT THE LISTED PACKAGE-LEVEL VARIABLES READ AS WHEN THE CALL BEGINS. Each datum BY PROGRAM (the guide's laid-datum.mjs) off the statement by which the dump's own 'gosem.cut.vars' lays the variable. In a bare row this is a premise. The card (YthmfenagdoefcaaDoorCards.lean) ties it to the program's text. -/
def laid_tappet_sigs_table {H : Type} : DataW H := .agg [.agg [.lit (.string [103, 101, 116]), .lit (.string [104, 110]), .lit (.int .u64 18446744073709551615), .lit (.int .i64 0), .lit (.bool true)], .agg [.lit (.string [104, 97, 115]), .lit (.string [104, 110]), .lit (.int .u64 1), .lit (.int .i64 1), .lit (.bool true)], .agg [.lit (.string [112, 117, 116]), .lit (.string [104, 110, 110]), .lit (.int .u64 1), .lit (.int .i64 2), .lit (.bool true)], .agg [.lit (.string [100, 101, 108]), .lit (.string [104, 110]), .lit (.int .u64 1), .lit (.int .i64 3), .lit (.bool true)], .agg [.lit (.string [97, 100, 100]), .lit (.string [104, 110, 110]), .lit (.int .u64 18446744073709551615), .lit (.int .i64 4), .lit (.bool true)], .agg [.lit (.string [109, 97, 114, 107]), .lit (.string [115]), .lit (.int .u64 18446744073709551615), .lit (.int .i64 0), .lit (.bool false)], .agg [.lit (.string [110, 111, 116, 101]), .lit (.string [110]), .lit (.int .u64 0), .lit (.int .i64 0), .lit (.bool false)]]

/-- 'tappetlaw08.SigsArgs': WHATEVER THE INPUT: true; the input reads as it did. -/
def sigsArgsSpec : ChangeSpec := { name := "sigsArgs", fn := fun _ => fun
  | [d] => { results := [.lit (.bool true)], args := [d] }
  | _ => none }
def sigsArgsRow : OpenClaim := { program := "ythmfenagdoefcaadoor", sum := "6be76af6e0ea2d37544f457a4814f3b412209ad60191f4caea02bfa44f5687d6", func := "tappet/tappetlaw08.SigsArgs", spec := "sigsArgs", named := ["tappet/sigs.table"], apart := false, laid := [("tappet/sigs.table", laid_tappet_sigs_table)] }
def SigsArgsSaid : Prop := sigsArgsRow.holds Tryd.pinned (OpenSpec.ofChange sigsArgsSpec)

/-- ITS FALSE NEIGHBOUR: 'it returns false'. Refute it at one input. -/
def sigsArgsWrong : ChangeSpec := { name := "sigsArgs", fn := fun _ => fun
  | [d] => { results := [.lit (.bool false)], args := [d] }
  | _ => none }
def SigsArgsWrongFalsely : Prop := sigsArgsRow.holds Tryd.pinned (OpenSpec.ofChange sigsArgsWrong)

/-- 'tappetlaw08.SigsChecks': WHATEVER THE INPUT: true; the input reads as it did. -/
def sigsChecksSpec : ChangeSpec := { name := "sigsChecks", fn := fun _ => fun
  | [d1, d2] => { results := [.lit (.bool true)], args := [d1, d2] }
  | _ => none }
def sigsChecksRow : OpenClaim := { program := "ythmfenagdoefcaadoor", sum := "6be76af6e0ea2d37544f457a4814f3b412209ad60191f4caea02bfa44f5687d6", func := "tappet/tappetlaw08.SigsChecks", spec := "sigsChecks", named := ["tappet/sigs.table"], apart := false, laid := [("tappet/sigs.table", laid_tappet_sigs_table)] }
def SigsChecksSaid : Prop := sigsChecksRow.holds Tryd.pinned (OpenSpec.ofChange sigsChecksSpec)

/-- ITS FALSE NEIGHBOUR: 'it returns false'. Refute it at one input. -/
def sigsChecksWrong : ChangeSpec := { name := "sigsChecks", fn := fun _ => fun
  | [d1, d2] => { results := [.lit (.bool false)], args := [d1, d2] }
  | _ => none }
def SigsChecksWrongFalsely : Prop := sigsChecksRow.holds Tryd.pinned (OpenSpec.ofChange sigsChecksWrong)

/-- 'tappetlaw08.SigsFits': WHATEVER THE INPUT: true; the input reads as it did. -/
def sigsFitsSpec : ChangeSpec := { name := "sigsFits", fn := fun _ => fun
  | [d1, d2] => { results := [.lit (.bool true)], args := [d1, d2] }
  | _ => none }
def sigsFitsRow : OpenClaim := { program := "ythmfenagdoefcaadoor", sum := "6be76af6e0ea2d37544f457a4814f3b412209ad60191f4caea02bfa44f5687d6", func := "tappet/tappetlaw08.SigsFits", spec := "sigsFits", named := ["tappet/sigs.table"], apart := false, laid := [("tappet/sigs.table", laid_tappet_sigs_table)] }
def SigsFitsSaid : Prop := sigsFitsRow.holds Tryd.pinned (OpenSpec.ofChange sigsFitsSpec)

/-- ITS FALSE NEIGHBOUR: 'it returns false'. Refute it at one input. -/
def sigsFitsWrong : ChangeSpec := { name := "sigsFits", fn := fun _ => fun
  | [d1, d2] => { results := [.lit (.bool false)], args := [d1, d2] }
  | _ => none }
def SigsFitsWrongFalsely : Prop := sigsFitsRow.holds Tryd.pinned (OpenSpec.ofChange sigsFitsWrong)

/-- 'tappetlaw08.SigsValues': WHATEVER THE INPUT: true; the input reads as it did. -/
def sigsValuesSpec : ChangeSpec := { name := "sigsValues", fn := fun _ => fun
  | [d1, d2] => { results := [.lit (.bool true)], args := [d1, d2] }
  | _ => none }
def sigsValuesRow : OpenClaim := { program := "ythmfenagdoefcaadoor", sum := "6be76af6e0ea2d37544f457a4814f3b412209ad60191f4caea02bfa44f5687d6", func := "tappet/tappetlaw08.SigsValues", spec := "sigsValues", named := ["tappet/sigs.table"], apart := false, laid := [("tappet/sigs.table", laid_tappet_sigs_table)] }
def SigsValuesSaid : Prop := sigsValuesRow.holds Tryd.pinned (OpenSpec.ofChange sigsValuesSpec)

/-- ITS FALSE NEIGHBOUR: 'it returns false'. Refute it at one input. -/
def sigsValuesWrong : ChangeSpec := { name := "sigsValues", fn := fun _ => fun
  | [d1, d2] => { results := [.lit (.bool false)], args := [d1, d2] }
  | _ => none }
def SigsValuesWrongFalsely : Prop := sigsValuesRow.holds Tryd.pinned (OpenSpec.ofChange sigsValuesWrong)

/-- 'tappetlaw08.SigsNames': WHATEVER THE INPUT: true; the input reads as it did. -/
def sigsNamesSpec : ChangeSpec := { name := "sigsNames", fn := fun _ => fun
  | [d1, d2] => { results := [.lit (.bool true)], args := [d1, d2] }
  | _ => none }
def sigsNamesRow : OpenClaim := { program := "ythmfenagdoefcaadoor", sum := "6be76af6e0ea2d37544f457a4814f3b412209ad60191f4caea02bfa44f5687d6", func := "tappet/tappetlaw08.SigsNames", spec := "sigsNames", named := ["tappet/sigs.table"], apart := false, laid := [("tappet/sigs.table", laid_tappet_sigs_table)] }
def SigsNamesSaid : Prop := sigsNamesRow.holds Tryd.pinned (OpenSpec.ofChange sigsNamesSpec)

/-- ITS FALSE NEIGHBOUR: 'it returns false'. Refute it at one input. -/
def sigsNamesWrong : ChangeSpec := { name := "sigsNames", fn := fun _ => fun
  | [d1, d2] => { results := [.lit (.bool false)], args := [d1, d2] }
  | _ => none }
def SigsNamesWrongFalsely : Prop := sigsNamesRow.holds Tryd.pinned (OpenSpec.ofChange sigsNamesWrong)

/- THE SECOND FORM. 'bulk': how many values and letters a reading holds, each counted each time it is reached (what is shared counts as often as it is met; a slice's spare places count too). A statement '..UptoSaid' is the law's where the arguments, and the package variables that the reading takes, are together of bulk at most 1048576: NARROWER than '..Said'. Prove '..Said' where nothing that the law and all that it calls make is longer than what came in: it says more and counts as full. Else prove '..UptoSaid'. A law counts once. -/
mutual
def uptoBulk {H : Type} : DataW H → Nat
  | .lit (.string bytes) => bytes.length + 1
  | .lit _ => 1
  | .nil => 1
  | .ptr d => uptoBulk d + 1
  | .slice elems spare => uptoBulkAll elems + uptoBulkAll spare + 1
  | .agg parts => uptoBulkAll parts + 1
  | .iface _ d => uptoBulk d + 1
  | .map entries => uptoBulkEntries entries + 1
  | .held _ => 1
def uptoBulkAll {H : Type} : List (DataW H) → Nat
  | [] => 0
  | d :: r => uptoBulk d + uptoBulkAll r
def uptoBulkEntries {H : Type} : List (Lit × DataW H) → Nat
  | [] => 0
  | x :: r => uptoBulkEntry x + uptoBulkEntries r
def uptoBulkEntry {H : Type} : Lit × DataW H → Nat
  | (.string bytes, d) => bytes.length + uptoBulk d + 1
  | (_, d) => uptoBulk d + 1
 end
def uptoSmall : (H : Type) → List (DataW H) → Bool := fun _ ds => decide (uptoBulkAll ds ≤ 1048576)
def OpenSpec.upto (s : _root_.Go.ChangeSpec) : _root_.Go.OpenSpec := { _root_.Go.OpenSpec.ofChange s with cond := some uptoSmall }

/-- 'tappetlaw08.SigsArgs', WHERE WHAT IT READS IS OF BULK AT MOST 1048576: true; the input reads as it did. -/
def sigsArgsUptoRow : OpenClaim := { program := "ythmfenagdoefcaadoor", sum := "6be76af6e0ea2d37544f457a4814f3b412209ad60191f4caea02bfa44f5687d6", func := "tappet/tappetlaw08.SigsArgs", spec := "sigsArgs", named := ["tappet/sigs.table"], apart := false, laid := [("tappet/sigs.table", laid_tappet_sigs_table)], narrowed := true }
def SigsArgsUptoSaid : Prop := sigsArgsUptoRow.holds Tryd.pinned (OpenSpec.upto sigsArgsSpec)

/-- 'tappetlaw08.SigsChecks', WHERE WHAT IT READS IS OF BULK AT MOST 1048576: true; the input reads as it did. -/
def sigsChecksUptoRow : OpenClaim := { program := "ythmfenagdoefcaadoor", sum := "6be76af6e0ea2d37544f457a4814f3b412209ad60191f4caea02bfa44f5687d6", func := "tappet/tappetlaw08.SigsChecks", spec := "sigsChecks", named := ["tappet/sigs.table"], apart := false, laid := [("tappet/sigs.table", laid_tappet_sigs_table)], narrowed := true }
def SigsChecksUptoSaid : Prop := sigsChecksUptoRow.holds Tryd.pinned (OpenSpec.upto sigsChecksSpec)

/-- 'tappetlaw08.SigsFits', WHERE WHAT IT READS IS OF BULK AT MOST 1048576: true; the input reads as it did. -/
def sigsFitsUptoRow : OpenClaim := { program := "ythmfenagdoefcaadoor", sum := "6be76af6e0ea2d37544f457a4814f3b412209ad60191f4caea02bfa44f5687d6", func := "tappet/tappetlaw08.SigsFits", spec := "sigsFits", named := ["tappet/sigs.table"], apart := false, laid := [("tappet/sigs.table", laid_tappet_sigs_table)], narrowed := true }
def SigsFitsUptoSaid : Prop := sigsFitsUptoRow.holds Tryd.pinned (OpenSpec.upto sigsFitsSpec)

/-- 'tappetlaw08.SigsValues', WHERE WHAT IT READS IS OF BULK AT MOST 1048576: true; the input reads as it did. -/
def sigsValuesUptoRow : OpenClaim := { program := "ythmfenagdoefcaadoor", sum := "6be76af6e0ea2d37544f457a4814f3b412209ad60191f4caea02bfa44f5687d6", func := "tappet/tappetlaw08.SigsValues", spec := "sigsValues", named := ["tappet/sigs.table"], apart := false, laid := [("tappet/sigs.table", laid_tappet_sigs_table)], narrowed := true }
def SigsValuesUptoSaid : Prop := sigsValuesUptoRow.holds Tryd.pinned (OpenSpec.upto sigsValuesSpec)

/-- 'tappetlaw08.SigsNames', WHERE WHAT IT READS IS OF BULK AT MOST 1048576: true; the input reads as it did. -/
def sigsNamesUptoRow : OpenClaim := { program := "ythmfenagdoefcaadoor", sum := "6be76af6e0ea2d37544f457a4814f3b412209ad60191f4caea02bfa44f5687d6", func := "tappet/tappetlaw08.SigsNames", spec := "sigsNames", named := ["tappet/sigs.table"], apart := false, laid := [("tappet/sigs.table", laid_tappet_sigs_table)], narrowed := true }
def SigsNamesUptoSaid : Prop := sigsNamesUptoRow.holds Tryd.pinned (OpenSpec.upto sigsNamesSpec)

end Rows
end Go.Proofs.YthmfenagdoefcaaDoor
