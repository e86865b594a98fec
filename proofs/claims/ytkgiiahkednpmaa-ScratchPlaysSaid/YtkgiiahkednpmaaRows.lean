/-
  No cell of these rows narrows 'for every input' (looked for: loops, veiled, ifaces, maps, wideKeys, modest, calm, conditions, laid).
  DERIVED. THE GIVEN ROWS OF THIS SEAT. 4 by the template 'for every input the law returns true; each argument reads behind the call as it read before'; 0 by the template 'total and deterministic' (their statements: YtkgiiahkednpmaaTotals.lean).
  GIVEN WITH THE SEED: the statements are not yours to turn. If you find one false, say at which input.
  Laid BY PROGRAM, IN A SANDBOX (cutbox-rows.mjs): the forced cells as the released guide's own fill.sh prints them over the translation e2bf5b90fd24f9ec… (all of the seat's roots in one cut). By AI agents, Wed Nov 11 2026. No macro, syntax, notation, axiom, sorry.
-/
import Derived.Test.YtkgiiahkednpmaaChecked
import GoSem.Claim
import GoSem.ClaimJoined
import GoSem.ClaimMapViews
import Derived.JoinedTies
import Derived.KernelRfl
namespace Go.Proofs.Ytkgiiahkednpmaa
/- THE CELL 'sum', in the pinned program and in every row, IS THE sha256 OF THE DUMP (.gsa) THAT YtkgiiahkednpmaaProg.lean LOADS. Nothing in Lean hashes anything: it is a label: what it is worth is what the hold of that sum in a sandbox is worth. -/
noncomputable def Try.pinned : Pinned := { name := "ytkgiiahkednpmaa", sum := "e2bf5b90fd24f9eca5ce804ac32021a8a2423ed94eb85c282e84c0ecd29725e6", checked := Try.checked }
namespace Rows
def none {H : Type} : Left H := { results := [], args := [] }

/-- 'tappetlaw10.ScratchTotals': WHATEVER THE INPUT: true; the input reads as it did. -/
def scratchTotalsSpec : ChangeSpec := { name := "scratchTotals", fn := fun _ => fun
  | [d1, d2, d3] => { results := [.lit (.bool true)], args := [d1, d2, d3] }
  | _ => none }
def scratchTotalsRow : OpenClaim := { program := "ytkgiiahkednpmaa", sum := "e2bf5b90fd24f9eca5ce804ac32021a8a2423ed94eb85c282e84c0ecd29725e6", func := "tappet/tappetlaw10.ScratchTotals", spec := "scratchTotals", apart := false }
def ScratchTotalsSaid : Prop := scratchTotalsRow.holds Try.pinned (OpenSpec.ofChange scratchTotalsSpec)

/-- ITS FALSE NEIGHBOUR: 'it returns false'. Refute it at one input. -/
def scratchTotalsWrong : ChangeSpec := { name := "scratchTotals", fn := fun _ => fun
  | [d1, d2, d3] => { results := [.lit (.bool false)], args := [d1, d2, d3] }
  | _ => none }
def ScratchTotalsWrongFalsely : Prop := scratchTotalsRow.holds Try.pinned (OpenSpec.ofChange scratchTotalsWrong)

/-- 'tappetlaw10.ScratchMarks': WHATEVER THE INPUT: true; the input reads as it did. -/
def scratchMarksSpec : ChangeSpec := { name := "scratchMarks", fn := fun _ => fun
  | [d] => { results := [.lit (.bool true)], args := [d] }
  | _ => none }
def scratchMarksRow : OpenClaim := { program := "ytkgiiahkednpmaa", sum := "e2bf5b90fd24f9eca5ce804ac32021a8a2423ed94eb85c282e84c0ecd29725e6", func := "tappet/tappetlaw10.ScratchMarks", spec := "scratchMarks", apart := false }
def ScratchMarksSaid : Prop := scratchMarksRow.holds Try.pinned (OpenSpec.ofChange scratchMarksSpec)

/-- ITS FALSE NEIGHBOUR: 'it returns false'. Refute it at one input. -/
def scratchMarksWrong : ChangeSpec := { name := "scratchMarks", fn := fun _ => fun
  | [d] => { results := [.lit (.bool false)], args := [d] }
  | _ => none }
def ScratchMarksWrongFalsely : Prop := scratchMarksRow.holds Try.pinned (OpenSpec.ofChange scratchMarksWrong)

/-- 'tappetlaw10.ScratchPlays': WHATEVER THE INPUT: true; the input reads as it did. -/
def scratchPlaysSpec : ChangeSpec := { name := "scratchPlays", fn := fun _ => fun
  | [d] => { results := [.lit (.bool true)], args := [d] }
  | _ => none }
def scratchPlaysRow : OpenClaim := { program := "ytkgiiahkednpmaa", sum := "e2bf5b90fd24f9eca5ce804ac32021a8a2423ed94eb85c282e84c0ecd29725e6", func := "tappet/tappetlaw10.ScratchPlays", spec := "scratchPlays", apart := false }
def ScratchPlaysSaid : Prop := scratchPlaysRow.holds Try.pinned (OpenSpec.ofChange scratchPlaysSpec)

/-- ITS FALSE NEIGHBOUR: 'it returns false'. Refute it at one input. -/
def scratchPlaysWrong : ChangeSpec := { name := "scratchPlays", fn := fun _ => fun
  | [d] => { results := [.lit (.bool false)], args := [d] }
  | _ => none }
def ScratchPlaysWrongFalsely : Prop := scratchPlaysRow.holds Try.pinned (OpenSpec.ofChange scratchPlaysWrong)

/-- 'tappetlaw10.ScratchWords': WHATEVER THE INPUT: true; the input reads as it did. -/
def scratchWordsSpec : ChangeSpec := { name := "scratchWords", fn := fun _ => fun
  | [d1, d2, d3] => { results := [.lit (.bool true)], args := [d1, d2, d3] }
  | _ => none }
def scratchWordsRow : OpenClaim := { program := "ytkgiiahkednpmaa", sum := "e2bf5b90fd24f9eca5ce804ac32021a8a2423ed94eb85c282e84c0ecd29725e6", func := "tappet/tappetlaw10.ScratchWords", spec := "scratchWords", apart := false }
def ScratchWordsSaid : Prop := scratchWordsRow.holds Try.pinned (OpenSpec.ofChange scratchWordsSpec)

/-- ITS FALSE NEIGHBOUR: 'it returns false'. Refute it at one input. -/
def scratchWordsWrong : ChangeSpec := { name := "scratchWords", fn := fun _ => fun
  | [d1, d2, d3] => { results := [.lit (.bool false)], args := [d1, d2, d3] }
  | _ => none }
def ScratchWordsWrongFalsely : Prop := scratchWordsRow.holds Try.pinned (OpenSpec.ofChange scratchWordsWrong)

/- THE SECOND FORM. 'bulk': how many values and letters a reading holds, each counted each time it is reached (what is shared counts as often as it is met; a slice's spare places count too). A statement '..UptoSaid' is the law's where the arguments, and the package variables that the reading takes, are together of bulk at most 1048576: NARROWER than '..Said'. Prove '..Said' where nothing that the law and all that it calls make is longer than what came in: it says more and counts as full. Else prove '..UptoSaid'. A law counts once. -/
mutual
def uptoBulk {H : Type} : DataW H → Nat
  | .lit (.string bytes) => bytes.length + 1
  | .lit _ => 1
  | .nil => 1
  | .ptr d => uptoBulk d + 1
  | .slice elems spare => uptoBulkAll elems + uptoBulkAll spare + 1
  | .agg parts => uptoBulkAll parts + 1
  | .iface _ d => uptoBulk d + 1
  | .map entries => uptoBulkEntries entries + 1
  | .held _ => 1
def uptoBulkAll {H : Type} : List (DataW H) → Nat
  | [] => 0
  | d :: r => uptoBulk d + uptoBulkAll r
def uptoBulkEntries {H : Type} : List (Lit × DataW H) → Nat
  | [] => 0
  | x :: r => uptoBulkEntry x + uptoBulkEntries r
def uptoBulkEntry {H : Type} : Lit × DataW H → Nat
  | (.string bytes, d) => bytes.length + uptoBulk d + 1
  | (_, d) => uptoBulk d + 1
 end
def uptoSmall : (H : Type) → List (DataW H) → Bool := fun _ ds => decide (uptoBulkAll ds ≤ 1048576)
def OpenSpec.upto (s : _root_.Go.ChangeSpec) : _root_.Go.OpenSpec := { _root_.Go.OpenSpec.ofChange s with cond := some uptoSmall }

/-- 'tappetlaw10.ScratchTotals', WHERE WHAT IT READS IS OF BULK AT MOST 1048576: true; the input reads as it did. -/
def scratchTotalsUptoRow : OpenClaim := { program := "ytkgiiahkednpmaa", sum := "e2bf5b90fd24f9eca5ce804ac32021a8a2423ed94eb85c282e84c0ecd29725e6", func := "tappet/tappetlaw10.ScratchTotals", spec := "scratchTotals", apart := false, narrowed := true }
def ScratchTotalsUptoSaid : Prop := scratchTotalsUptoRow.holds Try.pinned (OpenSpec.upto scratchTotalsSpec)

/-- 'tappetlaw10.ScratchMarks', WHERE WHAT IT READS IS OF BULK AT MOST 1048576: true; the input reads as it did. -/
def scratchMarksUptoRow : OpenClaim := { program := "ytkgiiahkednpmaa", sum := "e2bf5b90fd24f9eca5ce804ac32021a8a2423ed94eb85c282e84c0ecd29725e6", func := "tappet/tappetlaw10.ScratchMarks", spec := "scratchMarks", apart := false, narrowed := true }
def ScratchMarksUptoSaid : Prop := scratchMarksUptoRow.holds Try.pinned (OpenSpec.upto scratchMarksSpec)

/-- 'tappetlaw10.ScratchPlays', WHERE WHAT IT READS IS OF BULK AT MOST 1048576: true; the input reads as it did. -/
def scratchPlaysUptoRow : OpenClaim := { program := "ytkgiiahkednpmaa", sum := "e2bf5b90fd24f9eca5ce804ac32021a8a2423ed94eb85c282e84c0ecd29725e6", func := "tappet/tappetlaw10.ScratchPlays", spec := "scratchPlays", apart := false, narrowed := true }
def ScratchPlaysUptoSaid : Prop := scratchPlaysUptoRow.holds Try.pinned (OpenSpec.upto scratchPlaysSpec)

/-- 'tappetlaw10.ScratchWords', WHERE WHAT IT READS IS OF BULK AT MOST 1048576: true; the input reads as it did. -/
def scratchWordsUptoRow : OpenClaim := { program := "ytkgiiahkednpmaa", sum := "e2bf5b90fd24f9eca5ce804ac32021a8a2423ed94eb85c282e84c0ecd29725e6", func := "tappet/tappetlaw10.ScratchWords", spec := "scratchWords", apart := false, narrowed := true }
def ScratchWordsUptoSaid : Prop := scratchWordsUptoRow.holds Try.pinned (OpenSpec.upto scratchWordsSpec)

end Rows
end Go.Proofs.Ytkgiiahkednpmaa
