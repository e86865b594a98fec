/-
  No cell of these rows narrows 'for every input' (looked for: loops, veiled, ifaces, maps, wideKeys, modest, calm, conditions, laid).
  DERIVED. THE GIVEN ROWS OF THIS SEAT. 4 by the template 'for every input the law returns true; each argument reads behind the call as it read before'; 0 by the template 'total and deterministic' (their statements: YtaclegafgkbmaaaTotals.lean).
  GIVEN WITH THE SEED: the statements are not yours to turn. If you find one false, say at which input.
  Laid BY PROGRAM, IN A SANDBOX (cutbox-rows.mjs): the forced cells as the released guide's own fill.sh prints them over the translation c4f6d6afb1afe1bc… (all of the seat's roots in one cut). By AI agents, Wed Nov 11 2026. No macro, syntax, notation, axiom, sorry.
-/
import Derived.Test.YtaclegafgkbmaaaChecked
import GoSem.Claim
import GoSem.ClaimJoined
import GoSem.ClaimMapViews
import Derived.JoinedTies
import Derived.KernelRfl
namespace Go.Proofs.Ytaclegafgkbmaaa
/- THE CELL 'sum', in the pinned program and in every row, IS THE sha256 OF THE DUMP (.gsa) THAT YtaclegafgkbmaaaProg.lean LOADS. Nothing in Lean hashes anything: it is a label: what it is worth is what the hold of that sum in a sandbox is worth. -/
noncomputable def Try.pinned : Pinned := { name := "ytaclegafgkbmaaa", sum := "c4f6d6afb1afe1bc0923bad5bb7cc2f9d2b497bb1eff74474deaf60750ba0f89", checked := Try.checked }
namespace Rows
def none {H : Type} : Left H := { results := [], args := [] }

/-- 'tappetlaw17.EpochRefused': WHATEVER THE INPUT: true; the input reads as it did. -/
def epochRefusedSpec : ChangeSpec := { name := "epochRefused", fn := fun _ => fun
  | [d1, d2] => { results := [.lit (.bool true)], args := [d1, d2] }
  | _ => none }
def epochRefusedRow : OpenClaim := { program := "ytaclegafgkbmaaa", sum := "c4f6d6afb1afe1bc0923bad5bb7cc2f9d2b497bb1eff74474deaf60750ba0f89", func := "tappet/tappetlaw17.EpochRefused", spec := "epochRefused", apart := false }
def EpochRefusedSaid : Prop := epochRefusedRow.holds Try.pinned (OpenSpec.ofChange epochRefusedSpec)

/-- ITS FALSE NEIGHBOUR: 'it returns false'. Refute it at one input. -/
def epochRefusedWrong : ChangeSpec := { name := "epochRefused", fn := fun _ => fun
  | [d1, d2] => { results := [.lit (.bool false)], args := [d1, d2] }
  | _ => none }
def EpochRefusedWrongFalsely : Prop := epochRefusedRow.holds Try.pinned (OpenSpec.ofChange epochRefusedWrong)

/-- 'tappetlaw17.EpochGrace': WHATEVER THE INPUT: true; the input reads as it did. -/
def epochGraceSpec : ChangeSpec := { name := "epochGrace", fn := fun _ => fun
  | [d1, d2, d3] => { results := [.lit (.bool true)], args := [d1, d2, d3] }
  | _ => none }
def epochGraceRow : OpenClaim := { program := "ytaclegafgkbmaaa", sum := "c4f6d6afb1afe1bc0923bad5bb7cc2f9d2b497bb1eff74474deaf60750ba0f89", func := "tappet/tappetlaw17.EpochGrace", spec := "epochGrace", apart := false }
def EpochGraceSaid : Prop := epochGraceRow.holds Try.pinned (OpenSpec.ofChange epochGraceSpec)

/-- ITS FALSE NEIGHBOUR: 'it returns false'. Refute it at one input. -/
def epochGraceWrong : ChangeSpec := { name := "epochGrace", fn := fun _ => fun
  | [d1, d2, d3] => { results := [.lit (.bool false)], args := [d1, d2, d3] }
  | _ => none }
def EpochGraceWrongFalsely : Prop := epochGraceRow.holds Try.pinned (OpenSpec.ofChange epochGraceWrong)

/-- 'tappetlaw17.EpochPlays': WHATEVER THE INPUT: true; the input reads as it did. -/
def epochPlaysSpec : ChangeSpec := { name := "epochPlays", fn := fun _ => fun
  | [d1, d2] => { results := [.lit (.bool true)], args := [d1, d2] }
  | _ => none }
def epochPlaysRow : OpenClaim := { program := "ytaclegafgkbmaaa", sum := "c4f6d6afb1afe1bc0923bad5bb7cc2f9d2b497bb1eff74474deaf60750ba0f89", func := "tappet/tappetlaw17.EpochPlays", spec := "epochPlays", apart := false }
def EpochPlaysSaid : Prop := epochPlaysRow.holds Try.pinned (OpenSpec.ofChange epochPlaysSpec)

/-- ITS FALSE NEIGHBOUR: 'it returns false'. Refute it at one input. -/
def epochPlaysWrong : ChangeSpec := { name := "epochPlays", fn := fun _ => fun
  | [d1, d2] => { results := [.lit (.bool false)], args := [d1, d2] }
  | _ => none }
def EpochPlaysWrongFalsely : Prop := epochPlaysRow.holds Try.pinned (OpenSpec.ofChange epochPlaysWrong)

/-- 'tappetlaw17.EpochRises': WHATEVER THE INPUT: true; the input reads as it did. -/
def epochRisesSpec : ChangeSpec := { name := "epochRises", fn := fun _ => fun
  | [d1, d2] => { results := [.lit (.bool true)], args := [d1, d2] }
  | _ => none }
def epochRisesRow : OpenClaim := { program := "ytaclegafgkbmaaa", sum := "c4f6d6afb1afe1bc0923bad5bb7cc2f9d2b497bb1eff74474deaf60750ba0f89", func := "tappet/tappetlaw17.EpochRises", spec := "epochRises", apart := false }
def EpochRisesSaid : Prop := epochRisesRow.holds Try.pinned (OpenSpec.ofChange epochRisesSpec)

/-- ITS FALSE NEIGHBOUR: 'it returns false'. Refute it at one input. -/
def epochRisesWrong : ChangeSpec := { name := "epochRises", fn := fun _ => fun
  | [d1, d2] => { results := [.lit (.bool false)], args := [d1, d2] }
  | _ => none }
def EpochRisesWrongFalsely : Prop := epochRisesRow.holds Try.pinned (OpenSpec.ofChange epochRisesWrong)

/- THE SECOND FORM. 'bulk': how many values and letters a reading holds, each counted each time it is reached (what is shared counts as often as it is met; a slice's spare places count too). A statement '..UptoSaid' is the law's where the arguments, and the package variables that the reading takes, are together of bulk at most 1048576: NARROWER than '..Said'. Prove '..Said' where nothing that the law and all that it calls make is longer than what came in: it says more and counts as full. Else prove '..UptoSaid'. A law counts once. -/
mutual
def uptoBulk {H : Type} : DataW H → Nat
  | .lit (.string bytes) => bytes.length + 1
  | .lit _ => 1
  | .nil => 1
  | .ptr d => uptoBulk d + 1
  | .slice elems spare => uptoBulkAll elems + uptoBulkAll spare + 1
  | .agg parts => uptoBulkAll parts + 1
  | .iface _ d => uptoBulk d + 1
  | .map entries => uptoBulkEntries entries + 1
  | .held _ => 1
def uptoBulkAll {H : Type} : List (DataW H) → Nat
  | [] => 0
  | d :: r => uptoBulk d + uptoBulkAll r
def uptoBulkEntries {H : Type} : List (Lit × DataW H) → Nat
  | [] => 0
  | x :: r => uptoBulkEntry x + uptoBulkEntries r
def uptoBulkEntry {H : Type} : Lit × DataW H → Nat
  | (.string bytes, d) => bytes.length + uptoBulk d + 1
  | (_, d) => uptoBulk d + 1
 end
def uptoSmall : (H : Type) → List (DataW H) → Bool := fun _ ds => decide (uptoBulkAll ds ≤ 1048576)
def OpenSpec.upto (s : _root_.Go.ChangeSpec) : _root_.Go.OpenSpec := { _root_.Go.OpenSpec.ofChange s with cond := some uptoSmall }

/-- 'tappetlaw17.EpochRefused', WHERE WHAT IT READS IS OF BULK AT MOST 1048576: true; the input reads as it did. -/
def epochRefusedUptoRow : OpenClaim := { program := "ytaclegafgkbmaaa", sum := "c4f6d6afb1afe1bc0923bad5bb7cc2f9d2b497bb1eff74474deaf60750ba0f89", func := "tappet/tappetlaw17.EpochRefused", spec := "epochRefused", apart := false, narrowed := true }
def EpochRefusedUptoSaid : Prop := epochRefusedUptoRow.holds Try.pinned (OpenSpec.upto epochRefusedSpec)

/-- 'tappetlaw17.EpochGrace', WHERE WHAT IT READS IS OF BULK AT MOST 1048576: true; the input reads as it did. -/
def epochGraceUptoRow : OpenClaim := { program := "ytaclegafgkbmaaa", sum := "c4f6d6afb1afe1bc0923bad5bb7cc2f9d2b497bb1eff74474deaf60750ba0f89", func := "tappet/tappetlaw17.EpochGrace", spec := "epochGrace", apart := false, narrowed := true }
def EpochGraceUptoSaid : Prop := epochGraceUptoRow.holds Try.pinned (OpenSpec.upto epochGraceSpec)

/-- 'tappetlaw17.EpochPlays', WHERE WHAT IT READS IS OF BULK AT MOST 1048576: true; the input reads as it did. -/
def epochPlaysUptoRow : OpenClaim := { program := "ytaclegafgkbmaaa", sum := "c4f6d6afb1afe1bc0923bad5bb7cc2f9d2b497bb1eff74474deaf60750ba0f89", func := "tappet/tappetlaw17.EpochPlays", spec := "epochPlays", apart := false, narrowed := true }
def EpochPlaysUptoSaid : Prop := epochPlaysUptoRow.holds Try.pinned (OpenSpec.upto epochPlaysSpec)

/-- 'tappetlaw17.EpochRises', WHERE WHAT IT READS IS OF BULK AT MOST 1048576: true; the input reads as it did. -/
def epochRisesUptoRow : OpenClaim := { program := "ytaclegafgkbmaaa", sum := "c4f6d6afb1afe1bc0923bad5bb7cc2f9d2b497bb1eff74474deaf60750ba0f89", func := "tappet/tappetlaw17.EpochRises", spec := "epochRises", apart := false, narrowed := true }
def EpochRisesUptoSaid : Prop := epochRisesUptoRow.holds Try.pinned (OpenSpec.upto epochRisesSpec)

end Rows
end Go.Proofs.Ytaclegafgkbmaaa
