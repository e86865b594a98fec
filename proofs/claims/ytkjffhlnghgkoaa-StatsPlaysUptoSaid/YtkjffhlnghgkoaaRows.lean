/-
  No cell of these rows narrows 'for every input' (looked for: loops, veiled, ifaces, maps, wideKeys, modest, calm, conditions, laid).
  DERIVED. THE GIVEN ROWS OF THIS SEAT. 3 by the template 'for every input the law returns true; each argument reads behind the call as it read before'; 0 by the template 'total and deterministic' (their statements: YtkjffhlnghgkoaaTotals.lean).
  GIVEN WITH THE SEED: the statements are not yours to turn. If you find one false, say at which input.
  Laid BY PROGRAM, IN A SANDBOX (cutbox-rows.mjs): the forced cells as the released guide's own fill.sh prints them over the translation a25260038cd1fb68… (all of the seat's roots in one cut). By AI agents, Wed Nov 11 2026. No macro, syntax, notation, axiom, sorry.
-/
import Derived.Test.YtkjffhlnghgkoaaChecked
import GoSem.Claim
import GoSem.ClaimJoined
import GoSem.ClaimMapViews
import Derived.JoinedTies
import Derived.KernelRfl
namespace Go.Proofs.Ytkjffhlnghgkoaa
/- THE CELL 'sum', in the pinned program and in every row, IS THE sha256 OF THE DUMP (.gsa) THAT YtkjffhlnghgkoaaProg.lean LOADS. Nothing in Lean hashes anything: it is a label: what it is worth is what the hold of that sum in a sandbox is worth. -/
noncomputable def Try.pinned : Pinned := { name := "ytkjffhlnghgkoaa", sum := "a25260038cd1fb684e7f34ee63a6407410fd2401807f1b90df3a79383a0a0ad9", checked := Try.checked }
namespace Rows
def none {H : Type} : Left H := { results := [], args := [] }

/-- 'tappetlaw20.StatsAdds': WHATEVER THE INPUT: true; the input reads as it did. -/
def statsAddsSpec : ChangeSpec := { name := "statsAdds", fn := fun _ => fun
  | [d] => { results := [.lit (.bool true)], args := [d] }
  | _ => none }
def statsAddsRow : OpenClaim := { program := "ytkjffhlnghgkoaa", sum := "a25260038cd1fb684e7f34ee63a6407410fd2401807f1b90df3a79383a0a0ad9", func := "tappet/tappetlaw20.StatsAdds", spec := "statsAdds", apart := false }
def StatsAddsSaid : Prop := statsAddsRow.holds Try.pinned (OpenSpec.ofChange statsAddsSpec)

/-- ITS FALSE NEIGHBOUR: 'it returns false'. Refute it at one input. -/
def statsAddsWrong : ChangeSpec := { name := "statsAdds", fn := fun _ => fun
  | [d] => { results := [.lit (.bool false)], args := [d] }
  | _ => none }
def StatsAddsWrongFalsely : Prop := statsAddsRow.holds Try.pinned (OpenSpec.ofChange statsAddsWrong)

/-- 'tappetlaw20.StatsPlays': WHATEVER THE INPUT: true; the input reads as it did. -/
def statsPlaysSpec : ChangeSpec := { name := "statsPlays", fn := fun _ => fun
  | [d] => { results := [.lit (.bool true)], args := [d] }
  | _ => none }
def statsPlaysRow : OpenClaim := { program := "ytkjffhlnghgkoaa", sum := "a25260038cd1fb684e7f34ee63a6407410fd2401807f1b90df3a79383a0a0ad9", func := "tappet/tappetlaw20.StatsPlays", spec := "statsPlays", apart := false }
def StatsPlaysSaid : Prop := statsPlaysRow.holds Try.pinned (OpenSpec.ofChange statsPlaysSpec)

/-- ITS FALSE NEIGHBOUR: 'it returns false'. Refute it at one input. -/
def statsPlaysWrong : ChangeSpec := { name := "statsPlays", fn := fun _ => fun
  | [d] => { results := [.lit (.bool false)], args := [d] }
  | _ => none }
def StatsPlaysWrongFalsely : Prop := statsPlaysRow.holds Try.pinned (OpenSpec.ofChange statsPlaysWrong)

/-- 'tappetlaw20.StatsMerges': WHATEVER THE INPUT: true; the input reads as it did. -/
def statsMergesSpec : ChangeSpec := { name := "statsMerges", fn := fun _ => fun
  | [d1, d2] => { results := [.lit (.bool true)], args := [d1, d2] }
  | _ => none }
def statsMergesRow : OpenClaim := { program := "ytkjffhlnghgkoaa", sum := "a25260038cd1fb684e7f34ee63a6407410fd2401807f1b90df3a79383a0a0ad9", func := "tappet/tappetlaw20.StatsMerges", spec := "statsMerges", apart := false }
def StatsMergesSaid : Prop := statsMergesRow.holds Try.pinned (OpenSpec.ofChange statsMergesSpec)

/-- ITS FALSE NEIGHBOUR: 'it returns false'. Refute it at one input. -/
def statsMergesWrong : ChangeSpec := { name := "statsMerges", fn := fun _ => fun
  | [d1, d2] => { results := [.lit (.bool false)], args := [d1, d2] }
  | _ => none }
def StatsMergesWrongFalsely : Prop := statsMergesRow.holds Try.pinned (OpenSpec.ofChange statsMergesWrong)

/- THE SECOND FORM. 'bulk': how many values and letters a reading holds, each counted each time it is reached (what is shared counts as often as it is met; a slice's spare places count too). A statement '..UptoSaid' is the law's where the arguments, and the package variables that the reading takes, are together of bulk at most 1048576: NARROWER than '..Said'. Prove '..Said' where nothing that the law and all that it calls make is longer than what came in: it says more and counts as full. Else prove '..UptoSaid'. A law counts once. -/
mutual
def uptoBulk {H : Type} : DataW H → Nat
  | .lit (.string bytes) => bytes.length + 1
  | .lit _ => 1
  | .nil => 1
  | .ptr d => uptoBulk d + 1
  | .slice elems spare => uptoBulkAll elems + uptoBulkAll spare + 1
  | .agg parts => uptoBulkAll parts + 1
  | .iface _ d => uptoBulk d + 1
  | .map entries => uptoBulkEntries entries + 1
  | .held _ => 1
def uptoBulkAll {H : Type} : List (DataW H) → Nat
  | [] => 0
  | d :: r => uptoBulk d + uptoBulkAll r
def uptoBulkEntries {H : Type} : List (Lit × DataW H) → Nat
  | [] => 0
  | x :: r => uptoBulkEntry x + uptoBulkEntries r
def uptoBulkEntry {H : Type} : Lit × DataW H → Nat
  | (.string bytes, d) => bytes.length + uptoBulk d + 1
  | (_, d) => uptoBulk d + 1
 end
def uptoSmall : (H : Type) → List (DataW H) → Bool := fun _ ds => decide (uptoBulkAll ds ≤ 1048576)
def OpenSpec.upto (s : _root_.Go.ChangeSpec) : _root_.Go.OpenSpec := { _root_.Go.OpenSpec.ofChange s with cond := some uptoSmall }

/-- 'tappetlaw20.StatsAdds', WHERE WHAT IT READS IS OF BULK AT MOST 1048576: true; the input reads as it did. -/
def statsAddsUptoRow : OpenClaim := { program := "ytkjffhlnghgkoaa", sum := "a25260038cd1fb684e7f34ee63a6407410fd2401807f1b90df3a79383a0a0ad9", func := "tappet/tappetlaw20.StatsAdds", spec := "statsAdds", apart := false, narrowed := true }
def StatsAddsUptoSaid : Prop := statsAddsUptoRow.holds Try.pinned (OpenSpec.upto statsAddsSpec)

/-- 'tappetlaw20.StatsPlays', WHERE WHAT IT READS IS OF BULK AT MOST 1048576: true; the input reads as it did. -/
def statsPlaysUptoRow : OpenClaim := { program := "ytkjffhlnghgkoaa", sum := "a25260038cd1fb684e7f34ee63a6407410fd2401807f1b90df3a79383a0a0ad9", func := "tappet/tappetlaw20.StatsPlays", spec := "statsPlays", apart := false, narrowed := true }
def StatsPlaysUptoSaid : Prop := statsPlaysUptoRow.holds Try.pinned (OpenSpec.upto statsPlaysSpec)

/-- 'tappetlaw20.StatsMerges', WHERE WHAT IT READS IS OF BULK AT MOST 1048576: true; the input reads as it did. -/
def statsMergesUptoRow : OpenClaim := { program := "ytkjffhlnghgkoaa", sum := "a25260038cd1fb684e7f34ee63a6407410fd2401807f1b90df3a79383a0a0ad9", func := "tappet/tappetlaw20.StatsMerges", spec := "statsMerges", apart := false, narrowed := true }
def StatsMergesUptoSaid : Prop := statsMergesUptoRow.holds Try.pinned (OpenSpec.upto statsMergesSpec)

end Rows
end Go.Proofs.Ytkjffhlnghgkoaa
