/-
  How long the lists of a script are, where its bulk is bounded. Conditions: none.
-/
import Derived.Test.YtkjffhlnghgkoaaStatsC
import Derived.Test.YtkjffhlnghgkoaaBulk
namespace Go.Proofs.Ytkjffhlnghgkoaa
open Go.RowKit Go.ChangeShapes Go.WideShapes Go.ChangeAt Go.Deep

theorem PartOf.bulk {H : Type} {y x : DataW H} (h : PartOf y x) : Rows.uptoBulk y ≤ Rows.uptoBulk x := by
  obtain ⟨elems, spare, ys, rfl, h1, h2⟩ := h
  have a := bulk_mem h1
  have b := bulk_mem h2
  simp only [Rows.uptoBulk] at a ⊢
  omega

/-- a script that came in, none of whose lists is longer than N -/
def RdOpsB (N : Nat) (w : World) (v : Value) (l : List OpV) : Prop := RdOps w v l ∧ ∀ i, i < l.length → (l.getD i op0).hs.length ≤ N

theorem open_opsb {H : Type} {enc : TypeId × Value → H} {w : World} {base : Nat} {spare : Nat → Bool} {held : Bool} {fuel : Nat} {v : Value} {x : DataW H × List MemPlace}
    (h : DataW.trod enc Try.prog w base spare held fuel 30 [v] = some x) (hsz : ∀ y ∈ DataW.weights Try.prog 30 x.1, y ≤ reachBytes) : ∃ l, RdOpsB (Rows.uptoBulk x.1) w v l := by
  obtain ⟨l, hl, hp⟩ := open_ops_in h hsz
  refine ⟨l, hl, fun i hi => ?_⟩
  obtain ⟨d, h1, h2⟩ := hp i hi
  exact Nat.le_trans h2.bulk h1.bulk

end Go.Proofs.Ytkjffhlnghgkoaa
