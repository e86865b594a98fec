/-
  The plain law of StatsMerges: what calls do is added, in whichever order. Conditions: none.
-/
import Derived.Test.YtkjffhlnghgkoaaStatsU
namespace Go.Proofs.Ytkjffhlnghgkoaa

theorem addAt_add (F G : Nat → BitVec 64) (h : Nat) (t : Tly) : addAt (fun i => F i + G i) h t = fun i => F i + addAt G h t i := by
  funext i
  unfold addAt
  split
  · rw [BitVec.add_assoc]
  · rfl
theorem missed_add (F : Nat → BitVec 64) : ∀ (hs : List Int) (G : Nat → BitVec 64), missed (fun i => F i + G i) hs = fun i => F i + missed G hs i
  | [], _ => rfl
  | h :: r, G => by
    show missed (addAt (fun i => F i + G i) h.toNat oneMiss) r = _
    rw [addAt_add]
    exact missed_add F r _
theorem eff_add (o : OpV) (F G : Nat → BitVec 64) : eff o (fun i => F i + G i) = fun i => F i + eff o G i := by
  unfold eff
  split
  · split
    · exact addAt_add F G _ _
    · rfl
  · split
    · exact missed_add F _ _
    · rfl
noncomputable def delta (o : OpV) : Nat → BitVec 64 := eff o fun _ => 0#64
theorem eff_delta (o : OpV) (F : Nat → BitVec 64) : eff o F = fun i => F i + delta o i := by
  have := eff_add o F fun _ => 0#64
  rw [show (fun i => F i + (fun _ => 0#64) i) = F from by funext i; simp] at this
  exact this
/-- what a script adds -/
noncomputable def dsum : List OpV → Nat → BitVec 64
  | [], _ => 0#64
  | o :: r, i => delta o i + dsum r i
theorem dsum_app (a b : List OpV) (i : Nat) : dsum (a ++ b) i = dsum a i + dsum b i := by
  induction a with
  | nil => simp [dsum]
  | cons o r ih => simp only [List.cons_append, dsum, ih, BitVec.add_assoc]
theorem dsum_take (l : List OpV) (k : Nat) (h : k < l.length) (i : Nat) : dsum (l.take (k + 1)) i = dsum (l.take k) i + delta (l.getD k op0) i := by
  rw [List.take_succ_eq_append_getElem h, dsum_app, List.getD_eq_getElem?_getD, List.getElem?_eq_getElem h]
  simp [dsum]
theorem dsum_drop (l : List OpV) (k : Nat) (h : k < l.length) (i : Nat) : dsum (l.drop (l.length - (k + 1))) i = dsum (l.drop (l.length - k)) i + delta (l.getD (l.length - 1 - k) op0) i := by
  have h1 : l.length - (k + 1) < l.length := by omega
  rw [List.drop_eq_getElem_cons h1]
  show delta _ i + dsum _ i = _
  rw [show l.length - (k + 1) + 1 = l.length - k from by omega, BitVec.add_comm, List.getD_eq_getElem?_getD, show l.length - 1 - k = l.length - (k + 1) from by omega, List.getElem?_eq_getElem h1]
  rfl

end Go.Proofs.Ytkjffhlnghgkoaa
