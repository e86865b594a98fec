/-
  What a call may have touched: a set of blocks; what keeps its reading. Conditions: none.
-/
import Derived.Test.YtchlokhmcadgaaaObj
namespace Go.Proofs.Ytchlokhmcadgaaa
open Go.RowKit

/-- nothing that stood there has changed but the blocks of S -/
structure Tch (S : Nat → Prop) (w w' : World) : Prop where
  os : w'.os = w.os
  tape : w'.tape = w.tape
  output : w'.output = w.output
  size : w.heap.size ≤ w'.heap.size
  block : ∀ k, k < w.heap.size → ¬ S k → w'.heap[k]? = w.heap[k]?

section
variable {S S' : Nat → Prop} {a b c w w' : World}
theorem Tch.refl (S : Nat → Prop) (w : World) : Tch S w w := ⟨rfl, rfl, rfl, Nat.le_refl _, fun _ _ _ => rfl⟩
theorem Tch.trans (h : Tch S a b) (k : Tch S b c) : Tch S a c :=
  ⟨k.os.trans h.os, k.tape.trans h.tape, k.output.trans h.output, Nat.le_trans h.size k.size, fun i hi hn => (k.block i (Nat.lt_of_lt_of_le hi h.size) hn).trans (h.block i hi hn)⟩
/-- two steps: what the second touches and the first has not made is touched -/
theorem Tch.then {S1 S2 : Nat → Prop} (h : Tch S1 a b) (k : Tch S2 b c) (h1 : ∀ i, S1 i → S i) (h2 : ∀ i, S2 i → i < a.heap.size → S i) : Tch S a c :=
  ⟨k.os.trans h.os, k.tape.trans h.tape, k.output.trans h.output, Nat.le_trans h.size k.size, fun i hi hn => (k.block i (Nat.lt_of_lt_of_le hi h.size) (fun hs => hn (h2 i hs hi))).trans (h.block i hi (fun hs => hn (h1 i hs)))⟩
theorem Tch.mono (h : Tch S a b) (hs : ∀ i, S i → S' i) : Tch S' a b := ⟨h.os, h.tape, h.output, h.size, fun i hi hn => h.block i hi fun hi' => hn (hs i hi')⟩
theorem Tch.of_grown {row : Option Nat} (h : a.grownBy b row) : Tch (fun i => row = some i) a b := ⟨h.os, h.tape, h.output, h.size, fun i hi hn => h.block i hi fun e => hn e.symm⟩
theorem Tch.of_only {g : Nat} (h : Only a b g) : Tch (fun i => i = g) a b := ⟨h.os, h.tape, h.output, h.size, fun i hi hn => h.block i hi fun e => hn (Option.some.inj e)⟩
theorem Tch.of_below (h : Below a.heap.size a b) : Tch S a b := ⟨h.os, h.tape, h.output, h.size, fun i hi _ => h.block i hi⟩
theorem Tch.setCell (h : Tch S a b) {p : Addr} (hp : S p.block) (u : Value) : Tch S a (b.setCell p u) :=
  ⟨h.os, h.tape, h.output, by simpa [World.setCell] using h.size, fun i hi hn => (Below.heap_setCell b p u i (by rintro rfl; exact hn hp)).trans (h.block i hi hn)⟩
theorem Tch.drewN (h : Tch S a b) (n : Nat) : Tch S a (b.drewN n) := ⟨h.os, h.tape, h.output, h.size, h.block⟩
theorem Tch.drew (h : Tch S a b) : Tch S a b.drew := ⟨h.os, h.tape, h.output, h.size, h.block⟩
theorem Tch.below {B : Nat} {w0 : World} (k : Tch S w w') (h : Below B w0 w) (hB : B ≤ w.heap.size) (hS : ∀ i, i < B → ¬ S i) : Below B w0 w' :=
  ⟨k.os.trans h.os, k.tape.trans h.tape, k.output.trans h.output, Nat.le_trans h.size k.size, fun i hi => (k.block i (Nat.lt_of_lt_of_le hi hB) (hS i hi)).trans (h.block i hi)⟩

theorem Ob.tch {g : Nat} {t : TypeId} {cs : List Value} (h : Ob w g t cs) (k : Tch S w w') (hn : ¬ S g) : Ob w' g t cs := (k.block g h.lt hn).trans h
theorem own_tch {B : Nat} {e : TypeId} {size : Nat} {v : Value} {n : Nat} {xs : List Value} (h : w.ownsRow B e size v n xs) (k : Tch S w w') (hn : ∀ i, v.ownBlock = some i → ¬ S i) : w'.ownsRow B e size v n xs := by
  refine ⟨h.1, ?_⟩
  rcases h.2 with h0 | ⟨g, cap, cur, hv, hb, hg, rest⟩
  · exact .inl h0
  · have hlt : g < w.heap.size := (Array.getElem?_eq_some_iff.1 hg).1
    exact .inr ⟨g, cap, cur, hv, hb, (k.block g hlt (hn g (by rw [hv]; rfl))).trans hg, rest⟩
theorem Below.grownNone {a b : World} (h : Below a.heap.size a b) : a.grownBy b none := ⟨h.os, h.tape, h.output, h.size, fun i hi _ => h.block i hi⟩
end

theorem own_typed {w : World} {B : Nat} {e T : TypeId} {size : Nat} {v : Value} {n : Nat} {xs cs : List Value} {g : Nat} (h : w.ownsRow B e size v n xs) (ho : Ob w g T cs) (hT : e ≠ T) : v.ownBlock ≠ some g := by
  intro hv
  rcases h.2 with ⟨rfl, _⟩ | ⟨g', cap, cur, rfl, _, hg, _⟩
  · cases hv
  · injection hv with hv
    subst hv
    have h1 : w.heap[g']? = some (.cells cs.toArray T (0, 0)) := ho
    rw [hg] at h1
    injection h1 with h1
    injection h1 with _ h2
    exact hT h2
theorem own_apart {w : World} {B B' : Nat} {e e' : TypeId} {size size' : Nat} {v v' : Value} {n n' : Nat} {xs xs' : List Value} (h : w.ownsRow B e size v n xs) (h' : w.ownsRow B' e' size' v' n' xs') (hT : e ≠ e') : ∀ g, v.ownBlock = some g → v'.ownBlock ≠ some g := by
  intro g hv hv'
  rcases h.2 with ⟨rfl, _⟩ | ⟨g1, cap, cur, rfl, _, hg, _⟩
  · cases hv
  · injection hv with hv
    subst hv
    rcases h'.2 with ⟨rfl, _⟩ | ⟨g', cap', cur', rfl, _, hg', _⟩
    · cases hv'
    · injection hv' with hv'
      subst hv'
      rw [hg] at hg'
      injection hg' with hg'
      injection hg' with _ h2
      exact hT h2

end Go.Proofs.Ytchlokhmcadgaaa
