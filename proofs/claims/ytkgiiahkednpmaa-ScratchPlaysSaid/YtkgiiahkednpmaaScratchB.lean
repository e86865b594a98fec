/-
  The document's answer for layer 10: what was asked, as a list; what it says of words and counters. Conditions: none.
-/
import Derived.Test.YtkgiiahkednpmaaScratchV
import Derived.Test.YtkgiiahkednpmaaGrow
namespace Go.Proofs.Ytkgiiahkednpmaa
open Go.RowKit

/-- one thing asked -/
structure AskV where
  kind : Int
  slot : Nat
  n : BitVec 64
def ask0 : AskV := ⟨0, 0, 0#64⟩
def akv (a : AskV) : List Value := [.int .i64 a.kind, .int .i64 a.slot, .int .u64 (uv a.n)]
def akvs (l : List AskV) : List Value := l.flatMap akv
theorem akvs_length (l : List AskV) : (akvs l).length = l.length * 3 := by
  induction l with
  | nil => rfl
  | cons f r ih => simp only [akvs, List.flatMap_cons, List.length_append, List.length_cons] at ih ⊢; rw [ih, show (akv f).length = 3 from rfl]; omega
theorem akvs_app (a b : List AskV) : akvs (a ++ b) = akvs a ++ akvs b := List.flatMap_append
theorem akvs_get : ∀ (l : List AskV) (i j : Nat), i < l.length → j < 3 → (akvs l)[i * 3 + j]? = (akv (l.getD i ask0))[j]?
  | f :: r, 0, j, _, hj => by
    simp only [akvs, List.flatMap_cons, Nat.zero_mul, Nat.zero_add]
    rw [List.getElem?_append_left hj]
    rfl
  | f :: r, i + 1, j, hi, hj => by
    simp only [akvs, List.flatMap_cons]
    have h5 : (akv f).length = 3 := rfl
    rw [List.getElem?_append_right (by rw [h5]; omega), h5, show (i + 1) * 3 + j - 3 = i * 3 + j from by omega]
    exact akvs_get r i j (by simpa using hi) hj
theorem akv_one (t : AskV) : ∀ u ∈ akv t, u.oneCell' = true := by
  intro u hu
  simp only [akv, List.mem_cons, List.mem_nil_iff, or_false] at hu
  rcases hu with rfl | rfl | rfl <;> rfl

/-- what one thing asked does to the words, to the counters -/
def wsStep (ws : Nat → BitVec 64) (a : AskV) : Nat → BitVec 64 := if a.kind = 2 then zz else if a.kind = 1 then upd ws a.slot a.n else ws
def ksStep (ks : Nat → BitVec 64) (a : AskV) : Nat → BitVec 64 := if a.kind = 3 then upd ks a.slot (ks a.slot + a.n) else ks
def wsOf (l : List AskV) : Nat → BitVec 64 := l.foldl wsStep zz
def ksOf (l : List AskV) : Nat → BitVec 64 := l.foldl ksStep zz
theorem wsOf_snoc (l : List AskV) (a : AskV) : wsOf (l ++ [a]) = wsStep (wsOf l) a := by unfold wsOf; rw [List.foldl_append]; rfl
theorem ksOf_snoc (l : List AskV) (a : AskV) : ksOf (l ++ [a]) = ksStep (ksOf l) a := by unfold ksOf; rw [List.foldl_append]; rfl
theorem take_snoc (l : List AskV) (k : Nat) (h : k < l.length) : l.take (k + 1) = l.take k ++ [l.getD k ask0] := by
  rw [List.take_succ_eq_append_getElem h, List.getD_eq_getElem?_getD, List.getElem?_eq_getElem h]; rfl

/-- the list reads, at A -/
theorem asks_at {w : World} {A : Option Addr} {l : List AskV} (h : Sl w A (akvs l)) (hn : 0 < l.length) :
    ∃ b o, A = some ⟨b, o, none⟩ ∧ b < w.heap.size ∧ ∀ k, k < l.length → ∀ j, j < 3 → w.cell? ⟨b, o + k * 3 + j, none⟩ = some ((akv (l.getD k ask0)).getD j undef) := by
  obtain ⟨b, o, e, hc⟩ := h (by rw [akvs_length]; omega)
  rw [akvs_length] at hc
  refine ⟨b, o, e, cell_lt (hc 0 (by omega)), fun k hk j hj => ?_⟩
  have h1 := hc (k * 3 + j) (by omega)
  rw [← Nat.add_assoc] at h1
  rw [h1, List.getD_eq_getElem?_getD, akvs_get l k j hk hj, ← List.getD_eq_getElem?_getD]

/-- a book: its block, its list -/
def BookAt (B : Nat) (w : World) (g : Nat) (v : Value) (l : List AskV) : Prop := Ob w g 48 [v] ∧ w.ownsRow B 64 3 v l.length (akvs l)
/-- a book has gone on; nothing but it and its list's block is touched -/
structure BGrew (w0 w w' : World) (g : Nat) (v v' : Value) (l : List AskV) : Prop where
  book : BookAt w0.heap.size w' g v' l
  tch : Tch (fun i => i = g ∨ v.ownBlock = some i) w w'
  blk : ∀ i, v'.ownBlock = some i → v.ownBlock = some i ∨ w.heap.size ≤ i
  low : Below w0.heap.size w0 w'
theorem BGrew.refl {w0 w : World} {g : Nat} {v : Value} {l : List AskV} (h : BookAt w0.heap.size w g v l) (hB : Below w0.heap.size w0 w) : BGrew w0 w w g v v l := ⟨h, Tch.refl _ _, fun _ h => .inl h, hB⟩
theorem BGrew.trans {w0 w w' w'' : World} {g : Nat} {v v' v'' : Value} {l l' : List AskV} (h : BGrew w0 w w' g v v' l) (k : BGrew w0 w' w'' g v' v'' l') : BGrew w0 w w'' g v v'' l' :=
  ⟨k.book, Tch.then h.tch k.tch (fun _ hi => hi) (fun i hi hlt => hi.imp id fun hi => (h.blk i hi).elim id fun h2 => absurd hlt (Nat.not_lt.2 h2)), fun i hi => (k.blk i hi).elim (h.blk i) fun h2 => .inr (Nat.le_trans h.tch.size h2), k.low⟩
theorem BookAt.tch {B : Nat} {S : Nat → Prop} {w w' : World} {g : Nat} {v : Value} {l : List AskV} (h : BookAt B w g v l) (k : Tch S w w') (hg : ¬ S g) (hv : ∀ i, v.ownBlock = some i → ¬ S i) : BookAt B w' g v l := ⟨h.1.tch k hg, own_tch h.2 k hv⟩
theorem BookAt.form {B : Nat} {w : World} {g : Nat} {v : Value} {l : List AskV} (h : BookAt B w g v l) : ∃ A c, v = .slice A l.length c ∧ Sl w A (akvs l) := by
  obtain ⟨A, c, hv, _, _, hs, _⟩ := own_form h.2
  exact ⟨A, c, hv, hs⟩

/-- one more asked: appended out of a new block, stored into the book -/
theorem BGrew.snoc {w0 w w' : World} {g : Nat} {v v' : Value} {l : List AskV} {t : AskV} (o : Obj) (h : BookAt w0.heap.size w g v l) (hg : w0.heap.size ≤ g) (hown : w'.ownsRow w0.heap.size 64 3 v' (l.length + 1) (akvs l ++ akv t)) (hb : Below w0.heap.size w0 w')
    (g1 : (w.alloc o).grownBy w' v.ownBlock) (g2 : v'.ownBlock = v.ownBlock ∨ v'.ownBlock = some (w.alloc o).heap.size) : BGrew w0 w (w'.setCell ⟨g, 0, none⟩ v') g v v' (l ++ [t]) := by
  have ht : w.grownBy w' v.ownBlock := (World.grownBy_alloc w o _).trans g1
  have hv := own_typed h.2 h.1 (by decide)
  have ho : Ob w' g 48 [v] := Ob.grown h.1 ht fun e => hv e.symm
  have hv' := own_typed hown ho (by decide)
  have hon : Only w' (w'.setCell ⟨g, 0, none⟩ v') g := (Only.refl w' g).setCell rfl v'
  refine ⟨⟨ho.set_ 0 v', ?_⟩, ?_, ?_, Only.below hb hon hb.size hg⟩
  · have h2 := World.ownsRow.kept hown hon (.inr hv')
    rw [akvs_app, List.length_append]
    simpa [akvs] using h2
  · exact Tch.then (Tch.of_grown ht) (Tch.of_only hon) (fun i hi => .inr hi) (fun i hi _ => .inl hi)
  · intro i hi
    rcases g2 with h2 | h2
    · exact .inl (h2 ▸ hi)
    · rw [h2] at hi
      injection hi with hi
      subst hi
      exact .inr (by simp)

theorem ask_info : (Try.prog.info? 64).map (fun i => (i.zero, i.size, i.bytes)) = some (some (.agg #[.int .i64 0, .int .i64 0, .int .u64 0]), 3, 24) := by kernel_rfl

/-- what an ask at a place, that may be out of bounds, adds -/
def askAt (kind : Int) (at_ : Int) (n : BitVec 64) : List AskV := if 0 ≤ at_ ∧ at_ < 16 then [⟨kind, at_.toNat, n⟩] else []
def valAt (ks : Nat → BitVec 64) (at_ : Int) : BitVec 64 := if 0 ≤ at_ ∧ at_ < 16 then ks at_.toNat else 0#64

end Go.Proofs.Ytkgiiahkednpmaa
