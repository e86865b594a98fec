/-
  A slice that reads as a list of cells of one word each; a list of numbers of 64 bits as such cells. Conditions: none.
-/
import Derived.Test.YtchlokhmcadgaaaBv
namespace Go.Proofs.Ytchlokhmcadgaaa
open Go.RowKit

/-- the slice at A (nil or not) reads as the cells xs -/
def Sl (w : World) (A : Option Addr) (xs : List Value) : Prop :=
  0 < xs.length → ∃ b o, A = some ⟨b, o, none⟩ ∧ ∀ j, j < xs.length → w.cell? ⟨b, o + j, none⟩ = some (xs.getD j undef)

/-- numbers of 64 bits as cells -/
def words (us : List (BitVec 64)) : List Value := us.map fun u => .int .u64 (uv u)
theorem words_length (us : List (BitVec 64)) : (words us).length = us.length := by simp [words]

/-- a list of words, at its place j -/
def wordAt (us : List (BitVec 64)) (j : Nat) : BitVec 64 := us.getD j 0#64
theorem words_getD (us : List (BitVec 64)) (j : Nat) (h : j < us.length) : (words us).getD j undef = .int .u64 (uv (wordAt us j)) := by
  simp [words, wordAt, List.getD_eq_getElem?_getD, List.getElem?_eq_getElem h]
theorem wordAt_cons_succ (u : BitVec 64) (r : List (BitVec 64)) (j : Nat) : wordAt (u :: r) (j + 1) = wordAt r j := by simp [wordAt]
theorem wordAt_cons_zero (u : BitVec 64) (r : List (BitVec 64)) : wordAt (u :: r) 0 = u := by simp [wordAt]
theorem wordAt_eq (us : List (BitVec 64)) (j : Nat) (h : j < us.length) : wordAt us j = us[j] := by
  simp [wordAt, List.getD_eq_getElem?_getD, List.getElem?_eq_getElem h]

theorem Sl.words_at {w : World} {A : Option Addr} {us : List (BitVec 64)} (h : Sl w A (words us)) (hn : 0 < us.length) :
    ∃ b o, A = some ⟨b, o, none⟩ ∧ ∀ j, j < us.length → w.cell? ⟨b, o + j, none⟩ = some (.int .u64 (uv (wordAt us j))) := by
  obtain ⟨b, o, e, hc⟩ := h (by rw [words_length]; exact hn)
  rw [words_length] at hc
  exact ⟨b, o, e, fun j hj => by rw [hc j hj, words_getD us j hj]⟩

theorem Sl.nil (w : World) (A : Option Addr) : Sl w A [] := fun h => absurd h (by simp)

theorem Sl.mk {w : World} {b o : Nat} {xs : List Value} (h : ∀ j, j < xs.length → w.cell? ⟨b, o + j, none⟩ = some (xs.getD j undef)) : Sl w (some ⟨b, o, none⟩) xs :=
  fun _ => ⟨b, o, rfl, h⟩

/-- what another world has kept -/
theorem Sl.keep {w w' : World} {A : Option Addr} {xs : List Value} (h : Sl w A xs) (hk : ∀ p v, w.cell? p = some v → w'.cell? p = some v) : Sl w' A xs := fun hn => by
  obtain ⟨b, o, e, hc⟩ := h hn
  exact ⟨b, o, e, fun j hj => hk _ _ (hc j hj)⟩

theorem cell_lt {w : World} {p : Addr} {v : Value} (h : w.cell? p = some v) : p.block < w.heap.size := World.block_lt_of_cell? w p h

theorem Sl.below {w w' : World} {A : Option Addr} {xs : List Value} (h : Sl w A xs) (hb : Below w.heap.size w w') : Sl w' A xs :=
  h.keep fun p v hp => by rw [hb.cell (cell_lt hp)]; exact hp

theorem Sl.belowB {w w' : World} {B : Nat} {A : Option Addr} {xs : List Value} (h : Sl w A xs) (hb : Below B w w') (hB : w.heap.size ≤ B) : Sl w' A xs :=
  h.below (hb.mono hB)

theorem Sl.alloc {w : World} {A : Option Addr} {xs : List Value} (h : Sl w A xs) (o : Obj) : Sl (w.alloc o) A xs :=
  h.below ((Below.refl _ _).alloc (Nat.le_refl _) o)

/-- a block that has just been made reads as its cells -/
theorem Sl.fresh (w : World) (cs : Array Value) (T : TypeId) (fz : Nat × Nat) : Sl (w.alloc (.cells cs T fz)) (some ⟨w.heap.size, 0, none⟩) cs.toList :=
  Sl.mk fun j hj => by
    rw [Nat.zero_add, cell_of_row _ _ _ _ _ _ (heap_alloc_new w _)]
    rw [List.getD_eq_getElem?_getD, List.getElem?_eq_getElem hj]
    simp only [Array.length_toList] at hj
    simp [Array.getElem?_eq_getElem hj]

theorem uv_words (ns : List Int) (us : List (BitVec 64)) (h : ns = us.map uv) : ns.map (Value.int .u64) = words us := by
  subst h; simp [words]

end Go.Proofs.Ytchlokhmcadgaaa
