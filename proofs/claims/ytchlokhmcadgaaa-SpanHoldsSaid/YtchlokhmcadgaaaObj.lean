/-
  A block of the call's own that is known whole, as a list of cells; what keeps it; arrays of numbers inside it. Conditions: none.
-/
import Derived.Test.YtchlokhmcadgaaaMem
namespace Go.Proofs.Ytchlokhmcadgaaa
open Go.RowKit

/-- block g is just these cells, of element type t, none frozen -/
def Ob (w : World) (g : Nat) (t : TypeId) (cs : List Value) : Prop := w.heap[g]? = some (.cells cs.toArray t (0, 0))

/-- only block g may have turned, and new blocks may have come -/
abbrev Only (w w' : World) (g : Nat) : Prop := w.grownBy w' (some g)

section
variable {w w' : World} {g : Nat} {t : TypeId} {cs : List Value}

theorem Ob.lt (h : Ob w g t cs) : g < w.heap.size := by
  rcases Nat.lt_or_ge g w.heap.size with hlt | hge
  · exact hlt
  · unfold Ob at h; rw [Array.getElem?_eq_none hge] at h; cases h
theorem Ob.cell (h : Ob w g t cs) (i : Nat) : w.cell? ⟨g, i, none⟩ = cs[i]? := by
  rw [cell_of_row w g i cs.toArray t (0, 0) h]; simp
theorem Ob.frozen (h : Ob w g t cs) (i : Nat) : w.frozen? ⟨g, i, none⟩ = false := by
  unfold Ob at h
  simp [World.frozen?, h]
theorem Ob.fresh (w : World) (t : TypeId) (cs : List Value) : Ob (w.alloc (.cells cs.toArray t)) w.heap.size t cs := heap_alloc_new w _
theorem Ob.drew (h : Ob w g t cs) : Ob w.drew g t cs := h
theorem Ob.drewN (h : Ob w g t cs) (n : Nat) : Ob (w.drewN n) g t cs := h
theorem Ob.alloc (h : Ob w g t cs) (o : Obj) : Ob (w.alloc o) g t cs := (Below.heap_alloc w o g h.lt).trans h
theorem Ob.set_ (h : Ob w g t cs) (i : Nat) (u : Value) : Ob (w.setCell ⟨g, i, none⟩ u) g t (cs.set i u) := by
  unfold Ob at h ⊢
  simp [World.setCell, Array.getElem?_modify, h]
theorem Ob.far (h : Ob w g t cs) {p : Addr} (hp : g ≠ p.block) (u : Value) : Ob (w.setCell p u) g t cs := (Below.heap_setCell w p u g hp).trans h
theorem Ob.below {B : Nat} (h : Ob w g t cs) (hb : Below B w w') (hg : g < B) : Ob w' g t cs := (hb.block g hg).trans h
theorem Ob.grown {row : Option Nat} (h : Ob w g t cs) (hb : w.grownBy w' row) (hg : some g ≠ row) : Ob w' g t cs := (hb.block g h.lt hg).trans h
theorem Ob.only {g' : Nat} (h : Ob w g t cs) (hb : Only w w' g') (hg : g ≠ g') : Ob w' g t cs := h.grown hb (by simpa using hg)
theorem Ob.ne_ {g' : Nat} {t' : TypeId} {cs' : List Value} (h : Ob w g t cs) (h' : Ob w g' t' cs') (hne : t ≠ t') : g ≠ g' := by
  rintro rfl
  unfold Ob at h h'
  rw [h] at h'
  injection h' with h'
  injection h' with _ ht
  exact hne ht
theorem Ob.same {cs' : List Value} (h : Ob w g t cs) (h' : Ob w g t cs') : cs = cs' := by
  unfold Ob at h h'
  rw [h] at h'
  injection h' with h'
  injection h' with hc _ _
  exact List.toArray_inj hc

theorem Only.refl (w : World) (g : Nat) : Only w w g := World.grownBy.refl w _
theorem Only.trans {a b c : World} {g : Nat} (h : Only a b g) (k : Only b c g) : Only a c g :=
  ⟨k.os.trans h.os, k.tape.trans h.tape, k.output.trans h.output, Nat.le_trans h.size k.size, fun i hi hn => (k.block i (Nat.lt_of_lt_of_le hi h.size) hn).trans (h.block i hi hn)⟩
theorem Only.drewN {a b : World} {g : Nat} (h : Only a b g) (n : Nat) : Only a (b.drewN n) g := ⟨h.os, h.tape, h.output, h.size, h.block⟩
theorem Only.drew {a b : World} {g : Nat} (h : Only a b g) : Only a b.drew g := ⟨h.os, h.tape, h.output, h.size, h.block⟩
theorem Only.alloc {a b : World} {g : Nat} (h : Only a b g) (o : Obj) : Only a (b.alloc o) g :=
  ⟨h.os, h.tape, h.output, Nat.le_trans h.size (by simp), fun i hi hne => (Below.heap_alloc b o i (Nat.lt_of_lt_of_le hi h.size)).trans (h.block i hi hne)⟩
theorem Only.setCell {a b : World} {g : Nat} (h : Only a b g) {p : Addr} (hp : p.block = g) (u : Value) : Only a (b.setCell p u) g :=
  ⟨h.os, h.tape, h.output, by simpa [World.setCell] using h.size, fun i hi hne => (Below.heap_setCell b p u i (by
    rintro rfl
    exact hne (by rw [hp]))).trans (h.block i hi hne)⟩
theorem Only.of_below {a b : World} (h : Below a.heap.size a b) (g : Nat) : Only a b g := ⟨h.os, h.tape, h.output, h.size, fun i hi _ => h.block i hi⟩
theorem Only.below {B : Nat} {a b c : World} {g : Nat} (h : Below B a b) (k : Only b c g) (hB : B ≤ b.heap.size) (hg : B ≤ g) : Below B a c :=
  h.grown k hB (by intro k hk; injection hk with hk; omega)
theorem Only.cell {a b : World} {g : Nat} (h : Only a b g) {p : Addr} {v : Value} (hc : a.cell? p = some v) (hp : p.block ≠ g) : b.cell? p = some v :=
  World.grownBy.cell h hc (by simpa using hp)
theorem Only.sl {a b : World} {g : Nat} {A : Option Addr} {xs : List Value} (h : Only a b g) (hs : Sl a A xs) (hne : ∀ p, A = some p → p.block ≠ g) : Sl b A xs := fun hn => by
  obtain ⟨b', o, e, hc⟩ := hs hn
  exact ⟨b', o, e, fun j hj => h.cell (hc j hj) (by simpa using hne _ e)⟩
theorem Only.size {a b : World} {g : Nat} (h : Only a b g) : a.heap.size ≤ b.heap.size := World.grownBy.size h
end

/-! numbers of an array as a function of the place -/
def arr (n : Nat) (ks : Nat → BitVec 64) : List Value := (List.range n).map fun j => .int .u64 (uv (ks j))
def upd (ks : Nat → BitVec 64) (j : Nat) (x : BitVec 64) : Nat → BitVec 64 := fun i => if i = j then x else ks i
theorem arr_length (n : Nat) (ks : Nat → BitVec 64) : (arr n ks).length = n := by simp [arr]
theorem arr_get (n : Nat) (ks : Nat → BitVec 64) (j : Nat) (h : j < n) : (arr n ks)[j]? = some (.int .u64 (uv (ks j))) := by simp [arr, h]
theorem arr_none (n : Nat) (ks : Nat → BitVec 64) (j : Nat) (h : ¬ j < n) : (arr n ks)[j]? = none := List.getElem?_eq_none (by rw [arr_length]; omega)
theorem arr_set (n : Nat) (ks : Nat → BitVec 64) (j : Nat) (x : BitVec 64) : (arr n ks).set j (.int .u64 (uv x)) = arr n (upd ks j x) := by
  apply List.ext_getElem?
  intro i
  rw [List.getElem?_set]
  by_cases hi : i < n
  · rw [arr_get n (upd ks j x) i hi]
    by_cases hj : j = i
    · subst hj
      rw [if_pos rfl, if_pos (by rw [arr_length]; exact hi)]
      simp [upd]
    · rw [if_neg hj, arr_get n _ i hi]; simp [upd, Ne.symm hj]
  · rw [arr_none n (upd ks j x) i hi]
    by_cases hj : j = i
    · rw [if_pos hj, if_neg (by rw [arr_length]; omega)]
    · rw [if_neg hj, arr_none n ks i hi]
theorem arr_words (n : Nat) (ks : Nat → BitVec 64) : arr n ks = words ((List.range n).map ks) := by simp [arr, words, Function.comp_def]
theorem arr_congr {n : Nat} {ks ks' : Nat → BitVec 64} (h : ∀ j, j < n → ks j = ks' j) : arr n ks = arr n ks' := by
  unfold arr
  apply List.map_congr_left
  intro j hj
  rw [h j (by simpa using hj)]
theorem arr_one (n : Nat) (ks : Nat → BitVec 64) : ∀ u ∈ arr n ks, u.oneCell' = true := by rw [arr_words]; exact words_one _

section
variable {w : World} {g : Nat} {t : TypeId} {pre post : List Value} {n : Nat} {ks : Nat → BitVec 64}

theorem Ob.at_ (h : Ob w g t (pre ++ (arr n ks ++ post))) (j : Nat) (hj : j < n) : w.cell? ⟨g, pre.length + j, none⟩ = some (.int .u64 (uv (ks j))) := by
  rw [h.cell, List.getElem?_append_right (by omega), Nat.add_sub_cancel_left, List.getElem?_append_left (by rw [arr_length]; exact hj), arr_get n ks j hj]
theorem Ob.put (h : Ob w g t (pre ++ (arr n ks ++ post))) (j : Nat) (hj : j < n) (x : BitVec 64) : Ob (w.setCell ⟨g, pre.length + j, none⟩ (.int .u64 (uv x))) g t (pre ++ (arr n (upd ks j x) ++ post)) := by
  have h' := h.set_ (pre.length + j) (.int .u64 (uv x))
  rw [List.set_append_right _ _ (by omega), Nat.add_sub_cancel_left, List.set_append_left _ _ (by rw [arr_length]; exact hj), arr_set] at h'
  exact h'
theorem Ob.arr_sl (h : Ob w g t (pre ++ (arr n ks ++ post))) : Sl w (some ⟨g, pre.length, none⟩) (arr n ks) :=
  Sl.mk fun j hj => by
    rw [arr_length] at hj
    rw [h.at_ j hj, List.getD_eq_getElem?_getD, arr_get n ks j hj]
    rfl
end

/-- a row of the call's own that has elements, as a block known whole -/
theorem own_ob {w : World} {base : Nat} {e : TypeId} {v : Value} {n : Nat} {xs : List Value} (h : w.ownsRow base e 1 v n xs) (hn : 0 < n) :
    ∃ g cap rest, v = .slice (some ⟨g, 0, none⟩) n cap ∧ base ≤ g ∧ Ob w g e (xs ++ rest) ∧ n ≤ cap ∧ cap ≤ maxLen ∧ rest.length = cap - n ∧ xs.length = n := by
  obtain ⟨h1, h2⟩ := h
  rcases h2 with ⟨_, rfl⟩ | ⟨g, cap, cur, hv, hg, hh, hnc, hcm, hs, htake⟩
  · omega
  · refine ⟨g, cap, cur.toList.drop (n * 1), hv, hg, ?_, hnc, hcm, by simp [hs], by omega⟩
    unfold Ob
    rw [hh, ← htake, List.take_append_drop]
theorem ob_own {w : World} {base g : Nat} {e : TypeId} {n cap : Nat} {xs rest : List Value} (h : Ob w g e (xs ++ rest)) (hb : base ≤ g) (hx : xs.length = n) (hnc : n ≤ cap) (hcm : cap ≤ maxLen) (hr : rest.length = cap - n) :
    w.ownsRow base e 1 (.slice (some ⟨g, 0, none⟩) n cap) n xs :=
  ⟨by omega, .inr ⟨g, cap, (xs ++ rest).toArray, rfl, hb, h, hnc, hcm, by simp; omega, by simp [hx]⟩⟩

theorem own_base {w : World} {b b' : Nat} {e : TypeId} {size : Nat} {v : Value} {n : Nat} {xs : List Value} (h : w.ownsRow b e size v n xs) (hb : b' ≤ b) : w.ownsRow b' e size v n xs := by
  obtain ⟨h1, h2⟩ := h
  refine ⟨h1, ?_⟩
  rcases h2 with h2 | ⟨g, cap, cur, hv, hg, r⟩
  · exact .inl h2
  · exact .inr ⟨g, cap, cur, hv, by omega, r⟩

end Go.Proofs.Ytchlokhmcadgaaa
