/-
  What an argument that is a slice of structs of one-cell fields reads as. Conditions: the form's own reach.
-/
import Derived.Test.YtchlokhmcadgaaaOpen
import Derived.Deep.Slices
import Derived.Deep.Fields
import Derived.ChangeSame
namespace Go.Proofs.Ytchlokhmcadgaaa
open Go.RowKit Go.ChangeShapes Go.WideShapes Go.ChangeAt Go.Deep

section
variable {H : Type} {enc : TypeId × Value → H} {P : Program} {w : World} {base : Nat} {spare : Nat → Bool} {held : Bool}

theorem weights_mem_all {e : TypeId} : ∀ {ds : List (DataW H)} {d : DataW H} {y : Nat}, d ∈ ds → y ∈ DataW.weights P e d → y ∈ DataW.weightsAll P e ds
  | d :: r, d', y, h, hy => by
    simp only [DataW.weightsAll, List.mem_append]
    rcases List.mem_cons.1 h with rfl | h
    · exact .inl hy
    · exact .inr (weights_mem_all h hy)

/-- y is the datum of a field of an element of x -/
def PartOf (y x : DataW H) : Prop := ∃ elems spare ys, x = .slice elems spare ∧ (DataW.agg ys) ∈ elems ∧ y ∈ ys

/-- for every element and field: its cell, its own reading, its own reach -/
theorem open_structs {t e : TypeId} {fs : Array Field} {fuel : Nat} {v : Value} {x : DataW H × List MemPlace} (ht : P.underlying t = some (.slice e)) (he : P.underlying e = some (.struct fs))
    (hone : oneCellFields P fs = true) (hC : P.cellsOf e = fs.size) (hB : 1 ≤ P.bytesOf e) (hfs : 0 < fs.size) (h : DataW.trod enc P w base spare held fuel t [v] = some x) (hsz : ∀ y ∈ DataW.weights P t x.1, y ≤ reachBytes) :
    ∃ (A : Option Addr) (n c : Nat), v = .slice A n c ∧ n ≤ c ∧ n * P.bytesOf e ≤ 140737488351232 ∧ DLen x.1 n ∧
      (0 < n → ∃ b o, A = some ⟨b, o, none⟩ ∧ b < w.heap.size ∧ ∀ i, i < n → ∀ (j : Nat) (f : Field), fs[j]? = some f →
        ∃ (u : Value) (y : DataW H × List MemPlace) (k : Nat), w.cell? ⟨b, o + i * fs.size + j, none⟩ = some u ∧ DataW.trod enc P w base spare held k f.type [u] = some y ∧ (∀ z ∈ DataW.weights P f.type y.1, z ≤ reachBytes) ∧ PartOf y.1 x.1) := by
  rcases open_slice ht h with ⟨h0, hx0⟩ | ⟨a, len, cap, m, n, D, Pl, hcs, hb, hl, hm, hmm, hx, hi⟩
  · obtain rfl : v = .slice none 0 0 := by simpa using h0
    exact ⟨none, 0, 0, rfl, Nat.le_refl _, by simp, .inl ⟨by rw [hx0], rfl⟩, fun h => absurd h (by omega)⟩
  · obtain rfl : v = .slice (some a) len cap := by simpa using hcs
    have hlm : len ≤ m := by rw [hmm]; split <;> omega
    have hw0 : (len + (m - len)) * P.bytesOf e ≤ reachBytes := hsz _ (by rw [hx]; simp [DataW.weights, ht])
    rw [reach_eq] at hw0
    have hw : len * P.bytesOf e ≤ 140737488351232 := Nat.le_trans (Nat.mul_le_mul_right _ (Nat.le_add_right _ _)) hw0
    refine ⟨some a, len, cap, rfl, hl, hw, .inr ⟨_, _, by rw [hx], by simp⟩, fun hp => ?_⟩
    have cellAt : ∀ i, i < m → ∀ (j : Nat) (f : Field), fs[j]? = some f → ∃ (u : Value) (y : DataW H × List MemPlace) (ys : List (DataW H × List MemPlace)) (k : Nat),
        w.cell? (a.add (i * fs.size + j)) = some u ∧ D i = .agg (ys.map (·.1)) ∧ ys[j]? = some y ∧ DataW.trod enc P w base spare held k f.type [u] = some y := by
      intro i him j f hj
      obtain ⟨cs', hc, ht'⟩ := hi i him
      rw [hC] at hc
      obtain ⟨ys, n', hn', hy, hlen, hyl, hf⟩ := DataW.trod_struct he ht'
      obtain ⟨_, hcl, hat⟩ := World.cells?_some hc
      simp only [Prod.mk.injEq] at hy
      obtain ⟨ho, hk⟩ := hone_of hone j f hj
      have hjl : j < fs.size := (Array.getElem?_eq_some_iff.1 hj).1
      have hcell := hat j hjl
      have hv : cs'[j]? = some (cs'[j]'(by omega)) := List.getElem?_eq_getElem (by omega)
      have h1 := hf j f hj
      rw [ho, hk] at h1
      have hone' : (cs'.drop j).take 1 = [cs'[j]'(by omega)] := by
        rw [List.drop_eq_getElem_cons (by omega)]
        rfl
      rw [hone'] at h1
      have hys : ys[j]? = some (ys[j]'(by omega)) := List.getElem?_eq_getElem (by omega)
      refine ⟨_, _, ys, _, ?_, hy.1, hys, h1.trans hys⟩
      rw [← Go.Deep.add_add, hcell, hv]
    obtain ⟨f0, hf0⟩ : ∃ f, fs[0]? = some f := ⟨fs[0], by simp [hfs]⟩
    obtain ⟨u0, _, _, _, hc0, _⟩ := cellAt 0 (by omega) 0 f0 hf0
    have hs : a.spot = none := by
      have := spot_of_cell hc0
      unfold Addr.add at this
      split at this
      · exact this
      · simp_all
    refine ⟨a.block, a.off, by rw [← hs], ?_, fun i hin j f hj => ?_⟩
    · have := cell_lt hc0
      rw [addr_add a hs] at this
      exact this
    · obtain ⟨u, y, ys, k, hc, hD, hy, htr⟩ := cellAt i (by omega) j f hj
      rw [addr_add a hs] at hc
      refine ⟨u, y, k, by rw [← hc, Nat.add_assoc], htr, fun z hz => hsz z ?_, ⟨_, _, ys.map (·.1), by rw [hx], List.mem_map.2 ⟨i, by simpa using hin, hD⟩, List.mem_map.2 ⟨y, List.mem_of_getElem? hy, rfl⟩⟩⟩
      rw [hx]
      simp only [DataW.weights, ht, List.mem_cons, List.mem_append]
      refine .inr (.inl (weights_mem_all (d := D i) (List.mem_map.2 ⟨i, by simpa using hin, rfl⟩) ?_))
      rw [hD]
      simp only [DataW.weights, he]
      refine DataW.weights_mem_each (j := j) (t := f.type) (d := y.1) ?_ ?_ z hz
      · simp [hj]
      · simp [hy]

/-- the number in a cell -/
def numAt (w : World) (p : Addr) : Int := match w.cell? p with | some (.int _ n) => n | _ => 0
def bvAt (w : World) (p : Addr) : BitVec 64 := BitVec.ofNat 64 (numAt w p).toNat
theorem int_cell {k : IntKind} {e : TypeId} {fuel : Nat} {u : Value} {y : DataW H × List MemPlace} (he : P.underlying e = some (.int k)) (h : DataW.trod enc P w base spare held fuel e [u] = some y) : ∃ n, u = .int k n ∧ (Lit.int k n).wf = true := by
  obtain ⟨n, hcs, _, hw⟩ := DataW.trod_int he h
  exact ⟨n, by simpa using hcs, hw⟩
theorem bool_cell {e : TypeId} {fuel : Nat} {u : Value} {y : DataW H × List MemPlace} (he : P.underlying e = some .bool) (h : DataW.trod enc P w base spare held fuel e [u] = some y) : ∃ b, u = .bool b := by
  obtain ⟨n, hcs, _⟩ := DataW.trod_bool he h
  exact ⟨n, by simpa using hcs⟩
theorem numAt_eq {p : Addr} {k : IntKind} {n : Int} (h : w.cell? p = some (.int k n)) : numAt w p = n := by simp [numAt, h]
theorem bvAt_eq {p : Addr} {n : Int} (h : w.cell? p = some (.int .u64 n)) (hw : (Lit.int .u64 n).wf = true) : uv (bvAt w p) = n := by
  obtain ⟨x, rfl⟩ := uv_of_wf hw
  unfold bvAt
  rw [numAt_eq h, uv_toNat]
  simp
end

end Go.Proofs.Ytchlokhmcadgaaa
