/-
  What an argument that is a slice of elements of C cells each reads as, whatever the elements. Conditions: the form's own reach.
-/
import Derived.Test.YtchlokhmcadgaaaOpenS
namespace Go.Proofs.Ytchlokhmcadgaaa
open Go.RowKit Go.ChangeShapes Go.WideShapes Go.ChangeAt Go.Deep

theorem flat_length {α : Type} (f : α → List Value) (C : Nat) (hf : ∀ a, (f a).length = C) (l : List α) : (l.flatMap f).length = l.length * C := by
  induction l with
  | nil => simp
  | cons a r ih => rw [List.flatMap_cons, List.length_append, ih, hf, List.length_cons, Nat.add_mul, Nat.one_mul, Nat.add_comm]
theorem flat_get {α : Type} (d : α) (f : α → List Value) (C : Nat) (hf : ∀ a, (f a).length = C) : ∀ (l : List α) (i j : Nat), i < l.length → j < C → (l.flatMap f)[i * C + j]? = (f (l.getD i d))[j]?
  | a :: r, 0, j, _, hj => by
    rw [List.flatMap_cons, Nat.zero_mul, Nat.zero_add, List.getElem?_append_left (by rw [hf]; exact hj)]
    rfl
  | a :: r, i + 1, j, hi, hj => by
    rw [List.flatMap_cons, List.getElem?_append_right (by rw [hf, Nat.add_mul]; omega), hf, show (i + 1) * C + j - C = i * C + j from by rw [Nat.add_mul]; omega]
    exact flat_get d f C hf r i j (by simpa using hi) hj

theorem exists_list' {α : Type} (d : α) (P : Nat → α → Prop) : ∀ n, (∀ i, i < n → ∃ x, P i x) → ∃ l : List α, l.length = n ∧ ∀ i, i < n → P i (l.getD i d)
  | 0, _ => ⟨[], rfl, fun i hi => absurd hi (by omega)⟩
  | n + 1, h => by
    obtain ⟨l, hl, hp⟩ := exists_list' d P n fun i hi => h i (by omega)
    obtain ⟨x, hx⟩ := h n (by omega)
    refine ⟨l ++ [x], by simp [hl], fun i hi => ?_⟩
    rw [List.getD_eq_getElem?_getD]
    by_cases hn : i < n
    · rw [List.getElem?_append_left (by omega), ← List.getD_eq_getElem?_getD]; exact hp i hn
    · obtain rfl : i = n := by omega
      rw [List.getElem?_append_right (by omega), hl]; simpa using hx

/-- a slice of elements, each of C cells, that came in -/
def RdRow {α : Type} (f : α → List Value) (bytes : Nat) (w : World) (v : Value) (l : List α) : Prop :=
  ∃ A c, v = .slice A l.length c ∧ l.length ≤ c ∧ l.length * bytes ≤ 140737488351232 ∧ Sl w A (l.flatMap f)

theorem open_rows {H : Type} {enc : TypeId × Value → H} {P : Program} {w : World} {base : Nat} {spare : Nat → Bool} {held : Bool} {α : Type} (d : α) (f : α → List Value) (C : Nat) (hf : ∀ a, (f a).length = C) (hC0 : 0 < C)
    {t e : TypeId} {fuel : Nat} {v : Value} {x : DataW H × List MemPlace} (ht : P.underlying t = some (.slice e)) (hC : P.cellsOf e = C)
    (hel : ∀ fuel cs x, DataW.trod enc P w base spare held fuel e cs = some x → ∃ a, cs = f a) (h : DataW.trod enc P w base spare held fuel t [v] = some x) (hsz : ∀ y ∈ DataW.weights P t x.1, y ≤ reachBytes) :
    ∃ l : List α, RdRow f (P.bytesOf e) w v l := by
  rcases open_slice ht h with ⟨h0, hx0⟩ | ⟨a, len, cap, m, n, D, Pl, hcs, hb, hl, hm, hmm, hx, hi⟩
  · obtain rfl : v = .slice none 0 0 := by simpa using h0
    exact ⟨[], none, 0, rfl, Nat.le_refl _, by simp, Sl.nil _ _⟩
  · obtain rfl : v = .slice (some a) len cap := by simpa using hcs
    have hlm : len ≤ m := by rw [hmm]; split <;> omega
    have hw0 : (len + (m - len)) * P.bytesOf e ≤ reachBytes := hsz _ (by rw [hx]; simp [DataW.weights, ht])
    rw [reach_eq] at hw0
    have hw : len * P.bytesOf e ≤ 140737488351232 := Nat.le_trans (Nat.mul_le_mul_right _ (Nat.le_add_right _ _)) hw0
    obtain ⟨l, hll, hlp⟩ := exists_list' d (fun i (y : α) => ∀ j, j < C → w.cell? (a.add (i * C + j)) = (f y)[j]?) len fun i hil => by
      obtain ⟨cs', hc, ht'⟩ := hi i (by omega)
      rw [hC] at hc
      obtain ⟨_, hcl, hat⟩ := World.cells?_some hc
      obtain ⟨y, rfl⟩ := hel _ _ _ ht'
      exact ⟨y, fun j hj => by rw [← hat j hj, Go.Deep.add_add]⟩
    refine ⟨l, some a, cap, by rw [hll], by omega, by rw [hll]; exact hw, fun hp => ?_⟩
    rw [flat_length f C hf, hll] at hp
    have hlen0 : 0 < len := Nat.pos_of_ne_zero fun e => by rw [e] at hp; simp at hp
    have hc0 := hlp 0 hlen0 0 hC0
    have hv0 : (f (l.getD 0 d))[0]? = some ((f (l.getD 0 d))[0]'(by rw [hf]; exact hC0)) := List.getElem?_eq_getElem _
    rw [hv0] at hc0
    have hs : a.spot = none := by
      have := spot_of_cell hc0
      unfold Addr.add at this
      split at this
      · exact this
      · simp_all
    refine ⟨a.block, a.off, by rw [← hs], fun j hj => ?_⟩
    rw [flat_length f C hf, hll] at hj
    have hq : j / C < len := Nat.div_lt_of_lt_mul (by rw [Nat.mul_comm]; exact hj)
    have hr : j % C < C := Nat.mod_lt _ hC0
    have hjj : j / C * C + j % C = j := by rw [Nat.mul_comm]; exact Nat.div_add_mod j C
    have h1 := hlp (j / C) hq (j % C) hr
    rw [hjj, addr_add a hs] at h1
    have h2 := flat_get d f C hf l (j / C) (j % C) (by omega) hr
    rw [hjj] at h2
    have he : (l.flatMap f).getD j undef = ((l.flatMap f)[j]?).getD undef := List.getD_eq_getElem?_getD ..
    rw [h1, he, h2]
    rw [List.getElem?_eq_getElem (by rw [hf]; exact hr)]
    rfl

end Go.Proofs.Ytchlokhmcadgaaa
