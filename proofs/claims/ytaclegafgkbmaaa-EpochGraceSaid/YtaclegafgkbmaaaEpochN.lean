/-
  The plain law of EpochGrace: who waits is who is in an epoch below the grace. Conditions: none.
-/
import Derived.Test.YtaclegafgkbmaaaEpochM
namespace Go.Proofs.Ytaclegafgkbmaaa
open Go.RowKit

def bar (l : List Bool) : List Value := l.map Value.bool
theorem bar_get (l : List Bool) (k : Nat) (h : k < l.length) : (bar l)[k]? = some (.bool (l.getD k false)) := by simp [bar, h]
theorem bar_set (l : List Bool) (k : Nat) (b : Bool) : (bar l).set k (.bool b) = bar (l.set k b) := by simp [bar, List.map_set]
theorem bar_length (l : List Bool) : (bar l).length = l.length := by simp [bar]
/-- who waits -/
def Inv (ins : List Int) (W : List Bool) (G : Int) : Prop := W.length = ins.length ∧ ∀ j, j < ins.length → (W.getD j false = true ↔ (ins.getD j 0 ≠ 0 ∧ ins.getD j 0 < G))
def wantV (W : List Bool) : Bool := W.all fun b => !b
theorem wantV_take (W : List Bool) (j : Nat) (h : j < W.length) : wantV (W.take (j + 1)) = (wantV (W.take j) && !(W.getD j false)) := by
  unfold wantV
  rw [List.take_succ_eq_append_getElem h, List.all_append, List.getD_eq_getElem?_getD, List.getElem?_eq_getElem h]
  simp
theorem wantV_iff (W : List Bool) : wantV W = true ↔ ∀ j, j < W.length → W.getD j false = false := by
  unfold wantV
  rw [List.all_eq_true]
  constructor
  · intro h j hj
    rw [List.getD_eq_getElem?_getD, List.getElem?_eq_getElem hj]
    simpa using h _ (List.getElem_mem hj)
  · intro h b hb
    obtain ⟨j, hj, rfl⟩ := List.getElem_of_mem hb
    have := h j hj
    rw [List.getD_eq_getElem?_getD, List.getElem?_eq_getElem hj] at this
    simpa using this
theorem safeV_iff (ins : List Int) (e : Int) : safeV ins e = true ↔ ∀ j, j < ins.length → ¬ (ins.getD j 0 ≠ 0 ∧ ins.getD j 0 < e) := by
  unfold safeV
  rw [List.all_eq_true]
  constructor
  · intro h j hj
    have := h _ (List.getElem_mem hj)
    rw [List.getD_eq_getElem?_getD, List.getElem?_eq_getElem hj]
    simp at this ⊢
    omega
  · intro h x hx
    obtain ⟨j, hj, rfl⟩ := List.getElem_of_mem hx
    have := h j hj
    rw [List.getD_eq_getElem?_getD, List.getElem?_eq_getElem hj] at this
    simp at this ⊢
    omega
theorem Inv.safe {ins : List Int} {W : List Bool} {G : Int} (h : Inv ins W G) : safeV ins G = wantV W := by
  rw [Bool.eq_iff_iff, safeV_iff, wantV_iff, h.1]
  constructor
  · intro hs j hj
    have := hs j hj
    rw [← h.2 j hj] at this
    simpa using this
  · intro hs j hj hn
    have := (h.2 j hj).2 hn
    rw [hs j hj] at this
    cases this
theorem Inv.set0 {ins : List Int} {W : List Bool} {G : Int} (h : Inv ins W G) (y : Nat) : Inv (ins.set y 0) (W.set y false) G := by
  refine ⟨by rw [List.length_set, List.length_set]; exact h.1, fun j hj => ?_⟩
  rw [List.length_set] at hj
  by_cases hy : y = j
  · subst hy
    rw [List.getD_eq_getElem?_getD, List.getD_eq_getElem?_getD, List.getElem?_set_self (by rw [h.1]; exact hj), List.getElem?_set_self hj]
    simp
  · rw [List.getD_eq_getElem?_getD, List.getD_eq_getElem?_getD, List.getElem?_set_ne hy, List.getElem?_set_ne hy, ← List.getD_eq_getElem?_getD, ← List.getD_eq_getElem?_getD]
    exact h.2 j hj
def clrB (W : List Bool) (ws : List Int) : List Bool := ws.foldl (fun l h => l.set h.toNat false) W
theorem clrB_take (W : List Bool) (ws : List Int) (k : Nat) (h : k < ws.length) : clrB W (ws.take (k + 1)) = (clrB W (ws.take k)).set (ws.getD k 0).toNat false := by
  unfold clrB
  rw [List.take_succ_eq_append_getElem h, List.foldl_append, List.getD_eq_getElem?_getD, List.getElem?_eq_getElem h]
  rfl
theorem clrB_length (ws : List Int) : ∀ W : List Bool, (clrB W ws).length = W.length := by
  unfold clrB
  induction ws with
  | nil => intro W; rfl
  | cons h r ih => intro W; rw [List.foldl_cons, ih, List.length_set]
theorem Inv.clr (G : Int) : ∀ (ws ins : List Int) (W : List Bool), Inv ins W G → Inv (clr ins ws) (clrB W ws) G := by
  intro ws
  induction ws with
  | nil => intro ins W h; exact h
  | cons y r ih => intro ins W h; exact ih _ _ (h.set0 y.toNat)
theorem Inv.enter {ins : List Int} {W : List Bool} {G nw : Int} (h : Inv ins W G) (hG : G ≤ nw) (k : Int) : Inv (enI nw ins k) W G := by
  unfold enI
  split
  · rename_i he
    have hk : (0 ≤ k ∧ k < ins.length) ∧ ins.getD k.toNat 0 = 0 := by
      unfold enC at he
      split at he
      · rename_i h1
        split at he
        · rename_i h2; exact ⟨h1, h2⟩
        · cases he
      · cases he
    refine ⟨by rw [List.length_set]; exact h.1, fun j hj => ?_⟩
    rw [List.length_set] at hj
    by_cases hy : k.toNat = j
    · subst hy
      have h0 := h.2 k.toNat hj
      rw [hk.2] at h0
      rw [List.getD_eq_getElem?_getD (l := ins.set _ _), List.getElem?_set_self hj]
      simp only [Option.getD_some]
      constructor
      · intro hw; exact absurd rfl (h0.1 hw).1
      · rintro ⟨_, hlt⟩; omega
    · rw [List.getD_eq_getElem?_getD (l := ins.set _ _), List.getElem?_set_ne hy, ← List.getD_eq_getElem?_getD]
      exact h.2 j hj
  · exact h
theorem wantV_clrB : ∀ (ws : List Int) (W : List Bool), wantV W = true → wantV (clrB W ws) = true := by
  intro ws
  induction ws with
  | nil => intro W h; exact h
  | cons y r ih =>
    intro W h
    refine ih _ ?_
    unfold wantV at h ⊢
    rw [List.all_eq_true] at h ⊢
    intro b hb
    rcases List.mem_or_eq_of_mem_set hb with h1 | rfl
    · exact h b h1
    · rfl
/-- at the beginning: all that are in -/
theorem Inv.start {ins : List Int} {now : Int} (hb : ∀ x ∈ ins, x ≤ now) : Inv ins (ins.map (· != 0)) (now + 1) := by
  refine ⟨by simp, fun j hj => ?_⟩
  have h1 := hb _ (List.getElem_mem hj)
  rw [List.getD_eq_getElem?_getD, List.getD_eq_getElem?_getD, List.getElem?_map, List.getElem?_eq_getElem hj]
  simp
  omega
theorem safe_old (now : Int) (ins : List Int) : safeV ins (oldV now ins) = true := (safeV_iff _ _).2 fun j hj hn => by
  have h1 : ins.getD j 0 ∈ ins := by rw [List.getD_eq_getElem?_getD, List.getElem?_eq_getElem hj]; exact List.getElem_mem hj
  have := oldV_mem (now := now) h1 hn.1
  omega
/-- no worker is in a later epoch -/
def Bnd (ins : List Int) (now : Int) : Prop := ∀ x ∈ ins, x ≤ now
theorem Bnd.enI {ins : List Int} {now : Int} (h : Bnd ins now) (k : Int) : Bnd (enI now ins k) now := fun x hx => by
  unfold Go.Proofs.Ytaclegafgkbmaaa.enI at hx
  split at hx
  · rcases List.mem_or_eq_of_mem_set hx with h1 | h1
    · exact h x h1
    · omega
  · exact h x hx
theorem Bnd.lvI {ins : List Int} {now : Int} (h : Bnd ins now) (h0 : 0 ≤ now) (ws : List Int) : Bnd (lvI ins ws) now := fun x hx => by
  by_cases hz : x = 0
  · omega
  · exact h x (lvI_mem hx hz)
theorem bar_take (ins : List Int) (j : Nat) (h : j < ins.length) : bar ((ins.take j).map (· != 0)) ++ [.bool (ins.getD j 0 != 0)] = bar ((ins.take (j + 1)).map (· != 0)) := by
  rw [List.take_succ_eq_append_getElem h, List.getD_eq_getElem?_getD, List.getElem?_eq_getElem h]
  unfold bar
  rw [List.map_append, List.map_append]
  rfl

end Go.Proofs.Ytaclegafgkbmaaa
