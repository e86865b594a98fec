/-
  The plain law of EpochRises: the least epoch never falls. Conditions: none.
-/
import Derived.Test.YtaclegafgkbmaaaEpochZ
namespace Go.Proofs.Ytaclegafgkbmaaa

theorem oldV_glb (a : Int) : ∀ (ins : List Int) (now : Int), a ≤ oldV now ins ↔ a ≤ now ∧ ∀ x ∈ ins, x ≠ 0 → a ≤ x := by
  intro ins
  induction ins with
  | nil => intro now; simp [oldV]
  | cons y r ih =>
    intro now
    have e : oldV now (y :: r) = oldV (if y = 0 then now else min now y) r := rfl
    rw [e, ih]
    by_cases hy : y = 0
    · rw [if_pos hy]
      constructor
      · rintro ⟨h1, h2⟩
        refine ⟨h1, fun x hx h0 => ?_⟩
        rcases List.mem_cons.1 hx with rfl | hx
        · exact absurd hy h0
        · exact h2 x hx h0
      · rintro ⟨h1, h2⟩
        exact ⟨h1, fun x hx h0 => h2 x (List.mem_cons_of_mem _ hx) h0⟩
    · rw [if_neg hy]
      constructor
      · rintro ⟨h1, h2⟩
        refine ⟨by omega, fun x hx h0 => ?_⟩
        rcases List.mem_cons.1 hx with rfl | hx
        · omega
        · exact h2 x hx h0
      · rintro ⟨h1, h2⟩
        have := h2 y (by simp) hy
        exact ⟨by omega, fun x hx h0 => h2 x (List.mem_cons_of_mem _ hx) h0⟩
theorem oldV_le (now : Int) (ins : List Int) : oldV now ins ≤ now := ((oldV_glb _ ins now).1 (Int.le_refl _)).1
theorem oldV_mem {now : Int} {ins : List Int} {x : Int} (h : x ∈ ins) (h0 : x ≠ 0) : oldV now ins ≤ x := ((oldV_glb _ ins now).1 (Int.le_refl _)).2 x h h0
theorem oldV_step {now now' : Int} {ins ins' : List Int} (hn : now ≤ now') (h : ∀ x ∈ ins', x ≠ 0 → x ∈ ins ∨ now ≤ x) : oldV now ins ≤ oldV now' ins' :=
  (oldV_glb _ ins' now').2 ⟨Int.le_trans (oldV_le now ins) hn, fun x hx h0 => (h x hx h0).elim (fun h1 => oldV_mem h1 h0) fun h1 => Int.le_trans (oldV_le now ins) h1⟩
theorem enI_mem {now : Int} {ins : List Int} {h x : Int} (hx : x ∈ enI now ins h) : x ∈ ins ∨ now ≤ x := by
  unfold enI at hx
  split at hx
  · rcases List.mem_or_eq_of_mem_set hx with h1 | h1
    · exact .inl h1
    · exact .inr (by omega)
  · exact .inl hx
theorem clr_mem : ∀ (ws ins : List Int) {x : Int}, x ∈ clr ins ws → x ≠ 0 → x ∈ ins := by
  intro ws
  induction ws with
  | nil => intro ins x hx _; exact hx
  | cons y r ih =>
    intro ins x hx h0
    rcases List.mem_or_eq_of_mem_set (ih (ins.set y.toNat 0) hx h0) with h1 | h1
    · exact h1
    · exact absurd h1 h0
theorem lvI_mem {ins ws : List Int} {x : Int} (hx : x ∈ lvI ins ws) (h0 : x ≠ 0) : x ∈ ins := by
  unfold lvI at hx
  split at hx
  · exact clr_mem ws ins hx h0
  · exact hx
theorem en_ok {now : Int} {ins : List Int} {h : Int} (he : enC ins h = 0) : inV (enI now ins h) h = now := by
  have hk : 0 ≤ h ∧ h < ins.length := by
    unfold enC at he
    split at he
    · assumption
    · cases he
  unfold enI
  rw [if_pos he]
  unfold inV
  rw [List.length_set, if_pos hk, List.getD_eq_getElem?_getD, List.getElem?_set_self (by omega)]
  rfl

end Go.Proofs.Ytaclegafgkbmaaa
