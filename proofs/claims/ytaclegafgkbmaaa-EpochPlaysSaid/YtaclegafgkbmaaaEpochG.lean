/-
  The clock beside the document's list: what each call does to both is one and the same; shows. Conditions: those of each theorem.
-/
import Derived.Test.YtaclegafgkbmaaaEpochF
namespace Go.Proofs.Ytaclegafgkbmaaa
open Go.RowKit

theorem inOf_snoc (l : List StepV) (a : StepV) (j : Int) : inOf (l ++ [a]) j = if a.kind = 3 then inOf l j else if a.wk = j then (if a.kind = 1 then nowOf l else 0) else inOf l j := by
  unfold inOf
  rw [inPair_snoc]
  unfold inStep
  split
  · rfl
  · split
    · split
      · exact inPair_fst l j
      · rfl
    · rfl
theorem inOf_en (l : List StepV) (h j : Int) : inOf (l ++ [⟨1, h⟩]) j = if h = j then nowOf l else inOf l j := by rw [inOf_snoc]; rfl
theorem inOf_lv (l : List StepV) (h j : Int) : inOf (l ++ [⟨2, h⟩]) j = if h = j then 0 else inOf l j := by rw [inOf_snoc]; rfl
theorem insOf_congr {l l' : List StepV} {N : Nat} (h : ∀ j : Nat, j < N → inOf l' j = inOf l j) : insOf l' N = insOf l N := by
  unfold insOf
  refine List.map_congr_left fun j hj => ?_
  exact h j (List.mem_range.1 hj)
theorem insOf_set {l l' : List StepV} {N y : Nat} {x : Int} (h : ∀ j : Nat, j < N → inOf l' j = if j = y then x else inOf l j) : insOf l' N = (insOf l N).set y x := by
  refine List.ext_getElem (by simp [insOf]) fun i h1 h2 => ?_
  rw [insOf_length] at h1
  rw [List.getElem_set]
  simp only [insOf, List.getElem_map, List.getElem_range]
  rw [h i h1]
  by_cases hi : i = y
  · rw [if_pos hi, if_pos hi.symm]
  · rw [if_neg hi, if_neg (fun e => hi e.symm)]
theorem insOf_advance (l : List StepV) (N : Nat) : insOf (l ++ [⟨3, 0⟩]) N = insOf l N := insOf_congr fun j _ => by rw [inOf_snoc]; rfl
theorem nowOf_advance (l : List StepV) : nowOf (l ++ [⟨3, 0⟩]) = nowOf l + 1 := by rw [nowOf_snoc]; rfl

theorem reC_eq (l : List StepV) (N : Nat) (h : Int) : reC l N h = enC (insOf l N) h := by
  unfold reC enC
  rw [insOf_length]
  by_cases h0 : 0 ≤ h ∧ h < (N : Int)
  · rw [if_pos h0, if_pos h0, insOf_get l N _ (by omega), Int.toNat_of_nonneg h0.1]
    have := inOf_pos l h
    by_cases h1 : inOf l h = 0
    · rw [if_pos h1, if_neg (by omega)]
    · rw [if_neg h1, if_pos (by omega)]
  · rw [if_neg h0, if_neg h0]
theorem reV_now (l : List StepV) (N : Nat) (h : Int) : reV l N h = enV (nowOf l) (insOf l N) h := by
  unfold reV enV; rw [reC_eq]
theorem reL_now (l : List StepV) (N : Nat) (h : Int) : nowOf (reL l N h) = nowOf l := by
  unfold reL
  split
  · rw [nowOf_snoc]; rfl
  · rfl
theorem reL_ins (l : List StepV) (N : Nat) (h : Int) : insOf (reL l N h) N = enI (nowOf l) (insOf l N) h := by
  unfold reL enI
  rw [reC_eq]
  split
  · rename_i h0
    have hh : 0 ≤ h ∧ h < (N : Int) := by
      unfold enC at h0
      rw [insOf_length] at h0
      split at h0
      · rename_i h1; exact h1
      · exact absurd h0 (by decide)
    refine insOf_set fun j hj => ?_
    rw [inOf_en]
    by_cases hjh : j = h.toNat
    · rw [if_pos hjh, if_pos (by omega)]
    · rw [if_neg hjh, if_neg (by omega)]
  · rfl
theorem lvs_now (l : List StepV) : ∀ ws : List Int, nowOf (l ++ lvs ws) = nowOf l := by
  intro ws
  induction ws generalizing l with
  | nil => simp [lvs]
  | cons x r ih =>
    have h1 : l ++ lvs (x :: r) = (l ++ [⟨2, x⟩]) ++ lvs r := by simp [lvs]
    rw [h1, ih, nowOf_snoc]
    rfl
theorem lvs_ins (N : Nat) : ∀ (ws : List Int) (l : List StepV), (∀ x ∈ ws, 0 ≤ x) → insOf (l ++ lvs ws) N = clr (insOf l N) ws := by
  intro ws
  induction ws with
  | nil => intro l _; simp [lvs, clr]
  | cons x r ih =>
    intro l h
    have h1 : l ++ lvs (x :: r) = (l ++ [⟨2, x⟩]) ++ lvs r := by simp [lvs]
    have hx := h x (List.mem_cons_self ..)
    rw [h1, ih _ fun y hy => h y (List.mem_cons_of_mem _ hy)]
    have h2 : insOf (l ++ [⟨2, x⟩]) N = (insOf l N).set x.toNat 0 := insOf_set fun j hj => by
      rw [inOf_lv]
      by_cases hjh : j = x.toNat
      · rw [if_pos hjh, if_pos (by omega)]
      · rw [if_neg hjh, if_neg (by omega)]
    rw [h2]
    rfl
theorem lvC_zero {ins ws : List Int} (h : lvC ins ws = 0) : LvOk1 ins ws := by
  unfold lvC at h
  split at h
  · assumption
  · exact absurd h (by decide)
theorem lvOk1_mem {ins ws : List Int} (h : LvOk1 ins ws) : ∀ x ∈ ws, 0 ≤ x := fun x hx => by
  obtain ⟨i, hi, he⟩ := List.mem_iff_getElem.1 hx
  have h1 := (h i hi).1.1
  rw [List.getD_eq_getElem?_getD, List.getElem?_eq_getElem hi] at h1
  rw [← he]
  exact h1
theorem rlL_now (l : List StepV) (N : Nat) (ws : List Int) : nowOf (rlL l N ws) = nowOf l := by
  unfold rlL
  split
  · exact lvs_now l ws
  · rfl
theorem rlL_ins (l : List StepV) (N : Nat) (ws : List Int) : insOf (rlL l N ws) N = lvI (insOf l N) ws := by
  unfold rlL lvI
  split
  · rename_i h
    exact lvs_ins N ws l (lvOk1_mem (lvC_zero h))
  · rfl
theorem reL_len (l : List StepV) (N : Nat) (h : Int) : (reL l N h).length ≤ l.length + 4 := by
  unfold reL
  split
  · simp
  · omega
theorem rlL_len (l : List StepV) (N : Nat) (ws : List Int) (hN : N ≤ 4) : (rlL l N ws).length ≤ l.length + 4 := by
  unfold rlL
  split
  · rename_i h
    rw [List.length_append, lvs_length]
    have := lvOk1_len (lvC_zero h) (by rw [insOf_length]; exact hN)
    omega
  · omega

/-- a clock and the document's beside it -/
structure Both (w0 w : World) (g gi gr : Nat) (v : Value) (N : Nat) (now : Int) (ins : List Int) (l : List StepV) : Prop where
  clk : ClockAt w g gi now ins
  ref : RClk w0.heap.size w gr N v l
  low : Below w0.heap.size w0 w
  ng : w0.heap.size ≤ g
  ngi : w0.heap.size ≤ gi
  ngr : w0.heap.size ≤ gr
section
variable {w0 w w' : World} {g gi gr : Nat} {v v' : Value} {N : Nat} {now now' : Int} {ins ins' : List Int} {l l' : List StepV}
theorem Both.more (P : Both w0 w g gi gr v N now ins l) (h : Below w.heap.size w w') : Both w0 w' g gi gr v N now ins l :=
  ⟨P.clk.below h, P.ref.below h, P.low.trans (h.mono P.low.size), P.ng, P.ngi, P.ngr⟩
theorem Both.drew (P : Both w0 w g gi gr v N now ins l) : Both w0 w.drew g gi gr v N now ins l := P.more (below_drewN (Below.refl _ _) 1)
theorem Both.drewN (P : Both w0 w g gi gr v N now ins l) (n : Nat) : Both w0 (w.drewN n) g gi gr v N now ins l := P.more (below_drewN (Below.refl _ _) n)
theorem Both.goI (P : Both w0 w g gi gr v N now ins l) (h : ClockAt w' g gi now' ins') (hn : Only w w' gi) : Both w0 w' g gi gr v N now' ins' l :=
  ⟨h, P.ref.tch (Tch.of_only hn) (fun e => Ob.ne_ P.ref.1 P.clk.2 (by decide) e) (fun i hi e => own_typed P.ref.2 P.clk.2 (by decide) (e ▸ hi)), Only.below P.low hn P.low.size P.ngi, P.ng, P.ngi, P.ngr⟩
theorem Both.goC (P : Both w0 w g gi gr v N now ins l) (h : ClockAt w' g gi now' ins') (hn : Only w w' g) : Both w0 w' g gi gr v N now' ins' l :=
  ⟨h, P.ref.tch (Tch.of_only hn) (fun e => Ob.ne_ P.ref.1 P.clk.1 (by decide) e) (fun i hi e => own_typed P.ref.2 P.clk.1 (by decide) (e ▸ hi)), Only.below P.low hn P.low.size P.ng, P.ng, P.ngi, P.ngr⟩
theorem Both.goR (P : Both w0 w g gi gr v N now ins l) (h : CGrew w0 w w' gr N v v' l') : Both w0 w' g gi gr v' N now ins l' :=
  ⟨⟨P.clk.1.tch h.tch fun e => e.elim (fun e => Ob.ne_ P.clk.1 P.ref.1 (by decide) e) fun e => own_typed P.ref.2 P.clk.1 (by decide) e,
    P.clk.2.tch h.tch fun e => e.elim (fun e => Ob.ne_ P.clk.2 P.ref.1 (by decide) e) fun e => own_typed P.ref.2 P.clk.2 (by decide) e⟩, h.clk, h.low, P.ng, P.ngi, P.ngr⟩
theorem Both.eqs (P : Both w0 w g gi gr v N now ins l) (e : now = now') (f : ins = ins') : Both w0 w g gi gr v N now' ins' l := e ▸ f ▸ P
/-- another block of its own kind is left by these moves -/
theorem Both.farI (P : Both w0 w g gi gr v N now ins l) {q : Nat} {T : TypeId} {cs : List Value} (h : Ob w q T cs) (hn : Only w w' gi) (hT : T ≠ 3) : Ob w' q T cs := Ob.only h hn (Ob.ne_ h P.clk.2 hT)
theorem Both.farC (P : Both w0 w g gi gr v N now ins l) {q : Nat} {T : TypeId} {cs : List Value} (h : Ob w q T cs) (hn : Only w w' g) (hT : T ≠ 50) : Ob w' q T cs := Ob.only h hn (Ob.ne_ h P.clk.1 hT)
theorem Both.farR (P : Both w0 w g gi gr v N now ins l) {q : Nat} {T : TypeId} {cs : List Value} (h : Ob w q T cs) (hg : CGrew w0 w w' gr N v v' l') (hT : T ≠ 44) (hT2 : 53 ≠ T) : Ob w' q T cs :=
  h.tch hg.tch fun e => e.elim (fun e => Ob.ne_ h P.ref.1 hT e) fun e => own_typed P.ref.2 h hT2 e
end

theorem inV_ins (l : List StepV) (N : Nat) (h : Int) : inV (insOf l N) h = if 0 ≤ h ∧ h < (N : Int) then inOf l h else 0 := by
  unfold inV
  rw [insOf_length]
  split
  · rename_i h0; rw [insOf_get l N _ (by omega), Int.toNat_of_nonneg h0.1]
  · rfl
theorem inV_bool (x : Int) (h : 0 ≤ x) : (x != 0) = decide (0 < x) := by
  by_cases hx : x = 0
  · subst hx; rfl
  · have h1 : decide (0 < x) = true := by simp; omega
    rw [h1]; simpa using hx

end Go.Proofs.Ytaclegafgkbmaaa
