/-
  The document's clock of layer 17: what happened, as a list; now and who is in, by it; Now, In of tappetref17. Conditions: those of each theorem.
-/
import Derived.Test.YtaclegafgkbmaaaEpochZ
namespace Go.Proofs.Ytaclegafgkbmaaa
open Go.RowKit

/-- one thing that happened -/
structure StepV where
  kind : Int
  wk : Int
def step0 : StepV := ⟨0, 0⟩
def stv (a : StepV) : List Value := [.int .i64 a.kind, .int .i64 a.wk]
def stvs (l : List StepV) : List Value := l.flatMap stv
theorem stvs_length (l : List StepV) : (stvs l).length = l.length * 2 := by
  induction l with
  | nil => rfl
  | cons f r ih => simp only [stvs, List.flatMap_cons, List.length_append, List.length_cons] at ih ⊢; rw [ih, show (stv f).length = 2 from rfl]; omega
theorem stvs_app (a b : List StepV) : stvs (a ++ b) = stvs a ++ stvs b := List.flatMap_append
theorem stvs_get : ∀ (l : List StepV) (i j : Nat), i < l.length → j < 2 → (stvs l)[i * 2 + j]? = (stv (l.getD i step0))[j]?
  | f :: r, 0, j, _, hj => by
    simp only [stvs, List.flatMap_cons, Nat.zero_mul, Nat.zero_add]
    rw [List.getElem?_append_left hj]
    rfl
  | f :: r, i + 1, j, hi, hj => by
    simp only [stvs, List.flatMap_cons]
    have h5 : (stv f).length = 2 := rfl
    rw [List.getElem?_append_right (by rw [h5]; omega), h5, show (i + 1) * 2 + j - 2 = i * 2 + j from by omega]
    exact stvs_get r i j (by simpa using hi) hj
theorem stv_one (t : StepV) : ∀ u ∈ stv t, u.oneCell' = true := by
  intro u hu
  simp only [stv, List.mem_cons, List.mem_nil_iff, or_false] at hu
  rcases hu with rfl | rfl <;> rfl

/-- now and the epoch of a worker, by one thing that happened -/
def nowStep (n : Int) (a : StepV) : Int := if a.kind = 3 then n + 1 else n
def inStep (w : Int) (s : Int × Int) (a : StepV) : Int × Int := if a.kind = 3 then (s.1 + 1, s.2) else if a.wk = w then (if a.kind = 1 then (s.1, s.1) else (s.1, 0)) else s
def nowOf (l : List StepV) : Int := l.foldl nowStep 1
def inPair (l : List StepV) (w : Int) : Int × Int := l.foldl (inStep w) (1, 0)
def inOf (l : List StepV) (w : Int) : Int := (inPair l w).2
theorem nowOf_snoc (l : List StepV) (a : StepV) : nowOf (l ++ [a]) = nowStep (nowOf l) a := by unfold nowOf; rw [List.foldl_append]; rfl
theorem inPair_snoc (l : List StepV) (a : StepV) (w : Int) : inPair (l ++ [a]) w = inStep w (inPair l w) a := by unfold inPair; rw [List.foldl_append]; rfl
theorem snoc_ind {α : Type} {P : List α → Prop} (h0 : P []) (hs : ∀ l a, P l → P (l ++ [a])) (l : List α) : P l := by
  have h : ∀ m : List α, P m.reverse := by
    intro m
    induction m with
    | nil => exact h0
    | cons a r ih => rw [List.reverse_cons]; exact hs _ _ ih
  simpa using h l.reverse
theorem inPair_fst (l : List StepV) (w : Int) : (inPair l w).1 = nowOf l := by
  refine snoc_ind (P := fun l => (inPair l w).1 = nowOf l) rfl (fun l a ih => ?_) l
  · show (inPair (l ++ [a]) w).1 = nowOf (l ++ [a])
    rw [inPair_snoc, nowOf_snoc]
    unfold inStep nowStep
    split
    · rw [ih]
    · split
      · split <;> exact ih
      · exact ih
theorem step_take (l : List StepV) (k : Nat) (h : k < l.length) : l.take (k + 1) = l.take k ++ [l.getD k step0] := by
  rw [List.take_succ_eq_append_getElem h, List.getD_eq_getElem?_getD, List.getElem?_eq_getElem h]; rfl
theorem nowOf_le (l : List StepV) : nowOf l ≤ (l.length : Int) + 1 ∧ 1 ≤ nowOf l := by
  refine snoc_ind (P := fun l => nowOf l ≤ (l.length : Int) + 1 ∧ 1 ≤ nowOf l) ⟨by simp [nowOf], by simp [nowOf]⟩ (fun l a ih => ?_) l
  · show nowOf (l ++ [a]) ≤ ((l ++ [a]).length : Int) + 1 ∧ 1 ≤ nowOf (l ++ [a])
    rw [nowOf_snoc, List.length_append]
    unfold nowStep
    simp only [List.length_cons, List.length_nil]
    split <;> omega

/-- the list reads, at A -/
theorem steps_at {w : World} {A : Option Addr} {l : List StepV} (h : Sl w A (stvs l)) (hn : 0 < l.length) :
    ∃ b o, A = some ⟨b, o, none⟩ ∧ b < w.heap.size ∧ ∀ k, k < l.length → ∀ j, j < 2 → w.cell? ⟨b, o + k * 2 + j, none⟩ = some ((stv (l.getD k step0)).getD j undef) := by
  obtain ⟨b, o, e, hc⟩ := h (by rw [stvs_length]; omega)
  rw [stvs_length] at hc
  refine ⟨b, o, e, cell_lt (hc 0 (by omega)), fun k hk j hj => ?_⟩
  have h1 := hc (k * 2 + j) (by omega)
  rw [← Nat.add_assoc] at h1
  rw [h1, List.getD_eq_getElem?_getD, stvs_get l k j hk hj, ← List.getD_eq_getElem?_getD]

/-- the document's clock: its block, how many workers, its list -/
def RClk (B : Nat) (w : World) (g : Nat) (N : Int) (v : Value) (l : List StepV) : Prop := Ob w g 44 [.int .i64 N, v] ∧ w.ownsRow B 53 2 v l.length (stvs l)
theorem RClk.form {B : Nat} {w : World} {g : Nat} {N : Int} {v : Value} {l : List StepV} (h : RClk B w g N v l) : ∃ A c, v = .slice A l.length c ∧ Sl w A (stvs l) := by
  obtain ⟨A, c, hv, _, _, hs, _⟩ := own_form h.2
  exact ⟨A, c, hv, hs⟩

set_option maxRecDepth 100000 in
set_option maxHeartbeats 1000000 in
theorem rnow_any (B : Nat) (w : World) (g : Nat) (N : Int) (v : Value) (l : List StepV) (hmax : l.length ≤ 100000) (h : RClk B w g N v l) :
    Calls Try.prog 23 #[.pointer (some ⟨g, 0, none⟩)] w fun e w' => e = .returned (.int .i64 (nowOf l)) ∧ w = w' := by
  obtain ⟨A, c, rfl, hs⟩ := h.form
  have HS := Lib.hid hs
  have hc : w.cell? ⟨g, 1, none⟩ = some (.slice A l.length c) := h.1.cell 1
  obtain ⟨n, hn⟩ : ∃ n, l.length = n := ⟨_, rfl⟩
  rw [hn] at hc hmax
  have HN := Lib.hid hn
  obtain ⟨X, hX⟩ : ∃ X, nowOf l = X := ⟨_, rfl⟩
  rw [hX]
  have HX := Lib.hid hX
  clear hs h hn hX
  go_enter Try.func23, Try.ntmps23
  go_wp2_with fail
  go_loopw [3, 4] (fun u i wr => ∃ (k : Nat) (s : Int), k ≤ n ∧ u = .int .i64 s ∧ i = .int .i64 k ∧ w = wr ∧ s = nowOf (l.take k)) (fun _ i _ => n - (intOf i).toNat)
  case atStart => exact ⟨0, 1, Nat.zero_le _, rfl, rfl, rfl, rfl⟩
  case round =>
    obtain ⟨k, s, hk, rfl, rfl, rfl, hs⟩ := hrel
    have HSK := Lib.hid hs
    have hsb := nowOf_le (l.take k)
    rw [← hs] at hsb
    have hlk : (l.take k).length ≤ n := by rw [List.length_take, HN.out]; omega
    have hs1 : s ≤ 100001 := by omega
    have hs2 : 1 ≤ s := hsb.2
    clear hs hsb hlk
    by_cases hlt : k < n
    · have hkl : k < l.length := by have := HN.out; omega
      obtain ⟨b, o, rfl, hbl, hcc⟩ := steps_at HS.out (by omega)
      have f0 : w.cell? ⟨b, o + k * 2, none⟩ = some ((stv (l.getD k step0)).getD 0 undef) := hcc k hkl 0 (by omega)
      have HT := Lib.hid (show nowOf (l.take (k + 1)) = nowStep (nowOf (l.take k)) (l.getD k step0) by rw [step_take l k hkl, nowOf_snoc])
      clear hcc
      have g1 : (k : Int) < (n : Int) := by omega
      generalize l.getD k step0 = t at f0 HT
      obtain ⟨kd, wk⟩ := t
      replace f0 : w.cell? ⟨b, o + k * 2, none⟩ = some (.int .i64 kd) := f0
      by_cases h3 : kd = 3
      · subst h3
        have HT2 := Lib.hid (show s + 1 = nowOf (l.take (k + 1)) by rw [HT.out, ← HSK.out]; rfl)
        go_wp2_with fail
        refine ⟨⟨k + 1, s + 1, by omega, rfl, by go_num, trivial, HT2.out⟩, by simp [intOf]; omega⟩
      · have h3' : (kd == 3) = false := by simpa using h3
        have HT2 := Lib.hid (show s = nowOf (l.take (k + 1)) by rw [HT.out, ← HSK.out]; unfold nowStep; rw [if_neg h3])
        go_wp2_with fail
        refine ⟨⟨k + 1, s, by omega, rfl, by go_num, trivial, HT2.out⟩, by simp [intOf]; omega⟩
    · have g1 : ¬ (k : Int) < (n : Int) := by omega
      have HT2 := Lib.hid (show s = X by rw [HSK.out, ← HX.out, List.take_of_length_le (by have := HN.out; omega)])
      go_wp2_with fail
      go_ret
      exact ⟨by rw [← HT2.out]; rfl, rfl⟩

end Go.Proofs.Ytaclegafgkbmaaa
