/-
  New, known, Ran, Of of the layer stats. Conditions: none.
-/
import Derived.Test.YtkjffhlnghgkoaaStatsW
import Derived.Deep.RegionWith
namespace Go.Proofs.Ytkjffhlnghgkoaa
open Go.RowKit

attribute [local go_sem] uv_nonneg uv_wrap uv_add uv_sub uv_add1 uv_sub1

/-- one hook's tally out of the twenty numbers -/
def tl (H : Nat → BitVec 64) (h : Nat) : Tly := fun j => H (h * 5 + j)
def addAt (H : Nat → BitVec 64) (h : Nat) (t : Tly) : Nat → BitVec 64 := fun i => if i / 5 = h then H i + t (i % 5) else H i
theorem tl_addAt (H : Nat → BitVec 64) (h k : Nat) (t : Tly) (j : Nat) (hj : j < 5) : tl (addAt H h t) k j = if k = h then tl H k j + t j else tl H k j := by
  unfold tl addAt
  rw [show (k * 5 + j) / 5 = k from by omega, show (k * 5 + j) % 5 = j from by omega]
def StatAt (w : World) (g : Nat) (H : Nat → BitVec 64) : Prop := Ob w g 54 ([] ++ (arr 20 H ++ []))
def Hook (h : Int) : Prop := 0 ≤ h ∧ h < 4

set_option maxHeartbeats 400000 in
theorem new_any (w : World) :
    Calls Try.prog 9 #[] w fun e w' => ∃ g, e = .returned (.pointer (some ⟨g, 0, none⟩)) ∧ g = w.heap.size ∧ StatAt w' g (fun _ => 0#64) ∧ Below w.heap.size w w' := by
  go_enter Try.func9, Try.ntmps9
  go_wp2
  go_ret
  exact ⟨w.heap.size, rfl, rfl, Ob.fresh w 54 (arr 20 (fun _ => 0#64)), below_alloc (Below.refl _ _) _⟩

set_option maxHeartbeats 400000 in
theorem known_in (h : Int) (hh : Hook h) (w : World) : Calls Try.prog 18 #[.int .i64 h] w fun e w' => e = .returned (.bool true) ∧ w = w' := by
  obtain ⟨h1, h2⟩ := hh
  go_enter Try.func18, Try.ntmps18
  go_wp2
  go_ret
  exact ⟨rfl, rfl⟩
set_option maxHeartbeats 400000 in
theorem known_out (h : Int) (hh : ¬ Hook h) (w : World) : Calls Try.prog 18 #[.int .i64 h] w fun e w' => e = .returned (.bool false) ∧ w = w' := by
  by_cases h1 : 0 ≤ h
  · have h2 : decide (h < 4) = false := by unfold Hook at hh; simp; omega
    clear hh
    go_enter Try.func18, Try.ntmps18
    go_wp2
    go_ret
    exact ⟨rfl, rfl⟩
  · have h2 : decide (0 ≤ h) = false := by simpa using h1
    clear hh h1
    go_enter Try.func18, Try.ntmps18
    go_wp2
    go_ret
    exact ⟨rfl, rfl⟩

theorem StatAt.cells {w : World} {g : Nat} {H : Nat → BitVec 64} (h : StatAt w g H) (k : Nat) (hk : k < 4) (j : Nat) (hj : j < 5) : w.cell? ⟨g, k * 5 + j, none⟩ = some (.int .u64 (uv (tl H k j))) := by
  have := h.at_ (k * 5 + j) (by omega)
  rw [List.length_nil, Nat.zero_add] at this
  exact this

/-- Add of two that are laid for the call -/
theorem add_two (b : Nat) (f g : Tly) (w : World) (ho : Ob w b 26 (arr 5 f ++ arr 5 g)) :
    Calls Try.prog 7 #[.slice (some ⟨b, 0, none⟩) 2 2] w fun e w' => e = .returned (tVal (tAdd f g)) ∧ Below w.heap.size w w' := by
  have e : tVal (tSum [f, g]) = tVal (tAdd f g) := by simp [tVal, tSum, tAdd]
  rw [← e]
  refine add_some [f, g] b 0 2 2 rfl (by omega) w (fun i hi j hj => ?_) ho.lt
  rw [ho.cell]
  match i, hi with
  | 0, _ => rw [List.getElem?_append_left (by rw [arr_length]; omega), show 0 + 0 * 5 + j = j from by omega, arr_get 5 f j hj]; rfl
  | 1, _ => rw [List.getElem?_append_right (by rw [arr_length]; omega), arr_length, show 0 + 1 * 5 + j - 5 = j from by omega, arr_get 5 g j hj]; rfl

/-- what Ran adds -/
def oneRun (s c r : BitVec 64) : Tly := fun j => match j with | 0 => 1#64 | 1 => 0#64 | 2 => s | 3 => c | _ => r

theorem ob20_put {w : World} {g : Nat} {T : TypeId} {H : Nat → BitVec 64} (hs : Ob w g T ([] ++ (arr 20 H ++ []))) (h : Nat) (hh : h < 4) (t : Tly) :
    Ob (((((w.setCell ⟨g, h * 5, none⟩ (.int .u64 (uv (tl H h 0 + t 0)))).setCell ⟨g, h * 5 + 1, none⟩ (.int .u64 (uv (tl H h 1 + t 1)))).setCell ⟨g, h * 5 + 2, none⟩ (.int .u64 (uv (tl H h 2 + t 2)))).setCell ⟨g, h * 5 + 3, none⟩ (.int .u64 (uv (tl H h 3 + t 3)))).setCell ⟨g, h * 5 + 4, none⟩ (.int .u64 (uv (tl H h 4 + t 4)))) g T ([] ++ (arr 20 (addAt H h t) ++ [])) := by
  have h0 := ((((Ob.put hs (h * 5) (by omega) (tl H h 0 + t 0)).put (h * 5 + 1) (by omega) (tl H h 1 + t 1)).put (h * 5 + 2) (by omega) (tl H h 2 + t 2)).put (h * 5 + 3) (by omega) (tl H h 3 + t 3)).put (h * 5 + 4) (by omega) (tl H h 4 + t 4)
  simp only [List.length_nil, Nat.zero_add] at h0
  have e : arr 20 (upd (upd (upd (upd (upd H (h * 5) (tl H h 0 + t 0)) (h * 5 + 1) (tl H h 1 + t 1)) (h * 5 + 2) (tl H h 2 + t 2)) (h * 5 + 3) (tl H h 3 + t 3)) (h * 5 + 4) (tl H h 4 + t 4)) = arr 20 (addAt H h t) := by
    refine arr_congr fun i hi => ?_
    unfold upd addAt tl
    by_cases hd : i / 5 = h
    · rw [if_pos hd]
      obtain ⟨j, hj, rfl⟩ : ∃ j, j < 5 ∧ i = h * 5 + j := ⟨i % 5, by omega, by omega⟩
      rw [show (h * 5 + j) % 5 = j from by omega]
      match j, hj with
      | 0, _ => simp
      | 1, _ => simp
      | 2, _ => simp
      | 3, _ => simp
      | 4, _ => simp
    · rw [if_neg hd, if_neg (by omega), if_neg (by omega), if_neg (by omega), if_neg (by omega), if_neg (by omega)]
  rw [← e]
  exact h0
theorem StatAt.put {w : World} {g : Nat} {H : Nat → BitVec 64} (hs : StatAt w g H) (h : Nat) (hh : h < 4) (t : Tly) :
    StatAt (((((w.setCell ⟨g, h * 5, none⟩ (.int .u64 (uv (tl H h 0 + t 0)))).setCell ⟨g, h * 5 + 1, none⟩ (.int .u64 (uv (tl H h 1 + t 1)))).setCell ⟨g, h * 5 + 2, none⟩ (.int .u64 (uv (tl H h 2 + t 2)))).setCell ⟨g, h * 5 + 3, none⟩ (.int .u64 (uv (tl H h 3 + t 3)))).setCell ⟨g, h * 5 + 4, none⟩ (.int .u64 (uv (tl H h 4 + t 4)))) g (addAt H h t) :=
  ob20_put hs h hh t
theorem ob20_cells {w : World} {g : Nat} {T : TypeId} {H : Nat → BitVec 64} (h : Ob w g T ([] ++ (arr 20 H ++ []))) (k : Nat) (hk : k < 4) (j : Nat) (hj : j < 5) : w.cell? ⟨g, k * 5 + j, none⟩ = some (.int .u64 (uv (tl H k j))) := by
  have := h.at_ (k * 5 + j) (by omega)
  rw [List.length_nil, Nat.zero_add] at this
  exact this

set_option maxRecDepth 100000 in
set_option maxHeartbeats 1000000 in
theorem ran_in (g h : Nat) (H : Nat → BitVec 64) (s c r : BitVec 64) (hh : h < 4) (w : World) (hob : StatAt w g H) :
    Calls Try.prog 16 #[.pointer (some ⟨g, 0, none⟩), .int .i64 h, .int .u64 (uv s), .int .u64 (uv c), .int .u64 (uv r)] w fun e w' => e = .returned (.int .i64 0) ∧ StatAt w' g (addAt H h (oneRun s c r)) ∧ Only w w' g := by
  have HO := Lib.hid hob
  have HH := Lib.hid hh
  have f0 : w.cell? ⟨g, h * 5, none⟩ = some (.int .u64 (uv (tl H h 0))) := hob.cells h hh 0 (by omega)
  have f1 := hob.cells h hh 1 (by omega)
  have f2 := hob.cells h hh 2 (by omega)
  have f3 := hob.cells h hh 3 (by omega)
  have f4 := hob.cells h hh 4 (by omega)
  clear hob
  go_enter Try.func16, Try.ntmps16
  go_wp2_with fail
  refine (known_in h ⟨by omega, by omega⟩ w).mono ?_
  rintro e w' ⟨rfl, rfl⟩
  go_wp2_with fail
  go_region_with
    (go_at_call 7
     refine (add_two w.heap.size (tl H h) (oneRun s c r) _ (Ob.drew (Ob.fresh w 26 (arr 5 (tl H h) ++ arr 5 (oneRun s c r))))).mono ?_
     rintro e w1 ⟨rfl, hb1⟩
     unfold tVal
     have hal : Below w.heap.size w (w.alloc (.cells (arr 5 (tl H h) ++ arr 5 (oneRun s c r)).toArray 26)).drew := ((Below.refl _ _).alloc (Nat.le_refl _) _).drew
     have B1 := Lib.hid (hal.trans (hb1.mono hal.size))
     have O1 : Hid (StatAt w1 g H) := Ob.below HO.out B1.out HO.out.lt
     have a0 : w1.cell? ⟨g, h * 5, none⟩ = some (.int .u64 (uv (tl H h 0))) := O1.out.cells h HH.out 0 (by omega)
     have a1 := O1.out.cells h HH.out 1 (by omega)
     have a2 := O1.out.cells h HH.out 2 (by omega)
     have a3 := O1.out.cells h HH.out 3 (by omega)
     have a4 := O1.out.cells h HH.out 4 (by omega)
     have z0 : ∀ i, w1.frozen? ⟨g, i, none⟩ = false := O1.out.frozen
     clear hb1 hal f0 f1 f2 f3 f4)
  all_goals go_wp2_with fail
  all_goals go_ret
  all_goals exact ⟨rfl, StatAt.put O1.out h HH.out (oneRun s c r), (((((Only.of_below B1.out g).setCell rfl _).setCell rfl _).setCell rfl _).setCell rfl _).setCell rfl _⟩

set_option maxHeartbeats 400000 in
theorem ran_out (p a b c : Value) (h : Int) (hh : ¬ Hook h) (w : World) :
    Calls Try.prog 16 #[p, .int .i64 h, a, b, c] w fun e w' => e = .returned (.int .i64 2) ∧ w = w' := by
  go_enter Try.func16, Try.ntmps16
  go_wp2_with fail
  refine (known_out h hh w).mono ?_
  rintro e w' ⟨rfl, rfl⟩
  go_wp2_with fail
  go_ret
  exact ⟨rfl, rfl⟩

theorem ob5_read {P : Program} {fn : Func} {w : World} {b : Nat} {f : Tly} {T : TypeId} (ho : Ob w b T (arr 5 f)) : ∀ j, j < 5 → w.cell? ⟨b, j, none⟩ = some (.int .u64 (uv (f j))) := fun j hj => by
  rw [ho.cell, arr_get 5 f j hj]

set_option maxRecDepth 100000 in
set_option maxHeartbeats 800000 in
theorem of_in (g h : Nat) (H : Nat → BitVec 64) (hh : h < 4) (w : World) (hob : StatAt w g H) :
    Calls Try.prog 13 #[.pointer (some ⟨g, 0, none⟩), .int .i64 h] w fun e w' => e = .returned (.tuple #[tVal (tl H h), .int .i64 0]) ∧ Below w.heap.size w w' := by
  have hz : Ob (w.alloc (.cells #[.int .u64 0, .int .u64 0, .int .u64 0, .int .u64 0, .int .u64 0] 26)) w.heap.size 26 (arr 5 z5) := Ob.fresh w 26 (arr 5 z5)
  have HZ := Lib.hid hz
  have HO : Hid (StatAt (w.alloc (.cells #[.int .u64 0, .int .u64 0, .int .u64 0, .int .u64 0, .int .u64 0] 26)) g H) := hob.alloc _
  have HB := Lib.hid (below_alloc (Below.refl w.heap.size w) (.cells #[.int .u64 0, .int .u64 0, .int .u64 0, .int .u64 0, .int .u64 0] 26))
  have hgl := hob.lt
  clear hz hob
  go_enter Try.func13, Try.ntmps13
  go_upto_region 1 with fail
  generalize w.alloc (.cells #[.int .u64 0, .int .u64 0, .int .u64 0, .int .u64 0, .int .u64 0] 26) = w1 at HZ HO HB ⊢
  generalize hq : w.heap.size = q at HZ HB hgl ⊢
  have HQ := Lib.hid hq
  clear hq
  go_wp2_with fail
  refine (known_in h ⟨by omega, by omega⟩ w1).mono ?_
  rintro e w' ⟨rfl, rfl⟩
  have a0 : w1.cell? ⟨g, h * 5, none⟩ = some (.int .u64 (uv (tl H h 0))) := HO.out.cells h hh 0 (by omega)
  have a1 := HO.out.cells h hh 1 (by omega)
  have a2 := HO.out.cells h hh 2 (by omega)
  have a3 := HO.out.cells h hh 3 (by omega)
  have a4 := HO.out.cells h hh 4 (by omega)
  have z0 : ∀ i, w1.frozen? ⟨q, i, none⟩ = false := HZ.out.frozen
  have r0 : w1.cell? ⟨q, 0, none⟩ = some (.int .u64 0) := HZ.out.cell 0
  have r1 : w1.cell? ⟨q, 1, none⟩ = some (.int .u64 0) := HZ.out.cell 1
  have r2 : w1.cell? ⟨q, 2, none⟩ = some (.int .u64 0) := HZ.out.cell 2
  have r3 : w1.cell? ⟨q, 3, none⟩ = some (.int .u64 0) := HZ.out.cell 3
  have r4 : w1.cell? ⟨q, 4, none⟩ = some (.int .u64 0) := HZ.out.cell 4
  go_wp2_with fail
  have hw : Below q w (((((w1.setCell ⟨q, 0, none⟩ (.int .u64 (uv (tl H h 0)))).setCell ⟨q, 1, none⟩ (.int .u64 (uv (tl H h 1)))).setCell ⟨q, 2, none⟩ (.int .u64 (uv (tl H h 2)))).setCell ⟨q, 3, none⟩ (.int .u64 (uv (tl H h 3)))).setCell ⟨q, 4, none⟩ (.int .u64 (uv (tl H h 4)))) :=
    ((((HB.out.setCell (by simp) _).setCell (by simp) _).setCell (by simp) _).setCell (by simp) _).setCell (by simp) _
  have ho : Ob (((((w1.setCell ⟨q, 0, none⟩ (.int .u64 (uv (tl H h 0)))).setCell ⟨q, 1, none⟩ (.int .u64 (uv (tl H h 1)))).setCell ⟨q, 2, none⟩ (.int .u64 (uv (tl H h 2)))).setCell ⟨q, 3, none⟩ (.int .u64 (uv (tl H h 3)))).setCell ⟨q, 4, none⟩ (.int .u64 (uv (tl H h 4)))) q 26 (arr 5 (tl H h)) :=
    ((((HZ.out.set_ 0 _).set_ 1 _).set_ 2 _).set_ 3 _).set_ 4 _
  generalize ((((w1.setCell ⟨q, 0, none⟩ (.int .u64 (uv (tl H h 0)))).setCell ⟨q, 1, none⟩ (.int .u64 (uv (tl H h 1)))).setCell ⟨q, 2, none⟩ (.int .u64 (uv (tl H h 2)))).setCell ⟨q, 3, none⟩ (.int .u64 (uv (tl H h 3)))).setCell ⟨q, 4, none⟩ (.int .u64 (uv (tl H h 4))) = w2 at hw ho ⊢
  have s0 : w2.cell? ⟨q, 0, none⟩ = some (.int .u64 (uv (tl H h 0))) := ho.cell 0
  have s1 : w2.cell? ⟨q, 1, none⟩ = some (.int .u64 (uv (tl H h 1))) := ho.cell 1
  have s2 : w2.cell? ⟨q, 2, none⟩ = some (.int .u64 (uv (tl H h 2))) := ho.cell 2
  have s3 : w2.cell? ⟨q, 3, none⟩ = some (.int .u64 (uv (tl H h 3))) := ho.cell 3
  have s4 : w2.cell? ⟨q, 4, none⟩ = some (.int .u64 (uv (tl H h 4))) := ho.cell 4
  exact bodyPost_ret (v := .tuple #[tVal (tl H h), .int .i64 0]) (by simp [results, Try.results13, go_sem, tVal, s0, s1, s2, s3, s4]) rfl ⟨rfl, by rw [HQ.out]; exact hw⟩

end Go.Proofs.Ytkjffhlnghgkoaa
