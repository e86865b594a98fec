/-
  awake of layer 20. Conditions: none.
-/
import Derived.Test.YtkjffhlnghgkoaaStatsM
namespace Go.Proofs.Ytkjffhlnghgkoaa
open Go.RowKit

attribute [local go_sem] uv_nonneg uv_wrap uv_add uv_sub uv_add1 uv_sub1

theorem ItemAt.below {w w' : World} {x : Item} (h : ItemAt w x) (hb : Below w.heap.size w w') : ItemAt w' x := by
  cases x with
  | none => trivial
  | some y => exact Ob.below h hb (Ob.lt h)

/-- Merge of a list that is laid for the call -/
theorem merge_new (items : List Item) (w : World) (b : Nat) (hbw : b = w.heap.size) (hi : ∀ x ∈ items, ItemAt w x) (cs : Array Value) (hcs : cs = (items.map ptrOf).toArray) (n : Nat) (hn : n = items.length) (hmax : n ≤ 4611686018427387904) :
    Calls Try.prog 15 #[.slice (some ⟨b, 0, none⟩) n n] (w.alloc (.cells cs 31)) fun e w' =>
      ∃ g, e = .returned (.slice (some ⟨g, 0, none⟩) 4 4) ∧ w.heap.size ≤ g ∧ Ob w' g 26 ([] ++ (arr 20 (tot items) ++ [])) ∧ Below w.heap.size w w' := by
  subst hbw
  have hal : Below w.heap.size w (w.alloc (.cells cs 31)) := (Below.refl _ _).alloc (Nat.le_refl _) _
  refine (merge_some items w.heap.size 0 n n hn hmax _ (fun j hj => ?_) (fun x hx => (hi x hx).below hal)).mono ?_
  · subst hcs
    rw [Nat.zero_add, cell_of_row _ _ _ _ _ _ (heap_alloc_new w _)]
    simp [hj]
  · rintro e w' ⟨g, rfl, hg, ho, hb⟩
    exact ⟨g, rfl, Nat.le_trans hal.size hg, ho, hal.trans (hb.mono hal.size)⟩

theorem ran_at (n : Int) (x y z : Int) (h : Nat) (s c r : BitVec 64) (hn : n = (h : Int)) (hx : x = uv s) (hy : y = uv c) (hz : z = uv r) (g : Nat) (H : Nat → BitVec 64) (hh : h < 4) (w : World) (hob : StatAt w g H) :
    Calls Try.prog 16 #[.pointer (some ⟨g, 0, none⟩), .int .i64 n, .int .u64 x, .int .u64 y, .int .u64 z] w fun e w' => e = .returned (.int .i64 0) ∧ StatAt w' g (addAt H h (oneRun s c r)) ∧ Only w w' g := by
  subst hn hx hy hz
  exact ran_in g h H s c r hh w hob
theorem of_at (n : Int) (h : Nat) (hn : n = (h : Int)) (g : Nat) (H : Nat → BitVec 64) (hh : h < 4) (w : World) (hob : StatAt w g H) :
    Calls Try.prog 13 #[.pointer (some ⟨g, 0, none⟩), .int .i64 n] w fun e w' => e = .returned (.tuple #[tVal (tl H h), .int .i64 0]) ∧ Below w.heap.size w w' := by
  subst hn
  exact of_in g h H hh w hob

def exH : Nat → BitVec 64 := addAt (fun _ => 0#64) 1 (oneRun 10#64 2#64 5#64)
theorem exT : tVal (tl exH 1) = .agg #[.int .u64 1, .int .u64 0, .int .u64 10, .int .u64 2, .int .u64 5] := by kernel_rfl

set_option maxRecDepth 100000 in
set_option maxHeartbeats 800000 in
theorem awake_any (w : World) :
    Calls Try.prog 6 #[] w fun e w' => e = .returned (.bool true) ∧ Below w.heap.size w w' := by
  go_enter Try.func6, Try.ntmps6
  go_wp2_with fail
  refine (new_any w).mono ?_
  rintro e w1 ⟨g, rfl, hg, hx, hb⟩
  have HX := Lib.hid hx
  have HB := Lib.hid hb
  have HG := Lib.hid (show w.heap.size ≤ g by omega)
  clear hg hx hb
  go_wp2_with fail
  refine (ran_at 1 10 2 5 1 10#64 2#64 5#64 rfl rfl rfl rfl g _ (by omega) w1 HX.out).mono ?_
  rintro e w2 ⟨rfl, hx, hn⟩
  have HX2 : Hid (StatAt w2 g exH) := hx
  have HB2 := Lib.hid (Only.below HB.out hn HB.out.size HG.out)
  clear hx hn
  go_wp2_with fail
  refine (of_at 1 1 rfl g _ (by omega) w2 HX2.out).mono ?_
  rintro e w3 ⟨rfl, hb⟩
  rw [exT]
  have HX3 : Hid (StatAt w3 g exH) := Ob.below HX2.out hb HX2.out.lt
  have HB3 := Lib.hid (HB2.out.trans (hb.mono HB2.out.size))
  clear hb
  go_wp2_with fail
  refine (merge_new [some (g, exH), none] _ _ (by simp) ?_ _ rfl 2 rfl (by omega)).mono ?_
  · intro x hx
    simp only [List.mem_cons, List.not_mem_nil, or_false] at hx
    rcases hx with rfl | rfl
    · exact Ob.alloc HX3.out _
    · trivial
  rintro e w4 ⟨gm, rfl, hgm, hom, hb⟩
  have HB4 := Lib.hid ((below_alloc HB3.out _).trans (hb.mono (below_alloc HB3.out _).size))
  clear hb
  go_wp2_with fail
  go_ret
  exact ⟨rfl, HB4.out⟩

end Go.Proofs.Ytkjffhlnghgkoaa
