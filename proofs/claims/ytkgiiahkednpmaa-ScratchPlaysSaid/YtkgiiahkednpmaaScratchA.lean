/-
  awake of layer 10. Conditions: none.
-/
import Derived.Test.YtkgiiahkednpmaaScratchW
namespace Go.Proofs.Ytkgiiahkednpmaa
open Go.RowKit

attribute [local go_sem] uv_nonneg uv_wrap uv_add uv_sub uv_add1 uv_sub1

theorem store_at (n : Int) (x : Int) (j : Nat) (u : BitVec 64) (hn : n = (j : Int)) (hx : x = uv u) (g o : Nat) (t : TypeId) (pre post : List Value) (ks : Nat → BitVec 64) (hj : j < 16) (ho : o = pre.length) (w : World) (hob : Ob w g t (pre ++ (arr 16 ks ++ post))) :
    Calls Try.prog 15 #[.pointer (some ⟨g, o, none⟩), .int .i64 n, .int .u64 x] w (Made w g t (.int .i64 0) (pre ++ (arr 16 (upd ks j u) ++ post))) := by
  subst hn hx
  exact store_in g o j t pre post ks u hj ho w hob
theorem load_at (n : Int) (j : Nat) (hn : n = (j : Int)) (g o : Nat) (t : TypeId) (pre post : List Value) (ks : Nat → BitVec 64) (hj : j < 16) (ho : o = pre.length) (w : World) (hob : Ob w g t (pre ++ (arr 16 ks ++ post))) :
    Calls Try.prog 16 #[.pointer (some ⟨g, o, none⟩), .int .i64 n] w fun e w' => e = .returned (.tuple #[.int .u64 (uv (ks j)), .int .i64 0]) ∧ w = w' := by
  subst hn
  exact load_in g o j t pre post ks hj ho w hob
theorem mark_at (n : Int) (j : Nat) (hn : n = (j : Int)) (g o : Nat) (t : TypeId) (pre post : List Value) (ks : Nat → BitVec 64) (hj : j < 16) (ho : o = pre.length) (w : World) (hob : Ob w g t (pre ++ (arr 16 ks ++ post))) :
    Calls Try.prog 12 #[.pointer (some ⟨g, o, none⟩), .int .i64 n] w (Made w g t (.tuple #[.int .u64 (uv (ks j + 1#64)), .int .i64 0]) (pre ++ (arr 16 (upd ks j (ks j + 1#64)) ++ post))) := by
  subst hn
  exact mark_in g o j t pre post ks hj ho w hob
theorem count_at (n : Int) (j : Nat) (hn : n = (j : Int)) (g o : Nat) (t : TypeId) (pre post : List Value) (ks : Nat → BitVec 64) (hj : j < 16) (ho : o = pre.length) (w : World) (hob : Ob w g t (pre ++ (arr 16 ks ++ post))) :
    Calls Try.prog 18 #[.pointer (some ⟨g, o, none⟩), .int .i64 n] w fun e w' => e = .returned (.tuple #[.int .u64 (uv (ks j)), .int .i64 0]) ∧ w = w' := by
  subst hn
  exact count_in g o j t pre post ks hj ho w hob

theorem ScrAt.fresh (w : World) : ScrAt (w.alloc (.cells (arr 16 zz ++ (arr 16 zz ++ [])).toArray 34)) w.heap.size zz zz := Ob.fresh w _ _

theorem ItemAt.below {w w' : World} {x : Item} (h : ItemAt w x) (hb : Below w.heap.size w w') : ItemAt w' x := by
  cases x with
  | none => trivial
  | some y => exact Ob.below h hb (Ob.lt h)

/-- Totals of a list that is laid for the call -/
theorem totals_new (items : List Item) (w : World) (hi : ∀ x ∈ items, ItemAt w x) (cs : Array Value) (hcs : cs = (items.map ptrOf).toArray) (n : Nat) (hn : n = items.length) (hmax : n ≤ 4611686018427387904) :
    Calls Try.prog 10 #[.slice (some ⟨w.heap.size, 0, none⟩) n n] (w.alloc (.cells cs 24)) fun e w' =>
      ∃ v, e = .returned v ∧ w'.ownsRow w.heap.size 27 1 v 16 (arr 16 (tot items)) ∧ Below w.heap.size w w' := by
  have hal : Below w.heap.size w (w.alloc (.cells cs 24)) := (Below.refl _ _).alloc (Nat.le_refl _) _
  refine (totals_some items w.heap.size 0 n n hn hmax _ (fun j hj => ?_) (fun x hx => (hi x hx).below hal)).mono ?_
  · subst hcs
    rw [Nat.zero_add, cell_of_row _ _ _ _ _ _ (heap_alloc_new w _)]
    simp [hj]
  · rintro e w' ⟨v, rfl, hown, hb⟩
    exact ⟨v, rfl, own_base hown hal.size, hal.trans (hb.mono hal.size)⟩

set_option maxRecDepth 100000 in
set_option maxHeartbeats 800000 in
theorem awake_any (w : World) :
    Calls Try.prog 7 #[] w fun e w' => e = .returned (.bool true) ∧ Below w.heap.size w w' := by
  go_enter Try.func7, Try.ntmps7
  go_wp2_with fail
  refine (new_any w).mono ?_
  rintro e w1 ⟨rfl, hw1⟩
  have hob : ScrAt w1 w.heap.size zz zz := by rw [← hw1]; exact ScrAt.fresh w
  have hbl : Below w.heap.size w w1 := by rw [← hw1]; exact (Below.refl _ _).alloc (Nat.le_refl _) _
  have HOB := Lib.hid hob
  have HBL := Lib.hid hbl
  clear hob hbl hw1
  go_wp2_with fail
  refine (store_at 3 7 3 7#64 rfl rfl w.heap.size 0 34 [] _ zz (by omega) rfl w1 HOB.out).mono ?_
  rintro e w2 ⟨rfl, hob, hon⟩
  have HOB2 := Lib.hid hob
  have HBL2 := Lib.hid (Only.below HBL.out hon HBL.out.size (Nat.le_refl _))
  clear hob hon
  go_wp2_with fail
  refine (load_at 3 3 rfl w.heap.size 0 34 [] _ _ (by omega) rfl w2 HOB2.out).mono ?_
  rintro e w' ⟨rfl, rfl⟩
  have e1 : uv (upd zz 3 7#64 3) = 7 := by decide +kernel
  rw [e1]
  clear e1
  go_wp2_with fail
  refine (mark_at 0 0 rfl w.heap.size 16 34 (arr 16 (upd zz 3 7#64)) [] zz (by omega) (by rw [arr_length]) w2 HOB2.out).mono ?_
  rintro e w3 ⟨rfl, hob, hon⟩
  have e1 : uv (zz 0 + 1#64) = 1 := by decide +kernel
  rw [e1]
  have HOB3 := Lib.hid hob
  have HBL3 := Lib.hid (Only.below HBL2.out hon HBL2.out.size (Nat.le_refl _))
  clear hob hon e1
  go_wp2_with fail
  refine (totals_new [some (w.heap.size, upd zz 3 7#64, upd zz 0 (zz 0 + 1#64)), none] w3 ?_ _ rfl 2 rfl (by omega)).mono ?_
  · intro x hx
    simp only [List.mem_cons, List.not_mem_nil, or_false] at hx
    rcases hx with rfl | rfl
    · exact HOB3.out
    · trivial
  rintro e w4 ⟨v, rfl, hown, hb⟩
  obtain ⟨A4, c4, hv, _⟩ := own_form hown
  have HB4 := Lib.hid (HBL3.out.trans (hb.mono HBL3.out.size))
  rw [hv]
  clear hown hb hv
  go_wp2_with fail
  go_ret
  exact ⟨rfl, HB4.out⟩

end Go.Proofs.Ytkgiiahkednpmaa
