/-
  Layer 8: the table of helpers, as the row lays it; the program's and the reference's small functions. Conditions: those of each theorem.
-/
import Derived.Test.YthmfenagdoefcaaDoorChecked
import Derived.Test.YthmfenagdoefcaaDoorBv
import Derived.Test.YthmfenagdoefcaaDoorMem
import Derived.Test.YthmfenagdoefcaaDoorObj
import Derived.Test.YthmfenagdoefcaaDoorGrow
import Derived.Test.YthmfenagdoefcaaDoorOpenS
import Derived.LoopTactic
import Derived.LoopN
import Derived.BigRegion
import Derived.BigQuiet
import Derived.Deep.RegionWith
import Derived.Deep.DeepCutAuto
namespace Go.Proofs.YthmfenagdoefcaaDoor
open Go.RowKit

/-- the table: names, what is wanted, the most, what it asks, whether it does; 7: none -/
def nmB : Nat → ByteArray
  | 0 => ⟨#[103, 101, 116]⟩ | 1 => ⟨#[104, 97, 115]⟩ | 2 => ⟨#[112, 117, 116]⟩ | 3 => ⟨#[100, 101, 108]⟩ | 4 => ⟨#[97, 100, 100]⟩ | 5 => ⟨#[109, 97, 114, 107]⟩ | 6 => ⟨#[110, 111, 116, 101]⟩ | _ => ⟨#[]⟩
def wtB : Nat → ByteArray
  | 0 => ⟨#[104, 110]⟩ | 1 => ⟨#[104, 110]⟩ | 2 => ⟨#[104, 110, 110]⟩ | 3 => ⟨#[104, 110]⟩ | 4 => ⟨#[104, 110, 110]⟩ | 5 => ⟨#[115]⟩ | 6 => ⟨#[110]⟩ | _ => ⟨#[]⟩
def msU : Nat → Int
  | 0 => 18446744073709551615 | 1 => 1 | 2 => 1 | 3 => 1 | 4 => 18446744073709551615 | 5 => 18446744073709551615 | _ => 0
def asI : Nat → Int
  | 0 => 0 | 1 => 1 | 2 => 2 | 3 => 3 | 4 => 4 | _ => 0
def adB : Nat → Bool
  | 0 => true | 1 => true | 2 => true | 3 => true | 4 => true | _ => false
def sg (y : Nat) : List Value := [.string (nmB y), .string (wtB y), .int .u64 (msU y), .int .i64 (asI y), .bool (adB y)]
/-- the table stands in its block -/
def tabL : List Value := sg 0 ++ sg 1 ++ sg 2 ++ sg 3 ++ sg 4 ++ sg 5 ++ sg 6
def Tab (w : World) : Prop := ∃ t fr, w.heap[0]? = some (.cells tabL.toArray t fr)
theorem Tab.lt {w : World} (h : Tab w) : 0 < w.heap.size := by
  obtain ⟨t, fr, h⟩ := h
  exact (Array.getElem?_eq_some_iff.1 h).1
theorem Tab.below {w w' : World} (h : Tab w) (hb : Below w.heap.size w w') : Tab w' := by
  have hl := h.lt
  obtain ⟨t, fr, h⟩ := h
  exact ⟨t, fr, (hb.block _ hl).trans h⟩
theorem tabL_get : ∀ y, y < 7 → ∀ j, j < 5 → tabL[y * 5 + j]? = some ((sg y).getD j undef) := by
  intro y hy j hj
  have h1 : y = 0 ∨ y = 1 ∨ y = 2 ∨ y = 3 ∨ y = 4 ∨ y = 5 ∨ y = 6 := by omega
  have h2 : j = 0 ∨ j = 1 ∨ j = 2 ∨ j = 3 ∨ j = 4 := by omega
  rcases h1 with rfl | rfl | rfl | rfl | rfl | rfl | rfl <;> rcases h2 with rfl | rfl | rfl | rfl | rfl <;> rfl
theorem Tab.at_ {w : World} (h : Tab w) (y : Nat) (hy : y < 7) (j : Nat) (hj : j < 5) : w.cell? ⟨0, y * 5 + j, none⟩ = some ((sg y).getD j undef) := by
  obtain ⟨t, fr, h⟩ := h
  rw [cell_of_row w _ _ _ t fr h, ← tabL_get y hy j hj]
  simp
def hI (h : Int) : Nat := if 0 ≤ h ∧ h < 7 then h.toNat else 7
theorem hI_nat {y : Nat} (hy : y < 7) : hI (y : Int) = y := by unfold hI; rw [if_pos (by omega)]; omega
theorem hI_out {h : Int} (hh : h < 0 ∨ 7 ≤ h) : hI h = 7 := by unfold hI; rw [if_neg (by omega)]
theorem hI_le (h : Int) : hI h ≤ 7 := by unfold hI; split <;> omega
theorem h_cases (h : Int) : (∃ y : Nat, h = (y : Int) ∧ y < 7) ∨ h < 0 ∨ (¬ h < 0 ∧ 7 ≤ h) := by
  by_cases hh : 0 ≤ h ∧ h < 7
  · exact .inl ⟨h.toNat, by omega, by omega⟩
  · exact .inr (by omega)
theorem y_cases {y : Nat} (hy : y < 7) : y = 0 ∨ y = 1 ∨ y = 2 ∨ y = 3 ∨ y = 4 ∨ y = 5 ∨ y = 6 := by omega

def sgVal (y : Nat) : Value := .agg #[.string (nmB y), .string (wtB y), .int .u64 (msU y), .int .i64 (asI y), .bool (adB y)]

set_option maxRecDepth 100000 in
set_option maxHeartbeats 1000000 in
theorem of_any (w : World) (h : Int) (ht : Tab w) :
    Calls Tryd.prog 24 #[.int .i64 h] w fun e w' => e = .returned (.tuple #[sgVal (hI h), .bool (decide (hI h < 7))]) ∧ Below w.heap.size w w' := by
  rcases h_cases h with ⟨y, rfl, hy⟩ | h0 | ⟨h0, h1⟩
  · rw [hI_nat hy, decide_eq_true hy]
    have f0 : w.cell? ⟨0, y * 5, none⟩ = some (.string (nmB y)) := ht.at_ y hy 0 (by omega)
    have f1 : w.cell? ⟨0, y * 5 + 1, none⟩ = some (.string (wtB y)) := ht.at_ y hy 1 (by omega)
    have f2 : w.cell? ⟨0, y * 5 + 2, none⟩ = some (.int .u64 (msU y)) := ht.at_ y hy 2 (by omega)
    have f3 : w.cell? ⟨0, y * 5 + 3, none⟩ = some (.int .i64 (asI y)) := ht.at_ y hy 3 (by omega)
    have f4 : w.cell? ⟨0, y * 5 + 4, none⟩ = some (.bool (adB y)) := ht.at_ y hy 4 (by omega)
    have hlt := ht.lt
    unfold sgVal
    clear ht
    generalize nmB y = a0 at f0 ⊢
    generalize wtB y = a1 at f1 ⊢
    generalize msU y = a2 at f2 ⊢
    generalize asI y = a3 at f3 ⊢
    generalize adB y = a4 at f4 ⊢
    have g1 : (y : Int) < 7 := by omega
    have HO := Lib.hid (Ob.fresh w 53 [.string a0, .string a1, .int .u64 a2, .int .i64 a3, .bool a4])
    have HB := Lib.hid (below_alloc (Below.refl w.heap.size w) (.cells #[.string a0, .string a1, .int .u64 a2, .int .i64 a3, .bool a4] 53))
    go_enter Tryd.func24, Tryd.ntmps24
    go_wp2_with fail
    generalize w.alloc (.cells #[.string a0, .string a1, .int .u64 a2, .int .i64 a3, .bool a4] 53) = w2 at HO HB ⊢
    have s0 : w2.cell? ⟨w.heap.size, 0, none⟩ = some (.string a0) := HO.out.cell 0
    have s1 : w2.cell? ⟨w.heap.size, 1, none⟩ = some (.string a1) := HO.out.cell 1
    have s2 : w2.cell? ⟨w.heap.size, 2, none⟩ = some (.int .u64 a2) := HO.out.cell 2
    have s3 : w2.cell? ⟨w.heap.size, 3, none⟩ = some (.int .i64 a3) := HO.out.cell 3
    have s4 : w2.cell? ⟨w.heap.size, 4, none⟩ = some (.bool a4) := HO.out.cell 4
    exact bodyPost_ret (v := .tuple #[.agg #[.string a0, .string a1, .int .u64 a2, .int .i64 a3, .bool a4], .bool true]) (by simp [results, Tryd.results24, go_sem, s0, s1, s2, s3, s4]) rfl ⟨rfl, HB.out⟩
  · rw [hI_out (.inl h0)]
    clear ht
    have HO := Lib.hid (Ob.fresh w 53 [.string ⟨#[]⟩, .string ⟨#[]⟩, .int .u64 0, .int .i64 0, .bool false])
    have HB := Lib.hid (below_alloc (Below.refl w.heap.size w) (.cells #[.string ⟨#[]⟩, .string ⟨#[]⟩, .int .u64 0, .int .i64 0, .bool false] 53))
    go_enter Tryd.func24, Tryd.ntmps24
    go_wp2_with fail
    generalize w.alloc (.cells #[.string ⟨#[]⟩, .string ⟨#[]⟩, .int .u64 0, .int .i64 0, .bool false] 53) = w2 at HO HB ⊢
    have s0 : w2.cell? ⟨w.heap.size, 0, none⟩ = some (.string ⟨#[]⟩) := HO.out.cell 0
    have s1 : w2.cell? ⟨w.heap.size, 1, none⟩ = some (.string ⟨#[]⟩) := HO.out.cell 1
    have s2 : w2.cell? ⟨w.heap.size, 2, none⟩ = some (.int .u64 0) := HO.out.cell 2
    have s3 : w2.cell? ⟨w.heap.size, 3, none⟩ = some (.int .i64 0) := HO.out.cell 3
    have s4 : w2.cell? ⟨w.heap.size, 4, none⟩ = some (.bool false) := HO.out.cell 4
    exact bodyPost_ret (v := .tuple #[.agg #[.string ⟨#[]⟩, .string ⟨#[]⟩, .int .u64 0, .int .i64 0, .bool false], .bool false]) (by simp [results, Tryd.results24, go_sem, s0, s1, s2, s3, s4]) rfl ⟨rfl, HB.out⟩
  · rw [hI_out (.inr h1)]
    clear ht
    have HO := Lib.hid (Ob.fresh w 53 [.string ⟨#[]⟩, .string ⟨#[]⟩, .int .u64 0, .int .i64 0, .bool false])
    have HB := Lib.hid (below_alloc (Below.refl w.heap.size w) (.cells #[.string ⟨#[]⟩, .string ⟨#[]⟩, .int .u64 0, .int .i64 0, .bool false] 53))
    go_enter Tryd.func24, Tryd.ntmps24
    go_wp2_with fail
    generalize w.alloc (.cells #[.string ⟨#[]⟩, .string ⟨#[]⟩, .int .u64 0, .int .i64 0, .bool false] 53) = w2 at HO HB ⊢
    have s0 : w2.cell? ⟨w.heap.size, 0, none⟩ = some (.string ⟨#[]⟩) := HO.out.cell 0
    have s1 : w2.cell? ⟨w.heap.size, 1, none⟩ = some (.string ⟨#[]⟩) := HO.out.cell 1
    have s2 : w2.cell? ⟨w.heap.size, 2, none⟩ = some (.int .u64 0) := HO.out.cell 2
    have s3 : w2.cell? ⟨w.heap.size, 3, none⟩ = some (.int .i64 0) := HO.out.cell 3
    have s4 : w2.cell? ⟨w.heap.size, 4, none⟩ = some (.bool false) := HO.out.cell 4
    exact bodyPost_ret (v := .tuple #[.agg #[.string ⟨#[]⟩, .string ⟨#[]⟩, .int .u64 0, .int .i64 0, .bool false], .bool false]) (by simp [results, Tryd.results24, go_sem, s0, s1, s2, s3, s4]) rfl ⟨rfl, HB.out⟩

set_option maxRecDepth 100000 in
set_option maxHeartbeats 1000000 in
theorem name_any (w : World) (h : Int) (ht : Tab w) :
    Calls Tryd.prog 14 #[.int .i64 h] w fun e w' => e = .returned (.string (nmB (hI h))) ∧ Below w.heap.size w w' := by
  obtain ⟨a0, ha0⟩ : ∃ a, nmB (hI h) = a := ⟨_, rfl⟩
  try rw [ha0]
  have HA0 := Lib.hid ha0
  clear ha0
  obtain ⟨a1, ha1⟩ : ∃ a, wtB (hI h) = a := ⟨_, rfl⟩
  try rw [ha1]
  have HA1 := Lib.hid ha1
  clear ha1
  obtain ⟨a2, ha2⟩ : ∃ a, msU (hI h) = a := ⟨_, rfl⟩
  try rw [ha2]
  have HA2 := Lib.hid ha2
  clear ha2
  obtain ⟨a3, ha3⟩ : ∃ a, asI (hI h) = a := ⟨_, rfl⟩
  try rw [ha3]
  have HA3 := Lib.hid ha3
  clear ha3
  obtain ⟨a4, ha4⟩ : ∃ a, adB (hI h) = a := ⟨_, rfl⟩
  try rw [ha4]
  have HA4 := Lib.hid ha4
  clear ha4
  have HT := Lib.hid ht
  clear ht
  go_enter Tryd.func14, Tryd.ntmps14
  go_wp2_with fail
  refine (of_any w h HT.out).mono ?_
  rintro e w1 ⟨rfl, b1⟩
  unfold sgVal
  rw [HA0.out, HA1.out, HA2.out, HA3.out, HA4.out]
  have HB1 := Lib.hid b1
  clear b1
  generalize decide (hI h < 7) = ok
  go_wp2_with fail
  go_ret
  exact ⟨rfl, below_alloc HB1.out _⟩

set_option maxRecDepth 100000 in
set_option maxHeartbeats 1000000 in
theorem asks_any (w : World) (h : Int) (ht : Tab w) :
    Calls Tryd.prog 16 #[.int .i64 h] w fun e w' => e = .returned (.tuple #[.int .i64 (asI (hI h)), .bool (adB (hI h))]) ∧ Below w.heap.size w w' := by
  obtain ⟨a0, ha0⟩ : ∃ a, nmB (hI h) = a := ⟨_, rfl⟩
  try rw [ha0]
  have HA0 := Lib.hid ha0
  clear ha0
  obtain ⟨a1, ha1⟩ : ∃ a, wtB (hI h) = a := ⟨_, rfl⟩
  try rw [ha1]
  have HA1 := Lib.hid ha1
  clear ha1
  obtain ⟨a2, ha2⟩ : ∃ a, msU (hI h) = a := ⟨_, rfl⟩
  try rw [ha2]
  have HA2 := Lib.hid ha2
  clear ha2
  obtain ⟨a3, ha3⟩ : ∃ a, asI (hI h) = a := ⟨_, rfl⟩
  try rw [ha3]
  have HA3 := Lib.hid ha3
  clear ha3
  obtain ⟨a4, ha4⟩ : ∃ a, adB (hI h) = a := ⟨_, rfl⟩
  try rw [ha4]
  have HA4 := Lib.hid ha4
  clear ha4
  have HT := Lib.hid ht
  clear ht
  go_enter Tryd.func16, Tryd.ntmps16
  go_wp2_with fail
  refine (of_any w h HT.out).mono ?_
  rintro e w1 ⟨rfl, b1⟩
  unfold sgVal
  rw [HA0.out, HA1.out, HA2.out, HA3.out, HA4.out]
  have HB1 := Lib.hid b1
  clear b1
  generalize decide (hI h < 7) = ok
  have HB2 := Lib.hid (below_alloc HB1.out (.cells #[.string a0, .string a1, .int .u64 a2, .int .i64 a3, .bool a4] 53))
  have HO := Lib.hid (Ob.fresh w1 53 [.string a0, .string a1, .int .u64 a2, .int .i64 a3, .bool a4])
  go_upto_region 2 with fail
  generalize w1.alloc (.cells #[.string a0, .string a1, .int .u64 a2, .int .i64 a3, .bool a4] 53) = w2 at HO HB2 ⊢
  have s3 : w2.cell? ⟨w1.heap.size, 3, none⟩ = some (.int .i64 a3) := HO.out.cell 3
  have s4 : w2.cell? ⟨w1.heap.size, 4, none⟩ = some (.bool a4) := HO.out.cell 4
  go_wp2_with fail
  go_quiet (fail)
  go_wp2_with fail
  go_ret2
  exact ⟨rfl, below_drewN HB2.out _⟩

/-- a type -/
structure TypeV where
  kind : Int
  lo : Int
  hi : Int
  mp : Int
def ty0 : TypeV := ⟨0, 0, 0, 0⟩
def tyc (a : TypeV) : List Value := [.int .i64 a.kind, .int .u64 a.lo, .int .u64 a.hi, .int .i64 a.mp]
def tyVal (a : TypeV) : Value := .agg #[.int .i64 a.kind, .int .u64 a.lo, .int .u64 a.hi, .int .i64 a.mp]

set_option maxRecDepth 100000 in
set_option maxHeartbeats 1000000 in
theorem number_any (w : World) (z : Int) :
    Calls Tryd.prog 25 #[.int .u64 z] w fun e w' => e = .returned (tyVal ⟨1, 0, z, 0⟩) ∧ Below w.heap.size w w' := by
  have HO := Lib.hid (Ob.fresh w 31 [.int .i64 1, .int .u64 0, .int .u64 z, .int .i64 0])
  have HB := Lib.hid (below_alloc (Below.refl w.heap.size w) (.cells #[.int .i64 1, .int .u64 0, .int .u64 z, .int .i64 0] 31))
  go_enter Tryd.func25, Tryd.ntmps25
  go_wp2_with fail
  generalize w.alloc (.cells #[.int .i64 1, .int .u64 0, .int .u64 z, .int .i64 0] 31) = w2 at HO HB ⊢
  have s0 : w2.cell? ⟨w.heap.size, 0, none⟩ = some (.int .i64 1) := HO.out.cell 0
  have s1 : w2.cell? ⟨w.heap.size, 1, none⟩ = some (.int .u64 0) := HO.out.cell 1
  have s2 : w2.cell? ⟨w.heap.size, 2, none⟩ = some (.int .u64 z) := HO.out.cell 2
  have s3 : w2.cell? ⟨w.heap.size, 3, none⟩ = some (.int .i64 0) := HO.out.cell 3
  exact bodyPost_ret (v := tyVal ⟨1, 0, z, 0⟩) (by simp [results, Tryd.results25, go_sem, tyVal, s0, s1, s2, s3]) rfl ⟨rfl, HB.out⟩

set_option maxRecDepth 100000 in
set_option maxHeartbeats 1000000 in
theorem rnum_any (w : World) (z : Int) :
    Calls Tryd.prog 26 #[.int .u64 z] w fun e w' => e = .returned (tyVal ⟨1, 0, z, 0⟩) ∧ Below w.heap.size w w' := by
  have HO := Lib.hid (Ob.fresh w 31 [.int .i64 1, .int .u64 0, .int .u64 z, .int .i64 0])
  have HB := Lib.hid (below_alloc (Below.refl w.heap.size w) (.cells #[.int .i64 1, .int .u64 0, .int .u64 z, .int .i64 0] 31))
  go_enter Tryd.func26, Tryd.ntmps26
  go_wp2_with fail
  generalize w.alloc (.cells #[.int .i64 1, .int .u64 0, .int .u64 z, .int .i64 0] 31) = w2 at HO HB ⊢
  have s0 : w2.cell? ⟨w.heap.size, 0, none⟩ = some (.int .i64 1) := HO.out.cell 0
  have s1 : w2.cell? ⟨w.heap.size, 1, none⟩ = some (.int .u64 0) := HO.out.cell 1
  have s2 : w2.cell? ⟨w.heap.size, 2, none⟩ = some (.int .u64 z) := HO.out.cell 2
  have s3 : w2.cell? ⟨w.heap.size, 3, none⟩ = some (.int .i64 0) := HO.out.cell 3
  exact bodyPost_ret (v := tyVal ⟨1, 0, z, 0⟩) (by simp [results, Tryd.results26, go_sem, tyVal, s0, s1, s2, s3]) rfl ⟨rfl, HB.out⟩

end Go.Proofs.YthmfenagdoefcaaDoor
