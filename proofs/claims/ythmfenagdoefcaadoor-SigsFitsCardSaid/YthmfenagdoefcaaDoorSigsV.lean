/-
  Layer 8: the reference's Result, Asks; Value of both. Conditions: those of each theorem.
-/
import Derived.Test.YthmfenagdoefcaaDoorSigsF
namespace Go.Proofs.YthmfenagdoefcaaDoor
open Go.RowKit

/-- a result of an operation -/
structure ResV where
  e : Int
  found : Bool
  val : Int
  isOut : Bool
  ok : Int
  ov : Int
def rec_ (r : ResV) : List Value := [.int .i64 r.e, .bool r.found, .int .u64 r.val, .bool r.isOut, .int .u64 r.ok, .int .u64 r.ov]
def reVal (r : ResV) : Value := .agg #[.int .i64 r.e, .bool r.found, .int .u64 r.val, .bool r.isOut, .int .u64 r.ok, .int .u64 r.ov]
/-- the number that comes back -/
def vlOf (y : Nat) (r : ResV) : Int := if y = 0 ∨ y = 4 then r.val else if ((y = 1 ∨ y = 3) ∧ r.found = true) ∨ (y = 2 ∧ r.e = 0) then 1 else 0
theorem eqs_out {h : Int} (hh : h < 0 ∨ 7 ≤ h) : (h == 0) = false ∧ (h == 1) = false ∧ (h == 2) = false ∧ (h == 3) = false ∧ (h == 4) = false ∧ (h == 5) = false ∧ (h == 6) = false := by
  refine ⟨?_, ?_, ?_, ?_, ?_, ?_, ?_⟩ <;> simp <;> omega

set_option maxRecDepth 100000 in
set_option maxHeartbeats 2000000 in
theorem rresult_any (w : World) (h : Int) :
    Calls Tryd.prog 21 #[.int .i64 h] w fun e w' => e = .returned (.tuple #[tyVal (rsT (hI h)), .bool (decide (hI h < 7))]) ∧ Below w.heap.size w w' := by
  have HO := Lib.hid (Ob.fresh w 31 [.int .i64 0, .int .u64 0, .int .u64 0, .int .i64 0])
  have HB := Lib.hid (below_alloc (Below.refl w.heap.size w) (.cells #[.int .i64 0, .int .u64 0, .int .u64 0, .int .i64 0] 31))
  have hE : ∃ y, hI h = y := ⟨_, rfl⟩
  rcases h_cases h with ⟨y, rfl, hy⟩ | hh
  · rw [hI_nat hy]
    rcases y_cases hy with rfl | rfl | rfl | rfl | rfl | rfl | rfl
    · go_enter Tryd.func21, Tryd.ntmps21
      go_wp2_with fail
      generalize w.alloc (.cells #[.int .i64 0, .int .u64 0, .int .u64 0, .int .i64 0] 31) = w1 at HO HB ⊢
      refine (rnum_any w1 _).mono ?_
      rintro e w4 ⟨rfl, b4⟩
      have HO4 := Lib.hid (HO.out.below b4 HO.out.lt)
      have HB4 := Lib.hid (HB.out.trans (b4.mono HB.out.size))
      have z0 : ∀ i, w4.frozen? ⟨w.heap.size, i, none⟩ = false := HO4.out.frozen
      have r0 : w4.cell? ⟨w.heap.size, 0, none⟩ = some (.int .i64 0) := HO4.out.cell 0
      have r1 : w4.cell? ⟨w.heap.size, 1, none⟩ = some (.int .u64 0) := HO4.out.cell 1
      have r2 : w4.cell? ⟨w.heap.size, 2, none⟩ = some (.int .u64 0) := HO4.out.cell 2
      have r3 : w4.cell? ⟨w.heap.size, 3, none⟩ = some (.int .i64 0) := HO4.out.cell 3
      clear b4 HO HB
      unfold tyVal
      go_wp2_with fail
      have hw := (((HB4.out.setCell (p := ⟨w.heap.size, 0, none⟩) (by simp) (.int .i64 1)).setCell (p := ⟨w.heap.size, 1, none⟩) (by simp) (.int .u64 0)).setCell (p := ⟨w.heap.size, 2, none⟩) (by simp) (.int .u64 18446744073709551615)).setCell (p := ⟨w.heap.size, 3, none⟩) (by simp) (.int .i64 0)
      have HOX := Lib.hid (((((HO4.out.set_ 0 (.int .i64 1)).set_ 1 (.int .u64 0)).set_ 2 (.int .u64 18446744073709551615)).set_ 3 (.int .i64 0)))
      generalize (((w4.setCell ⟨w.heap.size, 0, none⟩ (.int .i64 1)).setCell ⟨w.heap.size, 1, none⟩ (.int .u64 0)).setCell ⟨w.heap.size, 2, none⟩ (.int .u64 18446744073709551615)).setCell ⟨w.heap.size, 3, none⟩ (.int .i64 0) = w2 at hw HOX ⊢
      have s0 : w2.cell? ⟨w.heap.size, 0, none⟩ = some (.int .i64 1) := HOX.out.cell 0
      have s1 : w2.cell? ⟨w.heap.size, 1, none⟩ = some (.int .u64 0) := HOX.out.cell 1
      have s2 : w2.cell? ⟨w.heap.size, 2, none⟩ = some (.int .u64 18446744073709551615) := HOX.out.cell 2
      have s3 : w2.cell? ⟨w.heap.size, 3, none⟩ = some (.int .i64 0) := HOX.out.cell 3
      exact bodyPost_ret (v := .tuple #[.agg #[.int .i64 1, .int .u64 0, .int .u64 18446744073709551615, .int .i64 0], .bool true]) (by simp [results, Tryd.results21, go_sem, s0, s1, s2, s3]) rfl ⟨rfl, hw⟩
    · go_enter Tryd.func21, Tryd.ntmps21
      go_wp2_with fail
      generalize w.alloc (.cells #[.int .i64 0, .int .u64 0, .int .u64 0, .int .i64 0] 31) = w1 at HO HB ⊢
      refine (rnum_any w1 _).mono ?_
      rintro e w4 ⟨rfl, b4⟩
      have HO4 := Lib.hid (HO.out.below b4 HO.out.lt)
      have HB4 := Lib.hid (HB.out.trans (b4.mono HB.out.size))
      have z0 : ∀ i, w4.frozen? ⟨w.heap.size, i, none⟩ = false := HO4.out.frozen
      have r0 : w4.cell? ⟨w.heap.size, 0, none⟩ = some (.int .i64 0) := HO4.out.cell 0
      have r1 : w4.cell? ⟨w.heap.size, 1, none⟩ = some (.int .u64 0) := HO4.out.cell 1
      have r2 : w4.cell? ⟨w.heap.size, 2, none⟩ = some (.int .u64 0) := HO4.out.cell 2
      have r3 : w4.cell? ⟨w.heap.size, 3, none⟩ = some (.int .i64 0) := HO4.out.cell 3
      clear b4 HO HB
      unfold tyVal
      go_wp2_with fail
      have hw := (((HB4.out.setCell (p := ⟨w.heap.size, 0, none⟩) (by simp) (.int .i64 1)).setCell (p := ⟨w.heap.size, 1, none⟩) (by simp) (.int .u64 0)).setCell (p := ⟨w.heap.size, 2, none⟩) (by simp) (.int .u64 1)).setCell (p := ⟨w.heap.size, 3, none⟩) (by simp) (.int .i64 0)
      have HOX := Lib.hid (((((HO4.out.set_ 0 (.int .i64 1)).set_ 1 (.int .u64 0)).set_ 2 (.int .u64 1)).set_ 3 (.int .i64 0)))
      generalize (((w4.setCell ⟨w.heap.size, 0, none⟩ (.int .i64 1)).setCell ⟨w.heap.size, 1, none⟩ (.int .u64 0)).setCell ⟨w.heap.size, 2, none⟩ (.int .u64 1)).setCell ⟨w.heap.size, 3, none⟩ (.int .i64 0) = w2 at hw HOX ⊢
      have s0 : w2.cell? ⟨w.heap.size, 0, none⟩ = some (.int .i64 1) := HOX.out.cell 0
      have s1 : w2.cell? ⟨w.heap.size, 1, none⟩ = some (.int .u64 0) := HOX.out.cell 1
      have s2 : w2.cell? ⟨w.heap.size, 2, none⟩ = some (.int .u64 1) := HOX.out.cell 2
      have s3 : w2.cell? ⟨w.heap.size, 3, none⟩ = some (.int .i64 0) := HOX.out.cell 3
      exact bodyPost_ret (v := .tuple #[.agg #[.int .i64 1, .int .u64 0, .int .u64 1, .int .i64 0], .bool true]) (by simp [results, Tryd.results21, go_sem, s0, s1, s2, s3]) rfl ⟨rfl, hw⟩
    · go_enter Tryd.func21, Tryd.ntmps21
      go_wp2_with fail
      generalize w.alloc (.cells #[.int .i64 0, .int .u64 0, .int .u64 0, .int .i64 0] 31) = w1 at HO HB ⊢
      refine (rnum_any w1 _).mono ?_
      rintro e w4 ⟨rfl, b4⟩
      have HO4 := Lib.hid (HO.out.below b4 HO.out.lt)
      have HB4 := Lib.hid (HB.out.trans (b4.mono HB.out.size))
      have z0 : ∀ i, w4.frozen? ⟨w.heap.size, i, none⟩ = false := HO4.out.frozen
      have r0 : w4.cell? ⟨w.heap.size, 0, none⟩ = some (.int .i64 0) := HO4.out.cell 0
      have r1 : w4.cell? ⟨w.heap.size, 1, none⟩ = some (.int .u64 0) := HO4.out.cell 1
      have r2 : w4.cell? ⟨w.heap.size, 2, none⟩ = some (.int .u64 0) := HO4.out.cell 2
      have r3 : w4.cell? ⟨w.heap.size, 3, none⟩ = some (.int .i64 0) := HO4.out.cell 3
      clear b4 HO HB
      unfold tyVal
      go_wp2_with fail
      have hw := (((HB4.out.setCell (p := ⟨w.heap.size, 0, none⟩) (by simp) (.int .i64 1)).setCell (p := ⟨w.heap.size, 1, none⟩) (by simp) (.int .u64 0)).setCell (p := ⟨w.heap.size, 2, none⟩) (by simp) (.int .u64 1)).setCell (p := ⟨w.heap.size, 3, none⟩) (by simp) (.int .i64 0)
      have HOX := Lib.hid (((((HO4.out.set_ 0 (.int .i64 1)).set_ 1 (.int .u64 0)).set_ 2 (.int .u64 1)).set_ 3 (.int .i64 0)))
      generalize (((w4.setCell ⟨w.heap.size, 0, none⟩ (.int .i64 1)).setCell ⟨w.heap.size, 1, none⟩ (.int .u64 0)).setCell ⟨w.heap.size, 2, none⟩ (.int .u64 1)).setCell ⟨w.heap.size, 3, none⟩ (.int .i64 0) = w2 at hw HOX ⊢
      have s0 : w2.cell? ⟨w.heap.size, 0, none⟩ = some (.int .i64 1) := HOX.out.cell 0
      have s1 : w2.cell? ⟨w.heap.size, 1, none⟩ = some (.int .u64 0) := HOX.out.cell 1
      have s2 : w2.cell? ⟨w.heap.size, 2, none⟩ = some (.int .u64 1) := HOX.out.cell 2
      have s3 : w2.cell? ⟨w.heap.size, 3, none⟩ = some (.int .i64 0) := HOX.out.cell 3
      exact bodyPost_ret (v := .tuple #[.agg #[.int .i64 1, .int .u64 0, .int .u64 1, .int .i64 0], .bool true]) (by simp [results, Tryd.results21, go_sem, s0, s1, s2, s3]) rfl ⟨rfl, hw⟩
    · go_enter Tryd.func21, Tryd.ntmps21
      go_wp2_with fail
      generalize w.alloc (.cells #[.int .i64 0, .int .u64 0, .int .u64 0, .int .i64 0] 31) = w1 at HO HB ⊢
      refine (rnum_any w1 _).mono ?_
      rintro e w4 ⟨rfl, b4⟩
      have HO4 := Lib.hid (HO.out.below b4 HO.out.lt)
      have HB4 := Lib.hid (HB.out.trans (b4.mono HB.out.size))
      have z0 : ∀ i, w4.frozen? ⟨w.heap.size, i, none⟩ = false := HO4.out.frozen
      have r0 : w4.cell? ⟨w.heap.size, 0, none⟩ = some (.int .i64 0) := HO4.out.cell 0
      have r1 : w4.cell? ⟨w.heap.size, 1, none⟩ = some (.int .u64 0) := HO4.out.cell 1
      have r2 : w4.cell? ⟨w.heap.size, 2, none⟩ = some (.int .u64 0) := HO4.out.cell 2
      have r3 : w4.cell? ⟨w.heap.size, 3, none⟩ = some (.int .i64 0) := HO4.out.cell 3
      clear b4 HO HB
      unfold tyVal
      go_wp2_with fail
      have hw := (((HB4.out.setCell (p := ⟨w.heap.size, 0, none⟩) (by simp) (.int .i64 1)).setCell (p := ⟨w.heap.size, 1, none⟩) (by simp) (.int .u64 0)).setCell (p := ⟨w.heap.size, 2, none⟩) (by simp) (.int .u64 1)).setCell (p := ⟨w.heap.size, 3, none⟩) (by simp) (.int .i64 0)
      have HOX := Lib.hid (((((HO4.out.set_ 0 (.int .i64 1)).set_ 1 (.int .u64 0)).set_ 2 (.int .u64 1)).set_ 3 (.int .i64 0)))
      generalize (((w4.setCell ⟨w.heap.size, 0, none⟩ (.int .i64 1)).setCell ⟨w.heap.size, 1, none⟩ (.int .u64 0)).setCell ⟨w.heap.size, 2, none⟩ (.int .u64 1)).setCell ⟨w.heap.size, 3, none⟩ (.int .i64 0) = w2 at hw HOX ⊢
      have s0 : w2.cell? ⟨w.heap.size, 0, none⟩ = some (.int .i64 1) := HOX.out.cell 0
      have s1 : w2.cell? ⟨w.heap.size, 1, none⟩ = some (.int .u64 0) := HOX.out.cell 1
      have s2 : w2.cell? ⟨w.heap.size, 2, none⟩ = some (.int .u64 1) := HOX.out.cell 2
      have s3 : w2.cell? ⟨w.heap.size, 3, none⟩ = some (.int .i64 0) := HOX.out.cell 3
      exact bodyPost_ret (v := .tuple #[.agg #[.int .i64 1, .int .u64 0, .int .u64 1, .int .i64 0], .bool true]) (by simp [results, Tryd.results21, go_sem, s0, s1, s2, s3]) rfl ⟨rfl, hw⟩
    · go_enter Tryd.func21, Tryd.ntmps21
      go_wp2_with fail
      generalize w.alloc (.cells #[.int .i64 0, .int .u64 0, .int .u64 0, .int .i64 0] 31) = w1 at HO HB ⊢
      refine (rnum_any w1 _).mono ?_
      rintro e w4 ⟨rfl, b4⟩
      have HO4 := Lib.hid (HO.out.below b4 HO.out.lt)
      have HB4 := Lib.hid (HB.out.trans (b4.mono HB.out.size))
      have z0 : ∀ i, w4.frozen? ⟨w.heap.size, i, none⟩ = false := HO4.out.frozen
      have r0 : w4.cell? ⟨w.heap.size, 0, none⟩ = some (.int .i64 0) := HO4.out.cell 0
      have r1 : w4.cell? ⟨w.heap.size, 1, none⟩ = some (.int .u64 0) := HO4.out.cell 1
      have r2 : w4.cell? ⟨w.heap.size, 2, none⟩ = some (.int .u64 0) := HO4.out.cell 2
      have r3 : w4.cell? ⟨w.heap.size, 3, none⟩ = some (.int .i64 0) := HO4.out.cell 3
      clear b4 HO HB
      unfold tyVal
      go_wp2_with fail
      have hw := (((HB4.out.setCell (p := ⟨w.heap.size, 0, none⟩) (by simp) (.int .i64 1)).setCell (p := ⟨w.heap.size, 1, none⟩) (by simp) (.int .u64 0)).setCell (p := ⟨w.heap.size, 2, none⟩) (by simp) (.int .u64 18446744073709551615)).setCell (p := ⟨w.heap.size, 3, none⟩) (by simp) (.int .i64 0)
      have HOX := Lib.hid (((((HO4.out.set_ 0 (.int .i64 1)).set_ 1 (.int .u64 0)).set_ 2 (.int .u64 18446744073709551615)).set_ 3 (.int .i64 0)))
      generalize (((w4.setCell ⟨w.heap.size, 0, none⟩ (.int .i64 1)).setCell ⟨w.heap.size, 1, none⟩ (.int .u64 0)).setCell ⟨w.heap.size, 2, none⟩ (.int .u64 18446744073709551615)).setCell ⟨w.heap.size, 3, none⟩ (.int .i64 0) = w2 at hw HOX ⊢
      have s0 : w2.cell? ⟨w.heap.size, 0, none⟩ = some (.int .i64 1) := HOX.out.cell 0
      have s1 : w2.cell? ⟨w.heap.size, 1, none⟩ = some (.int .u64 0) := HOX.out.cell 1
      have s2 : w2.cell? ⟨w.heap.size, 2, none⟩ = some (.int .u64 18446744073709551615) := HOX.out.cell 2
      have s3 : w2.cell? ⟨w.heap.size, 3, none⟩ = some (.int .i64 0) := HOX.out.cell 3
      exact bodyPost_ret (v := .tuple #[.agg #[.int .i64 1, .int .u64 0, .int .u64 18446744073709551615, .int .i64 0], .bool true]) (by simp [results, Tryd.results21, go_sem, s0, s1, s2, s3]) rfl ⟨rfl, hw⟩
    · go_enter Tryd.func21, Tryd.ntmps21
      go_wp2_with fail
      generalize w.alloc (.cells #[.int .i64 0, .int .u64 0, .int .u64 0, .int .i64 0] 31) = w1 at HO HB ⊢
      refine (rnum_any w1 _).mono ?_
      rintro e w4 ⟨rfl, b4⟩
      have HO4 := Lib.hid (HO.out.below b4 HO.out.lt)
      have HB4 := Lib.hid (HB.out.trans (b4.mono HB.out.size))
      have z0 : ∀ i, w4.frozen? ⟨w.heap.size, i, none⟩ = false := HO4.out.frozen
      have r0 : w4.cell? ⟨w.heap.size, 0, none⟩ = some (.int .i64 0) := HO4.out.cell 0
      have r1 : w4.cell? ⟨w.heap.size, 1, none⟩ = some (.int .u64 0) := HO4.out.cell 1
      have r2 : w4.cell? ⟨w.heap.size, 2, none⟩ = some (.int .u64 0) := HO4.out.cell 2
      have r3 : w4.cell? ⟨w.heap.size, 3, none⟩ = some (.int .i64 0) := HO4.out.cell 3
      clear b4 HO HB
      unfold tyVal
      go_wp2_with fail
      have hw := (((HB4.out.setCell (p := ⟨w.heap.size, 0, none⟩) (by simp) (.int .i64 1)).setCell (p := ⟨w.heap.size, 1, none⟩) (by simp) (.int .u64 0)).setCell (p := ⟨w.heap.size, 2, none⟩) (by simp) (.int .u64 18446744073709551615)).setCell (p := ⟨w.heap.size, 3, none⟩) (by simp) (.int .i64 0)
      have HOX := Lib.hid (((((HO4.out.set_ 0 (.int .i64 1)).set_ 1 (.int .u64 0)).set_ 2 (.int .u64 18446744073709551615)).set_ 3 (.int .i64 0)))
      generalize (((w4.setCell ⟨w.heap.size, 0, none⟩ (.int .i64 1)).setCell ⟨w.heap.size, 1, none⟩ (.int .u64 0)).setCell ⟨w.heap.size, 2, none⟩ (.int .u64 18446744073709551615)).setCell ⟨w.heap.size, 3, none⟩ (.int .i64 0) = w2 at hw HOX ⊢
      have s0 : w2.cell? ⟨w.heap.size, 0, none⟩ = some (.int .i64 1) := HOX.out.cell 0
      have s1 : w2.cell? ⟨w.heap.size, 1, none⟩ = some (.int .u64 0) := HOX.out.cell 1
      have s2 : w2.cell? ⟨w.heap.size, 2, none⟩ = some (.int .u64 18446744073709551615) := HOX.out.cell 2
      have s3 : w2.cell? ⟨w.heap.size, 3, none⟩ = some (.int .i64 0) := HOX.out.cell 3
      exact bodyPost_ret (v := .tuple #[.agg #[.int .i64 1, .int .u64 0, .int .u64 18446744073709551615, .int .i64 0], .bool true]) (by simp [results, Tryd.results21, go_sem, s0, s1, s2, s3]) rfl ⟨rfl, hw⟩
    · go_enter Tryd.func21, Tryd.ntmps21
      go_wp2_with fail
      generalize w.alloc (.cells #[.int .i64 0, .int .u64 0, .int .u64 0, .int .i64 0] 31) = w1 at HO HB ⊢
      refine (rnum_any w1 _).mono ?_
      rintro e w4 ⟨rfl, b4⟩
      have HO4 := Lib.hid (HO.out.below b4 HO.out.lt)
      have HB4 := Lib.hid (HB.out.trans (b4.mono HB.out.size))
      have z0 : ∀ i, w4.frozen? ⟨w.heap.size, i, none⟩ = false := HO4.out.frozen
      have r0 : w4.cell? ⟨w.heap.size, 0, none⟩ = some (.int .i64 0) := HO4.out.cell 0
      have r1 : w4.cell? ⟨w.heap.size, 1, none⟩ = some (.int .u64 0) := HO4.out.cell 1
      have r2 : w4.cell? ⟨w.heap.size, 2, none⟩ = some (.int .u64 0) := HO4.out.cell 2
      have r3 : w4.cell? ⟨w.heap.size, 3, none⟩ = some (.int .i64 0) := HO4.out.cell 3
      clear b4 HO HB
      unfold tyVal
      go_wp2_with fail
      have hw := (((HB4.out.setCell (p := ⟨w.heap.size, 0, none⟩) (by simp) (.int .i64 1)).setCell (p := ⟨w.heap.size, 1, none⟩) (by simp) (.int .u64 0)).setCell (p := ⟨w.heap.size, 2, none⟩) (by simp) (.int .u64 0)).setCell (p := ⟨w.heap.size, 3, none⟩) (by simp) (.int .i64 0)
      have HOX := Lib.hid (((((HO4.out.set_ 0 (.int .i64 1)).set_ 1 (.int .u64 0)).set_ 2 (.int .u64 0)).set_ 3 (.int .i64 0)))
      generalize (((w4.setCell ⟨w.heap.size, 0, none⟩ (.int .i64 1)).setCell ⟨w.heap.size, 1, none⟩ (.int .u64 0)).setCell ⟨w.heap.size, 2, none⟩ (.int .u64 0)).setCell ⟨w.heap.size, 3, none⟩ (.int .i64 0) = w2 at hw HOX ⊢
      have s0 : w2.cell? ⟨w.heap.size, 0, none⟩ = some (.int .i64 1) := HOX.out.cell 0
      have s1 : w2.cell? ⟨w.heap.size, 1, none⟩ = some (.int .u64 0) := HOX.out.cell 1
      have s2 : w2.cell? ⟨w.heap.size, 2, none⟩ = some (.int .u64 0) := HOX.out.cell 2
      have s3 : w2.cell? ⟨w.heap.size, 3, none⟩ = some (.int .i64 0) := HOX.out.cell 3
      exact bodyPost_ret (v := .tuple #[.agg #[.int .i64 1, .int .u64 0, .int .u64 0, .int .i64 0], .bool true]) (by simp [results, Tryd.results21, go_sem, s0, s1, s2, s3]) rfl ⟨rfl, hw⟩
  · have hh2 : h < 0 ∨ 7 ≤ h := by omega
    rw [hI_out hh2]
    obtain ⟨q0, q1, q2, q3, q4, q5, q6⟩ := eqs_out hh2
    clear hE hh hh2
    go_enter Tryd.func21, Tryd.ntmps21
    go_upto_region 12 with fail
    generalize w.alloc (.cells #[.int .i64 0, .int .u64 0, .int .u64 0, .int .i64 0] 31) = w4 at HO HB ⊢
    have z0 : ∀ i, w4.frozen? ⟨w.heap.size, i, none⟩ = false := HO.out.frozen
    have r0 : w4.cell? ⟨w.heap.size, 0, none⟩ = some (.int .i64 0) := HO.out.cell 0
    have r1 : w4.cell? ⟨w.heap.size, 1, none⟩ = some (.int .u64 0) := HO.out.cell 1
    have r2 : w4.cell? ⟨w.heap.size, 2, none⟩ = some (.int .u64 0) := HO.out.cell 2
    have r3 : w4.cell? ⟨w.heap.size, 3, none⟩ = some (.int .i64 0) := HO.out.cell 3
    go_wp2_with fail
    have hw := (((HB.out.setCell (p := ⟨w.heap.size, 0, none⟩) (by simp) (.int .i64 0)).setCell (p := ⟨w.heap.size, 1, none⟩) (by simp) (.int .u64 0)).setCell (p := ⟨w.heap.size, 2, none⟩) (by simp) (.int .u64 0)).setCell (p := ⟨w.heap.size, 3, none⟩) (by simp) (.int .i64 0)
    have HOX := Lib.hid (((((HO.out.set_ 0 (.int .i64 0)).set_ 1 (.int .u64 0)).set_ 2 (.int .u64 0)).set_ 3 (.int .i64 0)))
    generalize (((w4.setCell ⟨w.heap.size, 0, none⟩ (.int .i64 0)).setCell ⟨w.heap.size, 1, none⟩ (.int .u64 0)).setCell ⟨w.heap.size, 2, none⟩ (.int .u64 0)).setCell ⟨w.heap.size, 3, none⟩ (.int .i64 0) = w2 at hw HOX ⊢
    have s0 : w2.cell? ⟨w.heap.size, 0, none⟩ = some (.int .i64 0) := HOX.out.cell 0
    have s1 : w2.cell? ⟨w.heap.size, 1, none⟩ = some (.int .u64 0) := HOX.out.cell 1
    have s2 : w2.cell? ⟨w.heap.size, 2, none⟩ = some (.int .u64 0) := HOX.out.cell 2
    have s3 : w2.cell? ⟨w.heap.size, 3, none⟩ = some (.int .i64 0) := HOX.out.cell 3
    exact bodyPost_ret (v := .tuple #[.agg #[.int .i64 0, .int .u64 0, .int .u64 0, .int .i64 0], .bool false]) (by simp [results, Tryd.results21, go_sem, s0, s1, s2, s3]) rfl ⟨rfl, hw⟩

set_option maxRecDepth 100000 in
set_option maxHeartbeats 1000000 in
theorem rasks_any (w : World) (h : Int) :
    Calls Tryd.prog 22 #[.int .i64 h] w fun e w' => e = .returned (.tuple #[.int .i64 (asI (hI h)), .bool (adB (hI h))]) ∧ w = w' := by
  rcases h_cases h with ⟨y, rfl, hy⟩ | h0 | ⟨h0, h1⟩
  · rw [hI_nat hy]
    rcases y_cases hy with rfl | rfl | rfl | rfl | rfl | rfl | rfl
    all_goals
      go_enter Tryd.func22, Tryd.ntmps22
      go_wp2_with fail
      go_ret2
      exact ⟨rfl, rfl⟩
  · rw [hI_out (.inl h0)]
    have h2 : ¬ 0 ≤ h := by omega
    go_enter Tryd.func22, Tryd.ntmps22
    go_wp2_with fail
    go_ret2
    exact ⟨rfl, rfl⟩
  · rw [hI_out (.inr h1)]
    have h2 : ¬ h ≤ 4 := by omega
    have h3 : 0 ≤ h := by omega
    clear h1
    go_enter Tryd.func22, Tryd.ntmps22
    go_wp2_with fail
    go_ret2
    exact ⟨rfl, rfl⟩

set_option maxRecDepth 100000 in
set_option maxHeartbeats 4000000 in
theorem value_any (w : World) (h : Int) (r : ResV) :
    Calls Tryd.prog 17 #[.int .i64 h, reVal r] w fun e w' => e = .returned (.int .u64 (vlOf (hI h) r)) ∧ Below w.heap.size w w' := by
  have HB := Lib.hid (below_alloc (Below.refl w.heap.size w) (.cells #[.int .i64 r.e, .bool r.found, .int .u64 r.val, .bool r.isOut, .int .u64 r.ok, .int .u64 r.ov] 45))
  obtain ⟨V, hV⟩ : ∃ V, vlOf (hI h) r = V := ⟨_, rfl⟩
  rw [hV]
  have HV := Lib.hid hV
  clear hV
  unfold reVal
  obtain ⟨re, rf, rv, ro, rk, rov⟩ := r
  simp only at HB ⊢
  rcases h_cases h with ⟨y, rfl, hy⟩ | hh
  · have HY := Lib.hid (hI_nat hy)
    rcases y_cases hy with rfl | rfl | rfl | rfl | rfl | rfl | rfl
    · have HF := Lib.hid (show V = rv by rw [← HV.out, HY.out]; simp [vlOf])
      go_enter Tryd.func17, Tryd.ntmps17
      go_wp2_with fail
      go_ret
      exact ⟨by rw [HF.out]; rfl, HB.out⟩
    · cases rf
      · have HF := Lib.hid (show V = 0 by rw [← HV.out, HY.out]; simp [vlOf])
        go_enter Tryd.func17, Tryd.ntmps17
        go_wp2_with fail
        go_ret
        exact ⟨by rw [HF.out]; rfl, HB.out⟩
      · have HF := Lib.hid (show V = 1 by rw [← HV.out, HY.out]; simp [vlOf])
        go_enter Tryd.func17, Tryd.ntmps17
        go_wp2_with fail
        go_ret
        exact ⟨by rw [HF.out]; rfl, HB.out⟩
    · by_cases he : re = 0
      · subst he
        have HF := Lib.hid (show V = 1 by rw [← HV.out, HY.out]; simp [vlOf])
        go_enter Tryd.func17, Tryd.ntmps17
        go_wp2_with fail
        go_ret
        exact ⟨by rw [HF.out]; rfl, HB.out⟩
      · have he' : (re == 0) = false := by simpa using he
        have HF := Lib.hid (show V = 0 by rw [← HV.out, HY.out]; simp [vlOf, he])
        go_enter Tryd.func17, Tryd.ntmps17
        go_wp2_with fail
        go_ret
        exact ⟨by rw [HF.out]; rfl, HB.out⟩
    · cases rf
      · have HF := Lib.hid (show V = 0 by rw [← HV.out, HY.out]; simp [vlOf])
        go_enter Tryd.func17, Tryd.ntmps17
        go_wp2_with fail
        go_ret
        exact ⟨by rw [HF.out]; rfl, HB.out⟩
      · have HF := Lib.hid (show V = 1 by rw [← HV.out, HY.out]; simp [vlOf])
        go_enter Tryd.func17, Tryd.ntmps17
        go_wp2_with fail
        go_ret
        exact ⟨by rw [HF.out]; rfl, HB.out⟩
    · have HF := Lib.hid (show V = rv by rw [← HV.out, HY.out]; simp [vlOf])
      go_enter Tryd.func17, Tryd.ntmps17
      go_wp2_with fail
      go_ret
      exact ⟨by rw [HF.out]; rfl, HB.out⟩
    · have HF := Lib.hid (show V = 0 by rw [← HV.out, HY.out]; simp [vlOf])
      go_enter Tryd.func17, Tryd.ntmps17
      go_wp2_with fail
      go_ret
      exact ⟨by rw [HF.out]; rfl, HB.out⟩
    · have HF := Lib.hid (show V = 0 by rw [← HV.out, HY.out]; simp [vlOf])
      go_enter Tryd.func17, Tryd.ntmps17
      go_wp2_with fail
      go_ret
      exact ⟨by rw [HF.out]; rfl, HB.out⟩
  · have hh2 : h < 0 ∨ 7 ≤ h := by omega
    have HY := Lib.hid (hI_out hh2)
    obtain ⟨q0, q1, q2, q3, q4, q5, q6⟩ := eqs_out hh2
    clear hh hh2
    have HF := Lib.hid (show V = 0 by rw [← HV.out, HY.out]; simp [vlOf])
    go_enter Tryd.func17, Tryd.ntmps17
    go_wp2_with fail
    go_ret
    exact ⟨by rw [HF.out]; rfl, HB.out⟩

set_option maxRecDepth 100000 in
set_option maxHeartbeats 4000000 in
theorem rvalue_any (w : World) (h : Int) (r : ResV) :
    Calls Tryd.prog 18 #[.int .i64 h, reVal r] w fun e w' => e = .returned (.int .u64 (vlOf (hI h) r)) ∧ Below w.heap.size w w' := by
  have HB := Lib.hid (below_alloc (Below.refl w.heap.size w) (.cells #[.int .i64 r.e, .bool r.found, .int .u64 r.val, .bool r.isOut, .int .u64 r.ok, .int .u64 r.ov] 45))
  obtain ⟨V, hV⟩ : ∃ V, vlOf (hI h) r = V := ⟨_, rfl⟩
  rw [hV]
  have HV := Lib.hid hV
  clear hV
  unfold reVal
  obtain ⟨re, rf, rv, ro, rk, rov⟩ := r
  simp only at HB ⊢
  rcases h_cases h with ⟨y, rfl, hy⟩ | hh
  · have HY := Lib.hid (hI_nat hy)
    rcases y_cases hy with rfl | rfl | rfl | rfl | rfl | rfl | rfl
    · have HF := Lib.hid (show V = rv by rw [← HV.out, HY.out]; simp [vlOf])
      go_enter Tryd.func18, Tryd.ntmps18
      go_wp2_with fail
      go_ret
      exact ⟨by rw [HF.out]; rfl, HB.out⟩
    · cases rf
      · have HF := Lib.hid (show V = 0 by rw [← HV.out, HY.out]; simp [vlOf])
        go_enter Tryd.func18, Tryd.ntmps18
        go_wp2_with fail
        go_ret
        exact ⟨by rw [HF.out]; rfl, HB.out⟩
      · have HF := Lib.hid (show V = 1 by rw [← HV.out, HY.out]; simp [vlOf])
        go_enter Tryd.func18, Tryd.ntmps18
        go_wp2_with fail
        go_ret
        exact ⟨by rw [HF.out]; rfl, HB.out⟩
    · by_cases he : re = 0
      · subst he
        have HF := Lib.hid (show V = 1 by rw [← HV.out, HY.out]; simp [vlOf])
        go_enter Tryd.func18, Tryd.ntmps18
        go_wp2_with fail
        go_ret
        exact ⟨by rw [HF.out]; rfl, HB.out⟩
      · have he' : (re == 0) = false := by simpa using he
        have HF := Lib.hid (show V = 0 by rw [← HV.out, HY.out]; simp [vlOf, he])
        go_enter Tryd.func18, Tryd.ntmps18
        go_wp2_with fail
        go_ret
        exact ⟨by rw [HF.out]; rfl, HB.out⟩
    · cases rf
      · have HF := Lib.hid (show V = 0 by rw [← HV.out, HY.out]; simp [vlOf])
        go_enter Tryd.func18, Tryd.ntmps18
        go_wp2_with fail
        go_ret
        exact ⟨by rw [HF.out]; rfl, HB.out⟩
      · have HF := Lib.hid (show V = 1 by rw [← HV.out, HY.out]; simp [vlOf])
        go_enter Tryd.func18, Tryd.ntmps18
        go_wp2_with fail
        go_ret
        exact ⟨by rw [HF.out]; rfl, HB.out⟩
    · have HF := Lib.hid (show V = rv by rw [← HV.out, HY.out]; simp [vlOf])
      go_enter Tryd.func18, Tryd.ntmps18
      go_wp2_with fail
      go_ret
      exact ⟨by rw [HF.out]; rfl, HB.out⟩
    · have HF := Lib.hid (show V = 0 by rw [← HV.out, HY.out]; simp [vlOf])
      go_enter Tryd.func18, Tryd.ntmps18
      go_wp2_with fail
      go_ret
      exact ⟨by rw [HF.out]; rfl, HB.out⟩
    · have HF := Lib.hid (show V = 0 by rw [← HV.out, HY.out]; simp [vlOf])
      go_enter Tryd.func18, Tryd.ntmps18
      go_wp2_with fail
      go_ret
      exact ⟨by rw [HF.out]; rfl, HB.out⟩
  · have hh2 : h < 0 ∨ 7 ≤ h := by omega
    have HY := Lib.hid (hI_out hh2)
    obtain ⟨q0, q1, q2, q3, q4, q5, q6⟩ := eqs_out hh2
    clear hh hh2
    have HF := Lib.hid (show V = 0 by rw [← HV.out, HY.out]; simp [vlOf])
    go_enter Tryd.func18, Tryd.ntmps18
    go_wp2_with fail
    go_ret
    exact ⟨by rw [HF.out]; rfl, HB.out⟩

end Go.Proofs.YthmfenagdoefcaaDoor
