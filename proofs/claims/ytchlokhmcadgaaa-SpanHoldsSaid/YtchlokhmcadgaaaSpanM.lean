/-
  Layer 6: awake. Conditions: none.
-/
import Derived.Test.YtchlokhmcadgaaaSpanK
namespace Go.Proofs.Ytchlokhmcadgaaa
open Go.RowKit

set_option maxHeartbeats 1000000 in
theorem arith_c (w : World) : Calls Try.prog 24 #[.int .i64 5, .int .u64 0, .int .u64 16] w fun e w' => e = .returned (.tuple #[.int .u64 0, .bool true]) ∧ w = w' := by
  go_enter Try.func24, Try.ntmps24
  go_wp2_with fail
  go_ret2
  exact ⟨rfl, rfl⟩
set_option maxHeartbeats 1000000 in
theorem holds_c (w : World) : Calls Try.prog 25 #[.int .i64 18, .int .u64 0, .int .u64 0] w fun e w' => e = .returned (.tuple #[.bool false, .bool true]) ∧ w = w' := by
  go_enter Try.func25, Try.ntmps25
  go_wp2_with fail
  go_ret2
  exact ⟨rfl, rfl⟩
/-- three blocks of two cells each, made one behind the other -/
theorem three (w : World) (a b c d : Int) :
    Ob (((w.alloc (.cells #[.int .u64 a, .int .u64 b] 26)).alloc (.cells #[.int .u64 c, .int .u64 d] 26)).alloc (.cells #[.int .u64 0, .int .u64 0] 26)) w.heap.size 26 [.int .u64 a, .int .u64 b] ∧
    Ob (((w.alloc (.cells #[.int .u64 a, .int .u64 b] 26)).alloc (.cells #[.int .u64 c, .int .u64 d] 26)).alloc (.cells #[.int .u64 0, .int .u64 0] 26)) (w.heap.size + 1) 26 [.int .u64 c, .int .u64 d] ∧
    Ob (((w.alloc (.cells #[.int .u64 a, .int .u64 b] 26)).alloc (.cells #[.int .u64 c, .int .u64 d] 26)).alloc (.cells #[.int .u64 0, .int .u64 0] 26)) (w.heap.size + 2) 26 [.int .u64 0, .int .u64 0] ∧
    Below w.heap.size w (((w.alloc (.cells #[.int .u64 a, .int .u64 b] 26)).alloc (.cells #[.int .u64 c, .int .u64 d] 26)).alloc (.cells #[.int .u64 0, .int .u64 0] 26)) := by
  refine ⟨((Ob.fresh w 26 [.int .u64 a, .int .u64 b]).alloc _).alloc _, ?_, ?_, below_alloc (below_alloc (below_alloc (Below.refl _ _) _) _) _⟩
  · have h := (Ob.fresh (w.alloc (.cells #[.int .u64 a, .int .u64 b] 26)) 26 [.int .u64 c, .int .u64 d]).alloc (.cells #[.int .u64 0, .int .u64 0] 26)
    simpa using h
  · have h := Ob.fresh ((w.alloc (.cells #[.int .u64 a, .int .u64 b] 26)).alloc (.cells #[.int .u64 c, .int .u64 d] 26)) 26 [.int .u64 0, .int .u64 0]
    simpa using h

set_option maxRecDepth 100000 in
set_option maxHeartbeats 2000000 in
theorem rest_c (w : World) : Calls Try.prog 31 #[spVal 0 99, spVal 16 16] w fun e w' => e = .returned (spVal 0 15) ∧ Below w.heap.size w w' := by
  unfold spVal
  obtain ⟨o1, o2, o3, b3⟩ := three w 0 99 16 16
  have O1 := Lib.hid o1
  have O2 := Lib.hid o2
  have O3 := Lib.hid o3
  have B3 := Lib.hid b3
  clear o1 o2 o3 b3
  have hp1 : Hid (w.heap.size ≤ w.heap.size + 1) := Lib.hid (by omega)
  have hp2 : Hid (w.heap.size ≤ w.heap.size + 2) := Lib.hid (by omega)
  go_enter Try.func31, Try.ntmps31
  go_upto_region 1 with fail
  generalize ((w.alloc (.cells #[.int .u64 0, .int .u64 99] 26)).alloc (.cells #[.int .u64 16, .int .u64 16] 26)).alloc (.cells #[.int .u64 0, .int .u64 0] 26) = w3 at O1 O2 O3 B3 ⊢
  obtain ⟨q1, hq1⟩ : ∃ q, w.heap.size = q := ⟨_, rfl⟩
  obtain ⟨q2, hq2⟩ : ∃ q, w.heap.size + 1 = q := ⟨_, rfl⟩
  obtain ⟨q3, hq3⟩ : ∃ q, w.heap.size + 2 = q := ⟨_, rfl⟩
  rw [hq3] at O3 hp2 ⊢
  rw [hq2] at O2 hp1 ⊢
  rw [hq1] at O1 ⊢
  have hq : Hid (w.heap.size ≤ q3) := Lib.hid (by omega)
  clear hq1 hq2 hq3 hp1 hp2
  have a0 : w3.cell? ⟨q1, 0, none⟩ = some (.int .u64 0) := O1.out.cell 0
  have a1 : w3.cell? ⟨q1, 1, none⟩ = some (.int .u64 99) := O1.out.cell 1
  have c0 : w3.cell? ⟨q2, 0, none⟩ = some (.int .u64 16) := O2.out.cell 0
  have c1 : w3.cell? ⟨q2, 1, none⟩ = some (.int .u64 16) := O2.out.cell 1
  have r0 : w3.cell? ⟨q3, 0, none⟩ = some (.int .u64 0) := O3.out.cell 0
  have r1 : w3.cell? ⟨q3, 1, none⟩ = some (.int .u64 0) := O3.out.cell 1
  have z0 : ∀ i, w3.frozen? ⟨q3, i, none⟩ = false := O3.out.frozen
  go_wp2_with fail
  have hw := (B3.out.setCell (p := ⟨q3, 0, none⟩) hq.out (.int .u64 0)).setCell (p := ⟨q3, 1, none⟩) hq.out (.int .u64 15)
  have HOX := Lib.hid ((O3.out.set_ 0 (.int .u64 0)).set_ 1 (.int .u64 15))
  generalize (w3.setCell ⟨q3, 0, none⟩ (.int .u64 0)).setCell ⟨q3, 1, none⟩ (.int .u64 15) = wf at hw HOX ⊢
  have t0 : wf.cell? ⟨q3, 0, none⟩ = some (.int .u64 0) := HOX.out.cell 0
  have t1 : wf.cell? ⟨q3, 1, none⟩ = some (.int .u64 15) := HOX.out.cell 1
  exact bodyPost_ret (v := .agg #[.int .u64 0, .int .u64 15]) (by simp [results, Try.results31, go_sem, t0, t1]) rfl ⟨rfl, hw⟩

set_option maxRecDepth 100000 in
set_option maxHeartbeats 4000000 in
theorem do_c (w : World) : Calls Try.prog 13 #[.int .i64 5, spVal 0 99, spVal 16 16] w fun e w' => e = .returned (.tuple #[spVal 0 15, .bool true]) ∧ Below w.heap.size w w' := by
  have HRA := Lib.hid (fun w => right_any w 0 99)
  have HRB := Lib.hid (fun w => right_any w 16 16)
  have HSA := Lib.hid (fun w => isone_any w 0 99)
  have HRE := Lib.hid (fun w => rest_c w)
  unfold spVal at HRA HRB HSA HRE ⊢
  obtain ⟨o1, o2, o3, b3⟩ := three w 0 99 16 16
  have O1 := Lib.hid o1
  have O2 := Lib.hid o2
  have O3 := Lib.hid o3
  have B3 := Lib.hid b3
  clear o1 o2 o3 b3
  have hp1 : Hid (w.heap.size ≤ w.heap.size + 1) := Lib.hid (by omega)
  have hp2 : Hid (w.heap.size ≤ w.heap.size + 2) := Lib.hid (by omega)
  go_enter Try.func13, Try.ntmps13
  go_upto_region 1 with fail
  generalize ((w.alloc (.cells #[.int .u64 0, .int .u64 99] 26)).alloc (.cells #[.int .u64 16, .int .u64 16] 26)).alloc (.cells #[.int .u64 0, .int .u64 0] 26) = w3 at O1 O2 O3 B3 ⊢
  obtain ⟨q1, hq1⟩ : ∃ q, w.heap.size = q := ⟨_, rfl⟩
  obtain ⟨q2, hq2⟩ : ∃ q, w.heap.size + 1 = q := ⟨_, rfl⟩
  obtain ⟨q3, hq3⟩ : ∃ q, w.heap.size + 2 = q := ⟨_, rfl⟩
  rw [hq3] at O3 hp2 ⊢
  rw [hq2] at O2 hp1 ⊢
  rw [hq1] at O1 ⊢
  have hq : Hid (w.heap.size ≤ q3) := Lib.hid (by omega)
  clear hq1 hq2 hq3 hp1 hp2
  have a0 : w3.cell? ⟨q1, 0, none⟩ = some (.int .u64 0) := O1.out.cell 0
  have a1 : w3.cell? ⟨q1, 1, none⟩ = some (.int .u64 99) := O1.out.cell 1
  have c0 : w3.cell? ⟨q2, 0, none⟩ = some (.int .u64 16) := O2.out.cell 0
  have c1 : w3.cell? ⟨q2, 1, none⟩ = some (.int .u64 16) := O2.out.cell 1
  have r0 : w3.cell? ⟨q3, 0, none⟩ = some (.int .u64 0) := O3.out.cell 0
  have r1 : w3.cell? ⟨q3, 1, none⟩ = some (.int .u64 0) := O3.out.cell 1
  have z0 : ∀ i, w3.frozen? ⟨q3, i, none⟩ = false := O3.out.frozen
  go_wp2_with fail
  refine (arith_c w3).mono ?_
  rintro e w4 ⟨rfl, rfl⟩
  go_wp2_with fail
  refine (HRA.out _).mono ?_
  rintro e w5 ⟨rfl, bx⟩
  have P1 := Lib.hid (O1.out.below bx O1.out.lt)
  have P2 := Lib.hid (O2.out.below bx O2.out.lt)
  have P3 := Lib.hid (O3.out.below bx O3.out.lt)
  have PB := Lib.hid (B3.out.trans (bx.mono B3.out.size))
  clear bx O1 O2 O3 B3 a0 a1 c0 c1 r0 r1 z0
  have O1 := Lib.hid P1.out
  have O2 := Lib.hid P2.out
  have O3 := Lib.hid P3.out
  have B3 := Lib.hid PB.out
  clear P1 P2 P3 PB
  have a0 : w5.cell? ⟨q1, 0, none⟩ = some (.int .u64 0) := O1.out.cell 0
  have a1 : w5.cell? ⟨q1, 1, none⟩ = some (.int .u64 99) := O1.out.cell 1
  have c0 : w5.cell? ⟨q2, 0, none⟩ = some (.int .u64 16) := O2.out.cell 0
  have c1 : w5.cell? ⟨q2, 1, none⟩ = some (.int .u64 16) := O2.out.cell 1
  have r0 : w5.cell? ⟨q3, 0, none⟩ = some (.int .u64 0) := O3.out.cell 0
  have r1 : w5.cell? ⟨q3, 1, none⟩ = some (.int .u64 0) := O3.out.cell 1
  have z0 : ∀ i, w5.frozen? ⟨q3, i, none⟩ = false := O3.out.frozen
  rw [show decide ((0 : Int) ≤ 99) = true from rfl]
  go_wp2_with fail
  refine (HRB.out _).mono ?_
  rintro e w6 ⟨rfl, bx⟩
  have P1 := Lib.hid (O1.out.below bx O1.out.lt)
  have P2 := Lib.hid (O2.out.below bx O2.out.lt)
  have P3 := Lib.hid (O3.out.below bx O3.out.lt)
  have PB := Lib.hid (B3.out.trans (bx.mono B3.out.size))
  clear bx O1 O2 O3 B3 a0 a1 c0 c1 r0 r1 z0
  have O1 := Lib.hid P1.out
  have O2 := Lib.hid P2.out
  have O3 := Lib.hid P3.out
  have B3 := Lib.hid PB.out
  clear P1 P2 P3 PB
  have a0 : w6.cell? ⟨q1, 0, none⟩ = some (.int .u64 0) := O1.out.cell 0
  have a1 : w6.cell? ⟨q1, 1, none⟩ = some (.int .u64 99) := O1.out.cell 1
  have c0 : w6.cell? ⟨q2, 0, none⟩ = some (.int .u64 16) := O2.out.cell 0
  have c1 : w6.cell? ⟨q2, 1, none⟩ = some (.int .u64 16) := O2.out.cell 1
  have r0 : w6.cell? ⟨q3, 0, none⟩ = some (.int .u64 0) := O3.out.cell 0
  have r1 : w6.cell? ⟨q3, 1, none⟩ = some (.int .u64 0) := O3.out.cell 1
  have z0 : ∀ i, w6.frozen? ⟨q3, i, none⟩ = false := O3.out.frozen
  rw [show decide ((16 : Int) ≤ 16) = true from rfl]
  go_wp2_with fail
  refine (HSA.out _).mono ?_
  rintro e w7 ⟨rfl, bx⟩
  have P1 := Lib.hid (O1.out.below bx O1.out.lt)
  have P2 := Lib.hid (O2.out.below bx O2.out.lt)
  have P3 := Lib.hid (O3.out.below bx O3.out.lt)
  have PB := Lib.hid (B3.out.trans (bx.mono B3.out.size))
  clear bx O1 O2 O3 B3 a0 a1 c0 c1 r0 r1 z0
  have O1 := Lib.hid P1.out
  have O2 := Lib.hid P2.out
  have O3 := Lib.hid P3.out
  have B3 := Lib.hid PB.out
  clear P1 P2 P3 PB
  have a0 : w7.cell? ⟨q1, 0, none⟩ = some (.int .u64 0) := O1.out.cell 0
  have a1 : w7.cell? ⟨q1, 1, none⟩ = some (.int .u64 99) := O1.out.cell 1
  have c0 : w7.cell? ⟨q2, 0, none⟩ = some (.int .u64 16) := O2.out.cell 0
  have c1 : w7.cell? ⟨q2, 1, none⟩ = some (.int .u64 16) := O2.out.cell 1
  have r0 : w7.cell? ⟨q3, 0, none⟩ = some (.int .u64 0) := O3.out.cell 0
  have r1 : w7.cell? ⟨q3, 1, none⟩ = some (.int .u64 0) := O3.out.cell 1
  have z0 : ∀ i, w7.frozen? ⟨q3, i, none⟩ = false := O3.out.frozen
  rw [show ((0 : Int) == 99) = false from rfl]
  go_wp2_with fail
  refine (HRE.out _).mono ?_
  rintro e w8 ⟨rfl, bx⟩
  have P1 := Lib.hid (O1.out.below bx O1.out.lt)
  have P2 := Lib.hid (O2.out.below bx O2.out.lt)
  have P3 := Lib.hid (O3.out.below bx O3.out.lt)
  have PB := Lib.hid (B3.out.trans (bx.mono B3.out.size))
  clear bx O1 O2 O3 B3 a0 a1 c0 c1 r0 r1 z0
  have O1 := Lib.hid P1.out
  have O2 := Lib.hid P2.out
  have O3 := Lib.hid P3.out
  have B3 := Lib.hid PB.out
  clear P1 P2 P3 PB
  have a0 : w8.cell? ⟨q1, 0, none⟩ = some (.int .u64 0) := O1.out.cell 0
  have a1 : w8.cell? ⟨q1, 1, none⟩ = some (.int .u64 99) := O1.out.cell 1
  have c0 : w8.cell? ⟨q2, 0, none⟩ = some (.int .u64 16) := O2.out.cell 0
  have c1 : w8.cell? ⟨q2, 1, none⟩ = some (.int .u64 16) := O2.out.cell 1
  have r0 : w8.cell? ⟨q3, 0, none⟩ = some (.int .u64 0) := O3.out.cell 0
  have r1 : w8.cell? ⟨q3, 1, none⟩ = some (.int .u64 0) := O3.out.cell 1
  have z0 : ∀ i, w8.frozen? ⟨q3, i, none⟩ = false := O3.out.frozen
  go_wp2_with fail
  have hw := (B3.out.setCell (p := ⟨q3, 0, none⟩) hq.out (.int .u64 0)).setCell (p := ⟨q3, 1, none⟩) hq.out (.int .u64 15)
  have HOX := Lib.hid ((O3.out.set_ 0 (.int .u64 0)).set_ 1 (.int .u64 15))
  generalize (w8.setCell ⟨q3, 0, none⟩ (.int .u64 0)).setCell ⟨q3, 1, none⟩ (.int .u64 15) = wf at hw HOX ⊢
  have t0 : wf.cell? ⟨q3, 0, none⟩ = some (.int .u64 0) := HOX.out.cell 0
  have t1 : wf.cell? ⟨q3, 1, none⟩ = some (.int .u64 15) := HOX.out.cell 1
  exact bodyPost_ret (v := .tuple #[.agg #[.int .u64 0, .int .u64 15], .bool true]) (by simp [results, Try.results13, go_sem, t0, t1]) rfl ⟨rfl, hw⟩

set_option maxRecDepth 100000 in
set_option maxHeartbeats 4000000 in
theorem refine_c (w : World) : Calls Try.prog 26 #[.int .i64 18, spVal 0 18446744073709551615, spVal 16 16, .bool true] w fun e w' => e = .returned (.tuple #[spVal 0 15, .bool true]) ∧ Below w.heap.size w w' := by
  have HRA := Lib.hid (fun w => right_any w 0 18446744073709551615)
  have HRB := Lib.hid (fun w => right_any w 16 16)
  have HSB := Lib.hid (fun w => isone_any w 16 16)
  unfold spVal at HRA HRB HSB ⊢
  obtain ⟨o1, o2, o3, b3⟩ := three w 0 18446744073709551615 16 16
  have O1 := Lib.hid o1
  have O2 := Lib.hid o2
  have O3 := Lib.hid o3
  have B3 := Lib.hid b3
  clear o1 o2 o3 b3
  have hp1 : Hid (w.heap.size ≤ w.heap.size + 1) := Lib.hid (by omega)
  have hp2 : Hid (w.heap.size ≤ w.heap.size + 2) := Lib.hid (by omega)
  go_enter Try.func26, Try.ntmps26
  go_upto_region 1 with fail
  generalize ((w.alloc (.cells #[.int .u64 0, .int .u64 18446744073709551615] 26)).alloc (.cells #[.int .u64 16, .int .u64 16] 26)).alloc (.cells #[.int .u64 0, .int .u64 0] 26) = w3 at O1 O2 O3 B3 ⊢
  obtain ⟨q1, hq1⟩ : ∃ q, w.heap.size = q := ⟨_, rfl⟩
  obtain ⟨q2, hq2⟩ : ∃ q, w.heap.size + 1 = q := ⟨_, rfl⟩
  obtain ⟨q3, hq3⟩ : ∃ q, w.heap.size + 2 = q := ⟨_, rfl⟩
  rw [hq3] at O3 hp2 ⊢
  rw [hq2] at O2 hp1 ⊢
  rw [hq1] at O1 ⊢
  have hq : Hid (w.heap.size ≤ q3) := Lib.hid (by omega)
  clear hq1 hq2 hq3 hp1 hp2
  have a0 : w3.cell? ⟨q1, 0, none⟩ = some (.int .u64 0) := O1.out.cell 0
  have a1 : w3.cell? ⟨q1, 1, none⟩ = some (.int .u64 18446744073709551615) := O1.out.cell 1
  have c0 : w3.cell? ⟨q2, 0, none⟩ = some (.int .u64 16) := O2.out.cell 0
  have c1 : w3.cell? ⟨q2, 1, none⟩ = some (.int .u64 16) := O2.out.cell 1
  have r0 : w3.cell? ⟨q3, 0, none⟩ = some (.int .u64 0) := O3.out.cell 0
  have r1 : w3.cell? ⟨q3, 1, none⟩ = some (.int .u64 0) := O3.out.cell 1
  have z0 : ∀ i, w3.frozen? ⟨q3, i, none⟩ = false := O3.out.frozen
  go_wp2_with fail
  refine (holds_c w3).mono ?_
  rintro e w4 ⟨rfl, rfl⟩
  go_wp2_with fail
  refine (HRA.out _).mono ?_
  rintro e w5 ⟨rfl, bx⟩
  have P1 := Lib.hid (O1.out.below bx O1.out.lt)
  have P2 := Lib.hid (O2.out.below bx O2.out.lt)
  have P3 := Lib.hid (O3.out.below bx O3.out.lt)
  have PB := Lib.hid (B3.out.trans (bx.mono B3.out.size))
  clear bx O1 O2 O3 B3 a0 a1 c0 c1 r0 r1 z0
  have O1 := Lib.hid P1.out
  have O2 := Lib.hid P2.out
  have O3 := Lib.hid P3.out
  have B3 := Lib.hid PB.out
  clear P1 P2 P3 PB
  have a0 : w5.cell? ⟨q1, 0, none⟩ = some (.int .u64 0) := O1.out.cell 0
  have a1 : w5.cell? ⟨q1, 1, none⟩ = some (.int .u64 18446744073709551615) := O1.out.cell 1
  have c0 : w5.cell? ⟨q2, 0, none⟩ = some (.int .u64 16) := O2.out.cell 0
  have c1 : w5.cell? ⟨q2, 1, none⟩ = some (.int .u64 16) := O2.out.cell 1
  have r0 : w5.cell? ⟨q3, 0, none⟩ = some (.int .u64 0) := O3.out.cell 0
  have r1 : w5.cell? ⟨q3, 1, none⟩ = some (.int .u64 0) := O3.out.cell 1
  have z0 : ∀ i, w5.frozen? ⟨q3, i, none⟩ = false := O3.out.frozen
  rw [show decide ((0 : Int) ≤ 18446744073709551615) = true from rfl]
  go_wp2_with fail
  refine (HRB.out _).mono ?_
  rintro e w6 ⟨rfl, bx⟩
  have P1 := Lib.hid (O1.out.below bx O1.out.lt)
  have P2 := Lib.hid (O2.out.below bx O2.out.lt)
  have P3 := Lib.hid (O3.out.below bx O3.out.lt)
  have PB := Lib.hid (B3.out.trans (bx.mono B3.out.size))
  clear bx O1 O2 O3 B3 a0 a1 c0 c1 r0 r1 z0
  have O1 := Lib.hid P1.out
  have O2 := Lib.hid P2.out
  have O3 := Lib.hid P3.out
  have B3 := Lib.hid PB.out
  clear P1 P2 P3 PB
  have a0 : w6.cell? ⟨q1, 0, none⟩ = some (.int .u64 0) := O1.out.cell 0
  have a1 : w6.cell? ⟨q1, 1, none⟩ = some (.int .u64 18446744073709551615) := O1.out.cell 1
  have c0 : w6.cell? ⟨q2, 0, none⟩ = some (.int .u64 16) := O2.out.cell 0
  have c1 : w6.cell? ⟨q2, 1, none⟩ = some (.int .u64 16) := O2.out.cell 1
  have r0 : w6.cell? ⟨q3, 0, none⟩ = some (.int .u64 0) := O3.out.cell 0
  have r1 : w6.cell? ⟨q3, 1, none⟩ = some (.int .u64 0) := O3.out.cell 1
  have z0 : ∀ i, w6.frozen? ⟨q3, i, none⟩ = false := O3.out.frozen
  rw [show decide ((16 : Int) ≤ 16) = true from rfl]
  go_wp2_with fail
  refine (HSB.out _).mono ?_
  rintro e w7 ⟨rfl, bx⟩
  have P1 := Lib.hid (O1.out.below bx O1.out.lt)
  have P2 := Lib.hid (O2.out.below bx O2.out.lt)
  have P3 := Lib.hid (O3.out.below bx O3.out.lt)
  have PB := Lib.hid (B3.out.trans (bx.mono B3.out.size))
  clear bx O1 O2 O3 B3 a0 a1 c0 c1 r0 r1 z0
  have O1 := Lib.hid P1.out
  have O2 := Lib.hid P2.out
  have O3 := Lib.hid P3.out
  have B3 := Lib.hid PB.out
  clear P1 P2 P3 PB
  have a0 : w7.cell? ⟨q1, 0, none⟩ = some (.int .u64 0) := O1.out.cell 0
  have a1 : w7.cell? ⟨q1, 1, none⟩ = some (.int .u64 18446744073709551615) := O1.out.cell 1
  have c0 : w7.cell? ⟨q2, 0, none⟩ = some (.int .u64 16) := O2.out.cell 0
  have c1 : w7.cell? ⟨q2, 1, none⟩ = some (.int .u64 16) := O2.out.cell 1
  have r0 : w7.cell? ⟨q3, 0, none⟩ = some (.int .u64 0) := O3.out.cell 0
  have r1 : w7.cell? ⟨q3, 1, none⟩ = some (.int .u64 0) := O3.out.cell 1
  have z0 : ∀ i, w7.frozen? ⟨q3, i, none⟩ = false := O3.out.frozen
  rw [show ((16 : Int) == 16) = true from rfl]
  go_wp2_with fail
  have hm : jnV [] = sp0 := rfl
  have hsl : Sl (w7.alloc (.cells #[.int .u64 0, .int .u64 18446744073709551615, .int .u64 0, .int .u64 15] 26)) (some ⟨w7.heap.size, 0, none⟩) (sps [⟨0, 18446744073709551615⟩, ⟨0, 15⟩]) := Sl.fresh w7 #[.int .u64 0, .int .u64 18446744073709551615, .int .u64 0, .int .u64 15] 26 (0, 0)
  refine (meet_any _ [⟨0, 18446744073709551615⟩, ⟨0, 15⟩] _ 2 2 rfl (by omega) hsl).mono ?_
  rintro e w8 ⟨rfl, bx0⟩
  have bx : Below w7.heap.size w7 w8 := (below_alloc (Below.refl _ _) _).trans (bx0.mono (by simp))
  rw [show (mtV [⟨0, 18446744073709551615⟩, ⟨0, 15⟩]) = ⟨0, 15⟩ from rfl, show mtB [⟨0, 18446744073709551615⟩, ⟨0, 15⟩] = true from by decide]
  unfold spVal
  clear hsl bx0 hm
  have P1 := Lib.hid (O1.out.below bx O1.out.lt)
  have P2 := Lib.hid (O2.out.below bx O2.out.lt)
  have P3 := Lib.hid (O3.out.below bx O3.out.lt)
  have PB := Lib.hid (B3.out.trans (bx.mono B3.out.size))
  clear bx O1 O2 O3 B3 a0 a1 c0 c1 r0 r1 z0
  have O1 := Lib.hid P1.out
  have O2 := Lib.hid P2.out
  have O3 := Lib.hid P3.out
  have B3 := Lib.hid PB.out
  clear P1 P2 P3 PB
  have a0 : w8.cell? ⟨q1, 0, none⟩ = some (.int .u64 0) := O1.out.cell 0
  have a1 : w8.cell? ⟨q1, 1, none⟩ = some (.int .u64 18446744073709551615) := O1.out.cell 1
  have c0 : w8.cell? ⟨q2, 0, none⟩ = some (.int .u64 16) := O2.out.cell 0
  have c1 : w8.cell? ⟨q2, 1, none⟩ = some (.int .u64 16) := O2.out.cell 1
  have r0 : w8.cell? ⟨q3, 0, none⟩ = some (.int .u64 0) := O3.out.cell 0
  have r1 : w8.cell? ⟨q3, 1, none⟩ = some (.int .u64 0) := O3.out.cell 1
  have z0 : ∀ i, w8.frozen? ⟨q3, i, none⟩ = false := O3.out.frozen
  go_wp2_with fail
  have hw := (B3.out.setCell (p := ⟨q3, 0, none⟩) hq.out (.int .u64 0)).setCell (p := ⟨q3, 1, none⟩) hq.out (.int .u64 15)
  have HOX := Lib.hid ((O3.out.set_ 0 (.int .u64 0)).set_ 1 (.int .u64 15))
  generalize (w8.setCell ⟨q3, 0, none⟩ (.int .u64 0)).setCell ⟨q3, 1, none⟩ (.int .u64 15) = wf at hw HOX ⊢
  have t0 : wf.cell? ⟨q3, 0, none⟩ = some (.int .u64 0) := HOX.out.cell 0
  have t1 : wf.cell? ⟨q3, 1, none⟩ = some (.int .u64 15) := HOX.out.cell 1
  exact bodyPost_ret (v := .tuple #[.agg #[.int .u64 0, .int .u64 15], .bool true]) (by simp [results, Try.results26, go_sem, t0, t1]) rfl ⟨rfl, hw⟩

set_option maxRecDepth 100000 in
set_option maxHeartbeats 4000000 in
theorem awake_any (w : World) : Calls Try.prog 8 #[] w fun e w' => e = .returned (.bool true) ∧ Below w.heap.size w w' := by
  have HDO := Lib.hid (fun w => do_c w)
  have HFU := Lib.hid (fun w => full_any w)
  have HSI := Lib.hid (fun w => single_any w 16)
  have HRF := Lib.hid (fun w => refine_c w)
  have HJN := Lib.hid (fun w A c (hs : Sl w A (sps [⟨1, 2⟩, ⟨7, 9⟩])) => join_any w [⟨1, 2⟩, ⟨7, 9⟩] A 2 c rfl (by omega) hs)
  rw [show (jnV [⟨1, 2⟩, ⟨7, 9⟩]) = ⟨1, 9⟩ from rfl, show jnB [⟨1, 2⟩, ⟨7, 9⟩] = true from by decide] at HJN
  unfold spVal at HDO HFU HSI HRF HJN
  go_enter Try.func8, Try.ntmps8
  go_wp2_with fail
  refine (HDO.out w).mono ?_
  rintro e w1 ⟨rfl, b1⟩
  have O1 := Lib.hid (Ob.fresh w1 26 [.int .u64 0, .int .u64 15])
  have B1 := Lib.hid (below_alloc b1 (.cells #[.int .u64 0, .int .u64 15] 26))
  clear b1
  go_upto_region 2 with fail
  generalize w1.alloc (.cells #[.int .u64 0, .int .u64 15] 26) = w2 at O1 B1 ⊢
  generalize w1.heap.size = p1 at O1 ⊢
  have hsl : Sl (w2.alloc (.cells #[.int .u64 1, .int .u64 2, .int .u64 7, .int .u64 9] 26)) (some ⟨w2.heap.size, 0, none⟩) (sps [⟨1, 2⟩, ⟨7, 9⟩]) := Sl.fresh w2 #[.int .u64 1, .int .u64 2, .int .u64 7, .int .u64 9] 26 (0, 0)
  have HSL := Lib.hid hsl
  clear hsl
  go_wp2_with fail
  refine (HJN.out _ _ _ HSL.out).mono ?_
  rintro e w3 ⟨rfl, b3⟩
  have b3' : Below w2.heap.size w2 w3 := (below_alloc (Below.refl _ _) _).trans (b3.mono (by simp))
  have O2 := Lib.hid ((O1.out.below b3' O1.out.lt).alloc (.cells #[.int .u64 1, .int .u64 9] 26))
  have J2 := Lib.hid (Ob.fresh w3 26 [.int .u64 1, .int .u64 9])
  have B2 := Lib.hid (below_alloc (B1.out.trans (b3'.mono B1.out.size)) (.cells #[.int .u64 1, .int .u64 9] 26))
  clear b3 b3' HSL O1 B1
  go_upto_region 3 with fail
  generalize w3.alloc (.cells #[.int .u64 1, .int .u64 9] 26) = w4 at O2 J2 B2 ⊢
  generalize w3.heap.size = p2 at J2 ⊢
  go_wp2_with fail
  refine (HFU.out w4).mono ?_
  rintro e w5 ⟨rfl, b5⟩
  have O3 := Lib.hid (O2.out.below b5 O2.out.lt)
  have J3 := Lib.hid (J2.out.below b5 J2.out.lt)
  have B3 := Lib.hid (B2.out.trans (b5.mono B2.out.size))
  clear b5 O2 J2 B2
  go_wp2_with fail
  refine (HSI.out w5).mono ?_
  rintro e w6 ⟨rfl, b6⟩
  have O4 := Lib.hid (O3.out.below b6 O3.out.lt)
  have J4 := Lib.hid (J3.out.below b6 J3.out.lt)
  have B4 := Lib.hid (B3.out.trans (b6.mono B3.out.size))
  clear b6 O3 J3 B3
  go_wp2_with fail
  refine (HRF.out w6).mono ?_
  rintro e w7 ⟨rfl, b7⟩
  have O5 := Lib.hid ((O4.out.below b7 O4.out.lt).alloc (.cells #[.int .u64 0, .int .u64 15] 26))
  have J5 := Lib.hid ((J4.out.below b7 J4.out.lt).alloc (.cells #[.int .u64 0, .int .u64 15] 26))
  have K5 := Lib.hid (Ob.fresh w7 26 [.int .u64 0, .int .u64 15])
  have B5 := Lib.hid (below_alloc (B4.out.trans (b7.mono B4.out.size)) (.cells #[.int .u64 0, .int .u64 15] 26))
  clear b7 O4 J4 B4
  go_upto_region 4 with fail
  generalize w7.alloc (.cells #[.int .u64 0, .int .u64 15] 26) = w8 at O5 J5 K5 B5 ⊢
  generalize w7.heap.size = p3 at K5 ⊢
  have a0 : w8.cell? ⟨p1, 0, none⟩ = some (.int .u64 0) := O5.out.cell 0
  have a1 : w8.cell? ⟨p1, 1, none⟩ = some (.int .u64 15) := O5.out.cell 1
  have c0 : w8.cell? ⟨p2, 0, none⟩ = some (.int .u64 1) := J5.out.cell 0
  have c1 : w8.cell? ⟨p2, 1, none⟩ = some (.int .u64 9) := J5.out.cell 1
  have d0 : w8.cell? ⟨p3, 0, none⟩ = some (.int .u64 0) := K5.out.cell 0
  have d1 : w8.cell? ⟨p3, 1, none⟩ = some (.int .u64 15) := K5.out.cell 1
  go_wp2_with fail
  go_ret
  exact ⟨rfl, B5.out⟩

end Go.Proofs.Ytchlokhmcadgaaa
