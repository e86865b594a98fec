/-
  The walks of the laws SigsNames and SigsValues. Conditions: those of each theorem.
-/
import Derived.Test.YthmfenagdoefcaaDoorSigsL
namespace Go.Proofs.YthmfenagdoefcaaDoor
open Go.RowKit

set_option maxRecDepth 100000 in
set_option maxHeartbeats 4000000 in
theorem names_walk (w : World) (h : Int) (s : ByteArray) (ht : Tab w) :
    Calls Tryd.prog 7 #[.int .i64 h, .string s] w fun e w' => e = .returned (.bool true) ∧ Below w.heap.size w w' := by
  have HT := Lib.hid ht
  clear ht
  go_enter Tryd.func7, Tryd.ntmps7
  go_wp2_with fail
  refine (awake_any w HT.out).mono ?_
  rintro e w1 ⟨rfl, b1⟩
  have T1 := Lib.hid (HT.out.below b1)
  have B1 := Lib.hid b1
  clear b1
  go_wp2_with fail
  refine (find_any w1 s T1.out).mono ?_
  rintro e w2 ⟨rfl, b2⟩
  have T2 := Lib.hid (T1.out.below b2)
  have B2 := Lib.hid (B1.out.trans (b2.mono B1.out.size))
  clear b2
  go_wp2_with fail
  refine (rfind_any w2 s).mono ?_
  rintro e w3 ⟨rfl, b3⟩
  have T3 := Lib.hid (T2.out.below b3)
  have B3 := Lib.hid (B2.out.trans (b3.mono B2.out.size))
  clear b3
  generalize fdI s = k
  generalize fdB s = ok
  go_wp2_with fail
  refine (result_any w3 h T3.out).mono ?_
  rintro e w4 ⟨rfl, b4⟩
  have T4 := Lib.hid (T3.out.below b4)
  have B4 := Lib.hid (B3.out.trans (b4.mono B3.out.size))
  clear b4
  unfold tyVal
  obtain ⟨t, hty⟩ : ∃ t, rsT (hI h) = t := ⟨_, rfl⟩
  rw [hty]
  have HTY := Lib.hid hty
  clear hty
  obtain ⟨tk, tl, th, tm⟩ := t
  dsimp only
  obtain ⟨well, hwl⟩ : ∃ b, decide (hI h < 7) = b := ⟨_, rfl⟩
  rw [hwl]
  have HWL := Lib.hid hwl
  clear hwl
  have B5 := Lib.hid (below_alloc B4.out (.cells #[.int .i64 tk, .int .u64 tl, .int .u64 th, .int .i64 tm] 31))
  have T5 := Lib.hid (T4.out.below (below_alloc (Below.refl w4.heap.size w4) (.cells #[.int .i64 tk, .int .u64 tl, .int .u64 th, .int .i64 tm] 31)))
  have O5 := Lib.hid (Ob.fresh w4 31 [.int .i64 tk, .int .u64 tl, .int .u64 th, .int .i64 tm])
  go_upto_region 6 with fail
  generalize w4.alloc (.cells #[.int .i64 tk, .int .u64 tl, .int .u64 th, .int .i64 tm] 31) = w5 at B5 T5 O5 ⊢
  generalize w4.heap.size = p at O5 ⊢
  go_wp2_with fail
  refine (rresult_any w5 h).mono ?_
  rintro e w6 ⟨rfl, b6⟩
  have T6 := Lib.hid (T5.out.below b6)
  have B6 := Lib.hid (B5.out.trans (b6.mono B5.out.size))
  have O6 := Lib.hid (O5.out.below b6 O5.out.lt)
  clear b6 O5
  unfold tyVal
  rw [HTY.out]
  dsimp only
  rw [HWL.out]
  have B7 := Lib.hid (below_alloc B6.out (.cells #[.int .i64 tk, .int .u64 tl, .int .u64 th, .int .i64 tm] 31))
  have T7 := Lib.hid (T6.out.below (below_alloc (Below.refl w6.heap.size w6) (.cells #[.int .i64 tk, .int .u64 tl, .int .u64 th, .int .i64 tm] 31)))
  have O7 := Lib.hid (O6.out.alloc (.cells #[.int .i64 tk, .int .u64 tl, .int .u64 th, .int .i64 tm] 31))
  have Q7 := Lib.hid (Ob.fresh w6 31 [.int .i64 tk, .int .u64 tl, .int .u64 th, .int .i64 tm])
  go_upto_region 7 with fail
  generalize w6.alloc (.cells #[.int .i64 tk, .int .u64 tl, .int .u64 th, .int .i64 tm] 31) = w7 at B7 T7 O7 Q7 ⊢
  generalize w6.heap.size = q at Q7 ⊢
  go_wp2_with fail
  refine (asks_any w7 h T7.out).mono ?_
  rintro e w8 ⟨rfl, b8⟩
  have T8 := Lib.hid (T7.out.below b8)
  have B8 := Lib.hid (B7.out.trans (b8.mono B7.out.size))
  have O8 := Lib.hid (O7.out.below b8 O7.out.lt)
  have Q8 := Lib.hid (Q7.out.below b8 Q7.out.lt)
  clear b8 O7 Q7
  obtain ⟨x1, hx1⟩ : ∃ x, asI (hI h) = x := ⟨_, rfl⟩
  obtain ⟨x2, hx2⟩ : ∃ x, adB (hI h) = x := ⟨_, rfl⟩
  obtain ⟨x3, hx3⟩ : ∃ x, nmB (hI h) = x := ⟨_, rfl⟩
  rw [hx1, hx2]
  have X1 := Lib.hid hx1
  have X2 := Lib.hid hx2
  have X3 := Lib.hid hx3
  clear hx1 hx2 hx3
  go_wp2_with fail
  refine (rasks_any w8 h).mono ?_
  rintro e w9 ⟨rfl, rfl⟩
  rw [X1.out, X2.out]
  go_wp2_with fail
  refine (name_any w8 h T8.out).mono ?_
  rintro e w9 ⟨rfl, b9⟩
  rw [X3.out]
  have B9 := Lib.hid (B8.out.trans (b9.mono B8.out.size))
  have O9 := Lib.hid (O8.out.below b9 O8.out.lt)
  have Q9 := Lib.hid (Q8.out.below b9 Q8.out.lt)
  clear b9 O8 Q8
  go_wp2_with fail
  refine (rname_any w9 h).mono ?_
  rintro e wa ⟨rfl, ba⟩
  rw [X3.out]
  have Ba := Lib.hid (B9.out.trans (ba.mono B9.out.size))
  have Oa := Lib.hid (O9.out.below ba O9.out.lt)
  have Qa := Lib.hid (Q9.out.below ba Q9.out.lt)
  clear ba O9 Q9
  have p0 : wa.cell? ⟨p, 0, none⟩ = some (.int .i64 tk) := Oa.out.cell 0
  have p1 : wa.cell? ⟨p, 1, none⟩ = some (.int .u64 tl) := Oa.out.cell 1
  have p2 : wa.cell? ⟨p, 2, none⟩ = some (.int .u64 th) := Oa.out.cell 2
  have p3 : wa.cell? ⟨p, 3, none⟩ = some (.int .i64 tm) := Oa.out.cell 3
  have q0 : wa.cell? ⟨q, 0, none⟩ = some (.int .i64 tk) := Qa.out.cell 0
  have q1 : wa.cell? ⟨q, 1, none⟩ = some (.int .u64 tl) := Qa.out.cell 1
  have q2 : wa.cell? ⟨q, 2, none⟩ = some (.int .u64 th) := Qa.out.cell 2
  have q3 : wa.cell? ⟨q, 3, none⟩ = some (.int .i64 tm) := Qa.out.cell 3
  go_wp2_with fail
  go_ret
  exact ⟨rfl, Ba.out⟩

theorem names_law (w : World) (ht : Tab w) (h : Int) (_ : (Lit.int .i64 h).wf = true) (s : ByteArray) :
    Calls Tryd.prog 7 #[.int .i64 h, .string s] w fun e w' => e = .returned (.bool true) ∧ Below w.heap.size w w' := names_walk w h s ht

end Go.Proofs.YthmfenagdoefcaaDoor
