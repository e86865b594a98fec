/-
  Layer 6: Meet and Join of two; the walk of span.Refine. Conditions: those of each theorem.
-/
import Derived.Test.YtikkmkomlajnfaaGreatDoorWm01
import Derived.Test.YtikkmkomlajnfaaGreatDoorWm15
import Derived.Test.YtikkmkomlajnfaaGreatDoorWm12
set_option linter.unusedVariables false
set_option linter.unusedSimpArgs false
section
namespace Go.Proofs.YtikkmkomlajnfaaGreatDoor.Sp
set_option maxRecDepth 100000
set_option maxHeartbeats 16000000
open Go.RowKit

attribute [local go_sem] uv_nonneg uv_wrap uv_add uv_sub uv_mul uv_add1 uv_sub1 uv_minM uv_maxM

theorem mn_uv (x y : BitVec 64) : mn (uv x) (uv y) = uv (minB x y) := uv_minB x y
theorem mx_uv (x y : BitVec 64) : mx (uv x) (uv y) = uv (maxB x y) := uv_maxB x y
theorem uv_lee (x y : BitVec 64) : uv x ≤ uv y ↔ x.toNat ≤ y.toNat := by unfold uv; omega
theorem maxB_zero (x : BitVec 64) : maxB 0#64 x = x := by
 apply BitVec.eq_of_toNat_eq
 rw [maxB_toNat]
 show max 0 _ = _
 omega
theorem mn_most (x : BitVec 64) : mn 18446744073709551615 (uv x) = uv x := by
 unfold mn
 have := x.isLt
 split
 · rfl
 unfold uv at *; omega
theorem foldhi (M a b c d : Int) : ([⟨a, b⟩, ⟨c, d⟩] : List SpanV).foldl (fun a s => mn a s.hi) M = mn (mn M b) d := rfl
theorem foldlo (M a b c d : Int) : ([⟨a, b⟩, ⟨c, d⟩] : List SpanV).foldl (fun a s => mn a s.lo) M = mn (mn M a) c := rfl
theorem lm2 (al ah bl' bh : BitVec 64) : loMax [⟨uv al, uv ah⟩, ⟨uv bl', uv bh⟩] = uv (maxB al bl') := by
 unfold loMax
 simp only [List.foldl_cons, List.foldl_nil]
 rw [show (0 : Int) = uv 0#64 from rfl]
 rw [mx_uv, maxB_zero, mx_uv]
theorem hm2 (al ah bl' bh : BitVec 64) : hiMin [⟨uv al, uv ah⟩, ⟨uv bl', uv bh⟩] = uv (minB ah bh) := by
 unfold hiMin
 rw [foldhi, mn_most, mn_uv]
theorem lj2 (al ah bl' bh : BitVec 64) : loMin [⟨uv al, uv ah⟩, ⟨uv bl', uv bh⟩] = uv (minB al bl') := by
 unfold loMin
 rw [foldlo, mn_most, mn_uv]
theorem hj2 (al ah bl' bh : BitVec 64) : hiMax [⟨uv al, uv ah⟩, ⟨uv bl', uv bh⟩] = uv (maxB ah bh) := by
 unfold hiMax
 simp only [List.foldl_cons, List.foldl_nil]
 rw [show (0 : Int) = uv 0#64 from rfl]
 rw [mx_uv, maxB_zero, mx_uv]
theorem ar2 {al ah bl' bh : BitVec 64} (h1 : al.toNat ≤ ah.toNat) (h2 : bl'.toNat ≤ bh.toNat) : allR [⟨uv al, uv ah⟩, ⟨uv bl', uv bh⟩] = true := by
 show (decide (uv al ≤ uv ah) && (decide (uv bl' ≤ uv bh) && true)) = true
 rw [decide_eq_true ((uv_lee _ _).2 h1), decide_eq_true ((uv_lee _ _).2 h2)]; rfl

theorem most_le (x : BitVec 64) : x.toNat ≤ mostB.toNat := by have := x.isLt; show x.toNat ≤ 18446744073709551615; omega

theorem meet2_any {w : World} {A : Option Addr} {al ah bl' bh : BitVec 64} (h1 : al.toNat ≤ ah.toNat) (h2 : bl'.toNat ≤ bh.toNat) (hs : Sl w A [.int .u64 (uv al), .int .u64 (uv ah), .int .u64 (uv bl'), .int .u64 (uv bh)]) :
 Calls Tryz.prog 133 #[.slice A 2 2] w fun e w' => e = .returned (.tuple #[spVal (uv (meetV al ah bl' bh).1.1) (uv (meetV al ah bl' bh).1.2), .bool (meetV al ah bl' bh).2]) ∧ Below w.heap.size w w' := by
 have h := meet_any w [⟨uv al, uv ah⟩, ⟨uv bl', uv bh⟩] A 2 2 rfl (by decide) hs
 unfold mtV mtB at h
 rw [lm2, hm2, ar2 h1 h2] at h
 unfold meetV
 by_cases hc : (maxB al bl').toNat ≤ (minB ah bh).toNat
 · rw [if_pos ⟨rfl, Nat.succ_pos _, (uv_lee _ _).2 hc⟩, decide_eq_true ⟨rfl, Nat.succ_pos _, (uv_lee _ _).2 hc⟩] at h
   rw [if_pos hc]
   exact h
 rw [if_neg (fun e => hc ((uv_lee _ _).1 e.2.2)), decide_eq_false (fun e => hc ((uv_lee _ _).1 e.2.2))] at h
 rw [if_neg hc]
 exact h
theorem join2_any {w : World} {A : Option Addr} {al ah bl' bh : BitVec 64} (h1 : al.toNat ≤ ah.toNat) (h2 : bl'.toNat ≤ bh.toNat) (hs : Sl w A [.int .u64 (uv al), .int .u64 (uv ah), .int .u64 (uv bl'), .int .u64 (uv bh)]) :
 Calls Tryz.prog 151 #[.slice A 2 2] w fun e w' => e = .returned (.tuple #[spVal (uv (minB al bl')) (uv (maxB ah bh)), .bool true]) ∧ Below w.heap.size w w' := by
 have h := join_any w [⟨uv al, uv ah⟩, ⟨uv bl', uv bh⟩] A 2 2 rfl (by decide) hs
 unfold jnV jnB at h
 rw [lj2, hj2, ar2 h1 h2, if_pos ⟨rfl, Nat.succ_pos _⟩, decide_eq_true ⟨rfl, Nat.succ_pos _⟩] at h
 exact h

theorem ref_any (op : Int) (w : World) (al ah bl' bh : BitVec 64) (h : Bool) (ho : AM.hdOk op = true) (h1 : al.toNat ≤ ah.toNat) (h2 : bl'.toNat ≤ bh.toNat) :
 Calls Tryz.prog 93 #[.int .i64 op, spVal (uv al) (uv ah), spVal (uv bl') (uv bh), .bool h] w fun e w' => e = .returned (.tuple #[spVal (uv (refR op al ah bl' bh h).1.1) (uv (refR op al ah bl' bh h).1.2), .bool (refR op al ah bl' bh h).2]) ∧ Below w.heap.size w w' := by
 have HH : Hid (∀ w, ∃ v, Calls Tryz.prog 100 #[.int .i64 op, .int .u64 0, .int .u64 0] w fun e w' => e = .returned (.tuple #[.bool v, .bool true]) ∧ w = w') := Lib.hid (fun w => ⟨_, by have h := hd_any op 0#64 0#64 w; rw [ho] at h; exact h⟩)
 obtain ⟨V, hV⟩ : ∃ V, refR op al ah bl' bh h = V := ⟨_, rfl⟩
 have HV : Hid ((if bl' = bh then refV op al ah bl' h else ((al, ah), true)) = V) := Lib.hid (by rw [← hV]; exact (if_pos ⟨ho, h1, h2⟩).symm)
 rw [hV]
 clear hV
 have HAL := Lib.hid h1
 have HBL := Lib.hid h2
 have HRA := Lib.hid (fun w => right_any w (uv al) (uv ah))
 have HRB := Lib.hid (fun w => right_any w (uv bl') (uv bh))
 have HSB := Lib.hid (fun w => isone_any w (uv bl') (uv bh))
 rw [uv_dec_le h1] at HRA
 rw [uv_dec_le h2] at HRB
 unfold spVal at HRA HRB HSB ⊢
 have hc : op = 16 ∨ op = 17 ∨ op = 18 ∨ op = 19 := by
  rcases AM.hop_cases op with h | h | h | h | h
  · exact .inl h
  · exact .inr (.inl h)
  · exact .inr (.inr (.inl h))
  · exact .inr (.inr (.inr h))
  rw [AM.hdOk_out h] at ho; exact Bool.noConfusion ho
 clear ho h1 h2
 by_cases hs : bl' = bh
 · rw [show (uv bl' == uv bh) = true by rw [uv_beq]; exact decide_eq_true hs] at HSB
   rcases hc with rfl | rfl | rfl | rfl <;> cases h
   · by_cases k1 : al = bl'
     · have s1 : (uv al == uv bl') = true := by rw [uv_beq]; exact decide_eq_true k1
       by_cases k2 : ah = bl'
       · have HR := Lib.hid (show V = ((0#64, 0#64), false) by rw [← HV.out, if_pos hs]; show (if al = bl' ∧ ah = bl' then ((0#64, 0#64), false) else if al = bl' then ((al + 1#64, ah), true) else if ah = bl' then ((al, ah - 1#64), true) else ((al, ah), true)) = _; exact if_pos ⟨k1, k2⟩)
         have s2 : (uv ah == uv bh) = true := by rw [uv_beq]; exact decide_eq_true (k2.trans hs)
         clear k1 k2 hs
         go_enter Tryz.func93, Tryz.ntmps93
         go_upto_region 1 with fail
         obtain ⟨w3, q1, q2, q3, hw3, hq1, hq2, hq3, O1, O2, O3, B3, hq, hq0, hd12, hd13, hd23⟩ := thr w (uv al) (uv ah) (uv bl') (uv bh)
         rw [hw3, hq3, hq2, hq1]
         clear hw3 hq1 hq2 hq3
         obtain ⟨a0, a1, c0, c1, r0, r1, z0⟩ := fc3 O1 O2 O3
         obtain ⟨v, hh⟩ := HH.out w3
         go_wp2_with fail
         refine hh.mono ?_
         rintro e wx ⟨rfl, rfl⟩
         clear hh
         go_wp2_with fail
         refine (HRA.out w3).mono ?_
         rintro e w4 ⟨rfl, bx⟩
         have P := nx3 bx O1 O2 O3 B3
         clear bx O1 O2 O3 B3 a0 a1 c0 c1 r0 r1 z0
         obtain ⟨O1, O2, O3, B3⟩ := P
         obtain ⟨a0, a1, c0, c1, r0, r1, z0⟩ := fc3 O1 O2 O3
         go_wp2_with fail
         refine (HRB.out w4).mono ?_
         rintro e w5 ⟨rfl, bx⟩
         have P := nx3 bx O1 O2 O3 B3
         clear bx O1 O2 O3 B3 a0 a1 c0 c1 r0 r1 z0
         obtain ⟨O1, O2, O3, B3⟩ := P
         obtain ⟨a0, a1, c0, c1, r0, r1, z0⟩ := fc3 O1 O2 O3
         go_wp2_with fail
         refine (HSB.out w5).mono ?_
         rintro e w6 ⟨rfl, bx⟩
         have P := nx3 bx O1 O2 O3 B3
         clear bx O1 O2 O3 B3 a0 a1 c0 c1 r0 r1 z0
         obtain ⟨O1, O2, O3, B3⟩ := P
         obtain ⟨a0, a1, c0, c1, r0, r1, z0⟩ := fc3 O1 O2 O3
         go_wp2_with fail
         have hw := (B3.out.setCell (p := ⟨q3, 0, none⟩) hq.out (.int .u64 (0))).setCell (p := ⟨q3, 1, none⟩) hq.out (.int .u64 (0))
         have HOX := Lib.hid ((O3.out.set_ 0 (.int .u64 (0))).set_ 1 (.int .u64 (0)))
         generalize (w6.setCell ⟨q3, 0, none⟩ (.int .u64 (0))).setCell ⟨q3, 1, none⟩ (.int .u64 (0)) = wf at hw HOX ⊢
         have t0 := HOX.out.c0
         have t1 := HOX.out.c1
         exact bodyPost_ret (v := .tuple #[.agg #[.int .u64 (0), .int .u64 (0)], .bool false]) (by simp [results, Tryz.results93, go_sem, t0, t1]) rfl ⟨by rw [HR.out] <;> first | done | rfl, hw⟩
       have HR := Lib.hid (show V = ((al + 1#64, ah), true) by rw [← HV.out, if_pos hs]; show (if al = bl' ∧ ah = bl' then ((0#64, 0#64), false) else if al = bl' then ((al + 1#64, ah), true) else if ah = bl' then ((al, ah - 1#64), true) else ((al, ah), true)) = _; exact (if_neg (fun e => k2 e.2)).trans (if_pos k1))
       have s2 : (uv ah == uv bh) = false := by rw [uv_beq]; exact decide_eq_false (fun e => k2 (e.trans hs.symm))
       clear k1 k2 hs
       go_enter Tryz.func93, Tryz.ntmps93
       go_upto_region 1 with fail
       obtain ⟨w3, q1, q2, q3, hw3, hq1, hq2, hq3, O1, O2, O3, B3, hq, hq0, hd12, hd13, hd23⟩ := thr w (uv al) (uv ah) (uv bl') (uv bh)
       rw [hw3, hq3, hq2, hq1]
       clear hw3 hq1 hq2 hq3
       obtain ⟨a0, a1, c0, c1, r0, r1, z0⟩ := fc3 O1 O2 O3
       obtain ⟨v, hh⟩ := HH.out w3
       go_wp2_with fail
       refine hh.mono ?_
       rintro e wx ⟨rfl, rfl⟩
       clear hh
       go_wp2_with fail
       refine (HRA.out w3).mono ?_
       rintro e w4 ⟨rfl, bx⟩
       have P := nx3 bx O1 O2 O3 B3
       clear bx O1 O2 O3 B3 a0 a1 c0 c1 r0 r1 z0
       obtain ⟨O1, O2, O3, B3⟩ := P
       obtain ⟨a0, a1, c0, c1, r0, r1, z0⟩ := fc3 O1 O2 O3
       go_wp2_with fail
       refine (HRB.out w4).mono ?_
       rintro e w5 ⟨rfl, bx⟩
       have P := nx3 bx O1 O2 O3 B3
       clear bx O1 O2 O3 B3 a0 a1 c0 c1 r0 r1 z0
       obtain ⟨O1, O2, O3, B3⟩ := P
       obtain ⟨a0, a1, c0, c1, r0, r1, z0⟩ := fc3 O1 O2 O3
       go_wp2_with fail
       refine (HSB.out w5).mono ?_
       rintro e w6 ⟨rfl, bx⟩
       have P := nx3 bx O1 O2 O3 B3
       clear bx O1 O2 O3 B3 a0 a1 c0 c1 r0 r1 z0
       obtain ⟨O1, O2, O3, B3⟩ := P
       obtain ⟨a0, a1, c0, c1, r0, r1, z0⟩ := fc3 O1 O2 O3
       have z1 := O1.out.frozen
       go_upto_region 24 with fail
       have P1 := Lib.hid (O1.out.set_ 0 (.int .u64 (uv (al + 1#64))))
       have P2 := Lib.hid (O2.out.far (p := ⟨q1, 0, none⟩) hd12.out (.int .u64 (uv (al + 1#64))))
       have P3 := Lib.hid (O3.out.far (p := ⟨q1, 0, none⟩) (Ne.symm hd13.out) (.int .u64 (uv (al + 1#64))))
       have PB := Lib.hid (B3.out.setCell (p := ⟨q1, 0, none⟩) hq0.out (.int .u64 (uv (al + 1#64))))
       generalize w6.setCell ⟨q1, 0, none⟩ (.int .u64 (uv (al + 1#64))) = w7 at P1 P2 P3 PB ⊢
       clear O1 O2 O3 B3 a0 a1 c0 c1 r0 r1 z0 z1
       have O1 := Lib.hid P1.out
       have O2 := Lib.hid P2.out
       have O3 := Lib.hid P3.out
       have B3 := Lib.hid PB.out
       clear P1 P2 P3 PB
       obtain ⟨a0, a1, c0, c1, r0, r1, z0⟩ := fc3 O1 O2 O3
       go_wp2_with fail
       have hw := (B3.out.setCell (p := ⟨q3, 0, none⟩) hq.out (.int .u64 (uv (al + 1#64)))).setCell (p := ⟨q3, 1, none⟩) hq.out (.int .u64 (uv ah))
       have HOX := Lib.hid ((O3.out.set_ 0 (.int .u64 (uv (al + 1#64)))).set_ 1 (.int .u64 (uv ah)))
       generalize (w7.setCell ⟨q3, 0, none⟩ (.int .u64 (uv (al + 1#64)))).setCell ⟨q3, 1, none⟩ (.int .u64 (uv ah)) = wf at hw HOX ⊢
       have t0 := HOX.out.c0
       have t1 := HOX.out.c1
       exact bodyPost_ret (v := .tuple #[.agg #[.int .u64 (uv (al + 1#64)), .int .u64 (uv ah)], .bool true]) (by simp [results, Tryz.results93, go_sem, t0, t1]) rfl ⟨by rw [HR.out] <;> first | done | rfl, hw⟩
     have s1 : (uv al == uv bl') = false := by rw [uv_beq]; exact decide_eq_false k1
     by_cases k2 : ah = bl'
     · have HR := Lib.hid (show V = ((al, ah - 1#64), true) by rw [← HV.out, if_pos hs]; show (if al = bl' ∧ ah = bl' then ((0#64, 0#64), false) else if al = bl' then ((al + 1#64, ah), true) else if ah = bl' then ((al, ah - 1#64), true) else ((al, ah), true)) = _; exact (if_neg (fun e => k1 e.1)).trans ((if_neg k1).trans (if_pos k2)))
       have s2 : (uv ah == uv bl') = true := by rw [uv_beq]; exact decide_eq_true k2
       clear k1 k2 hs
       go_enter Tryz.func93, Tryz.ntmps93
       go_upto_region 1 with fail
       obtain ⟨w3, q1, q2, q3, hw3, hq1, hq2, hq3, O1, O2, O3, B3, hq, hq0, hd12, hd13, hd23⟩ := thr w (uv al) (uv ah) (uv bl') (uv bh)
       rw [hw3, hq3, hq2, hq1]
       clear hw3 hq1 hq2 hq3
       obtain ⟨a0, a1, c0, c1, r0, r1, z0⟩ := fc3 O1 O2 O3
       obtain ⟨v, hh⟩ := HH.out w3
       go_wp2_with fail
       refine hh.mono ?_
       rintro e wx ⟨rfl, rfl⟩
       clear hh
       go_wp2_with fail
       refine (HRA.out w3).mono ?_
       rintro e w4 ⟨rfl, bx⟩
       have P := nx3 bx O1 O2 O3 B3
       clear bx O1 O2 O3 B3 a0 a1 c0 c1 r0 r1 z0
       obtain ⟨O1, O2, O3, B3⟩ := P
       obtain ⟨a0, a1, c0, c1, r0, r1, z0⟩ := fc3 O1 O2 O3
       go_wp2_with fail
       refine (HRB.out w4).mono ?_
       rintro e w5 ⟨rfl, bx⟩
       have P := nx3 bx O1 O2 O3 B3
       clear bx O1 O2 O3 B3 a0 a1 c0 c1 r0 r1 z0
       obtain ⟨O1, O2, O3, B3⟩ := P
       obtain ⟨a0, a1, c0, c1, r0, r1, z0⟩ := fc3 O1 O2 O3
       go_wp2_with fail
       refine (HSB.out w5).mono ?_
       rintro e w6 ⟨rfl, bx⟩
       have P := nx3 bx O1 O2 O3 B3
       clear bx O1 O2 O3 B3 a0 a1 c0 c1 r0 r1 z0
       obtain ⟨O1, O2, O3, B3⟩ := P
       obtain ⟨a0, a1, c0, c1, r0, r1, z0⟩ := fc3 O1 O2 O3
       have z1 := O1.out.frozen
       go_upto_region 24 with fail
       have P1 := Lib.hid (O1.out.set_ 1 (.int .u64 (uv (ah - 1#64))))
       have P2 := Lib.hid (O2.out.far (p := ⟨q1, 1, none⟩) hd12.out (.int .u64 (uv (ah - 1#64))))
       have P3 := Lib.hid (O3.out.far (p := ⟨q1, 1, none⟩) (Ne.symm hd13.out) (.int .u64 (uv (ah - 1#64))))
       have PB := Lib.hid (B3.out.setCell (p := ⟨q1, 1, none⟩) hq0.out (.int .u64 (uv (ah - 1#64))))
       generalize w6.setCell ⟨q1, 1, none⟩ (.int .u64 (uv (ah - 1#64))) = w7 at P1 P2 P3 PB ⊢
       clear O1 O2 O3 B3 a0 a1 c0 c1 r0 r1 z0 z1
       have O1 := Lib.hid P1.out
       have O2 := Lib.hid P2.out
       have O3 := Lib.hid P3.out
       have B3 := Lib.hid PB.out
       clear P1 P2 P3 PB
       obtain ⟨a0, a1, c0, c1, r0, r1, z0⟩ := fc3 O1 O2 O3
       go_wp2_with fail
       have hw := (B3.out.setCell (p := ⟨q3, 0, none⟩) hq.out (.int .u64 (uv al))).setCell (p := ⟨q3, 1, none⟩) hq.out (.int .u64 (uv (ah - 1#64)))
       have HOX := Lib.hid ((O3.out.set_ 0 (.int .u64 (uv al))).set_ 1 (.int .u64 (uv (ah - 1#64))))
       generalize (w7.setCell ⟨q3, 0, none⟩ (.int .u64 (uv al))).setCell ⟨q3, 1, none⟩ (.int .u64 (uv (ah - 1#64))) = wf at hw HOX ⊢
       have t0 := HOX.out.c0
       have t1 := HOX.out.c1
       exact bodyPost_ret (v := .tuple #[.agg #[.int .u64 (uv al), .int .u64 (uv (ah - 1#64))], .bool true]) (by simp [results, Tryz.results93, go_sem, t0, t1]) rfl ⟨by rw [HR.out] <;> first | done | rfl, hw⟩
     have HR := Lib.hid (show V = ((al, ah), true) by rw [← HV.out, if_pos hs]; show (if al = bl' ∧ ah = bl' then ((0#64, 0#64), false) else if al = bl' then ((al + 1#64, ah), true) else if ah = bl' then ((al, ah - 1#64), true) else ((al, ah), true)) = _; exact (if_neg (fun e => k1 e.1)).trans ((if_neg k1).trans (if_neg k2)))
     have s2 : (uv ah == uv bl') = false := by rw [uv_beq]; exact decide_eq_false k2
     clear k1 k2 hs
     go_enter Tryz.func93, Tryz.ntmps93
     go_upto_region 1 with fail
     obtain ⟨w3, q1, q2, q3, hw3, hq1, hq2, hq3, O1, O2, O3, B3, hq, hq0, hd12, hd13, hd23⟩ := thr w (uv al) (uv ah) (uv bl') (uv bh)
     rw [hw3, hq3, hq2, hq1]
     clear hw3 hq1 hq2 hq3
     obtain ⟨a0, a1, c0, c1, r0, r1, z0⟩ := fc3 O1 O2 O3
     obtain ⟨v, hh⟩ := HH.out w3
     go_wp2_with fail
     refine hh.mono ?_
     rintro e wx ⟨rfl, rfl⟩
     clear hh
     go_wp2_with fail
     refine (HRA.out w3).mono ?_
     rintro e w4 ⟨rfl, bx⟩
     have P := nx3 bx O1 O2 O3 B3
     clear bx O1 O2 O3 B3 a0 a1 c0 c1 r0 r1 z0
     obtain ⟨O1, O2, O3, B3⟩ := P
     obtain ⟨a0, a1, c0, c1, r0, r1, z0⟩ := fc3 O1 O2 O3
     go_wp2_with fail
     refine (HRB.out w4).mono ?_
     rintro e w5 ⟨rfl, bx⟩
     have P := nx3 bx O1 O2 O3 B3
     clear bx O1 O2 O3 B3 a0 a1 c0 c1 r0 r1 z0
     obtain ⟨O1, O2, O3, B3⟩ := P
     obtain ⟨a0, a1, c0, c1, r0, r1, z0⟩ := fc3 O1 O2 O3
     go_wp2_with fail
     refine (HSB.out w5).mono ?_
     rintro e w6 ⟨rfl, bx⟩
     have P := nx3 bx O1 O2 O3 B3
     clear bx O1 O2 O3 B3 a0 a1 c0 c1 r0 r1 z0
     obtain ⟨O1, O2, O3, B3⟩ := P
     obtain ⟨a0, a1, c0, c1, r0, r1, z0⟩ := fc3 O1 O2 O3
     go_wp2_with fail
     have hw := (B3.out.setCell (p := ⟨q3, 0, none⟩) hq.out (.int .u64 (uv al))).setCell (p := ⟨q3, 1, none⟩) hq.out (.int .u64 (uv ah))
     have HOX := Lib.hid ((O3.out.set_ 0 (.int .u64 (uv al))).set_ 1 (.int .u64 (uv ah)))
     generalize (w6.setCell ⟨q3, 0, none⟩ (.int .u64 (uv al))).setCell ⟨q3, 1, none⟩ (.int .u64 (uv ah)) = wf at hw HOX ⊢
     have t0 := HOX.out.c0
     have t1 := HOX.out.c1
     exact bodyPost_ret (v := .tuple #[.agg #[.int .u64 (uv al), .int .u64 (uv ah)], .bool true]) (by simp [results, Tryz.results93, go_sem, t0, t1]) rfl ⟨by rw [HR.out] <;> first | done | rfl, hw⟩
   · have HR := Lib.hid (show V = meetV al ah bl' bh by rw [← HV.out, if_pos hs]; rw [← hs]; rfl)
     have HM := Lib.hid (fun (w : World) A hs => meet2_any (w := w) (A := A) (al := al) (ah := ah) (bl' := bl') (bh := bh) HAL.out HBL.out hs)
     clear hs
     go_enter Tryz.func93, Tryz.ntmps93
     go_upto_region 1 with fail
     obtain ⟨w3, q1, q2, q3, hw3, hq1, hq2, hq3, O1, O2, O3, B3, hq, hq0, hd12, hd13, hd23⟩ := thr w (uv al) (uv ah) (uv bl') (uv bh)
     rw [hw3, hq3, hq2, hq1]
     clear hw3 hq1 hq2 hq3
     obtain ⟨a0, a1, c0, c1, r0, r1, z0⟩ := fc3 O1 O2 O3
     obtain ⟨v, hh⟩ := HH.out w3
     go_wp2_with fail
     refine hh.mono ?_
     rintro e wx ⟨rfl, rfl⟩
     clear hh
     go_wp2_with fail
     refine (HRA.out w3).mono ?_
     rintro e w4 ⟨rfl, bx⟩
     have P := nx3 bx O1 O2 O3 B3
     clear bx O1 O2 O3 B3 a0 a1 c0 c1 r0 r1 z0
     obtain ⟨O1, O2, O3, B3⟩ := P
     obtain ⟨a0, a1, c0, c1, r0, r1, z0⟩ := fc3 O1 O2 O3
     go_wp2_with fail
     refine (HRB.out w4).mono ?_
     rintro e w5 ⟨rfl, bx⟩
     have P := nx3 bx O1 O2 O3 B3
     clear bx O1 O2 O3 B3 a0 a1 c0 c1 r0 r1 z0
     obtain ⟨O1, O2, O3, B3⟩ := P
     obtain ⟨a0, a1, c0, c1, r0, r1, z0⟩ := fc3 O1 O2 O3
     go_wp2_with fail
     refine (HSB.out w5).mono ?_
     rintro e w6 ⟨rfl, bx⟩
     have P := nx3 bx O1 O2 O3 B3
     clear bx O1 O2 O3 B3 a0 a1 c0 c1 r0 r1 z0
     obtain ⟨O1, O2, O3, B3⟩ := P
     obtain ⟨a0, a1, c0, c1, r0, r1, z0⟩ := fc3 O1 O2 O3
     generalize meetV al ah bl' bh = X at HR HM
     obtain ⟨⟨x1, x2⟩, x3⟩ := X
     unfold spVal at HM
     dsimp only at HM
     go_wp2_with fail
     have SX := Lib.hid (Sl.fresh w6 #[.int .u64 (uv al), .int .u64 (uv ah), .int .u64 (uv bl'), .int .u64 (uv bh)] 132 (0, 0))
     refine (HM.out _ _ SX.out).mono ?_
     rintro e w7 ⟨rfl, by_⟩
     have bz := (below_alloc (Below.refl w6.heap.size w6) (.cells #[.int .u64 (uv al), .int .u64 (uv ah), .int .u64 (uv bl'), .int .u64 (uv bh)] 132)).trans (by_.mono (below_alloc (Below.refl w6.heap.size w6) _).size)
     clear by_ SX
     have P1 := Lib.hid (O1.out.below bz O1.out.lt)
     have P2 := Lib.hid (O2.out.below bz O2.out.lt)
     have P3 := Lib.hid (O3.out.below bz O3.out.lt)
     have PB := Lib.hid (B3.out.trans (bz.mono B3.out.size))
     clear bz O1 O2 O3 B3 a0 a1 c0 c1 r0 r1 z0
     have O1 := Lib.hid P1.out
     have O2 := Lib.hid P2.out
     have O3 := Lib.hid P3.out
     have B3 := Lib.hid PB.out
     clear P1 P2 P3 PB
     obtain ⟨a0, a1, c0, c1, r0, r1, z0⟩ := fc3 O1 O2 O3
     go_wp2_with fail
     have hw := (B3.out.setCell (p := ⟨q3, 0, none⟩) hq.out (.int .u64 (uv x1))).setCell (p := ⟨q3, 1, none⟩) hq.out (.int .u64 (uv x2))
     have HOX := Lib.hid ((O3.out.set_ 0 (.int .u64 (uv x1))).set_ 1 (.int .u64 (uv x2)))
     generalize (w7.setCell ⟨q3, 0, none⟩ (.int .u64 (uv x1))).setCell ⟨q3, 1, none⟩ (.int .u64 (uv x2)) = wf at hw HOX ⊢
     have t0 := HOX.out.c0
     have t1 := HOX.out.c1
     exact bodyPost_ret (v := .tuple #[.agg #[.int .u64 (uv x1), .int .u64 (uv x2)], .bool x3]) (by simp [results, Tryz.results93, go_sem, t0, t1]) rfl ⟨by rw [HR.out] <;> first | done | rfl, hw⟩
   · have HR := Lib.hid (show V = meetV al ah bl' bh by rw [← HV.out, if_pos hs]; rw [← hs]; rfl)
     have HM := Lib.hid (fun (w : World) A hs => meet2_any (w := w) (A := A) (al := al) (ah := ah) (bl' := bl') (bh := bh) HAL.out HBL.out hs)
     clear hs
     go_enter Tryz.func93, Tryz.ntmps93
     go_upto_region 1 with fail
     obtain ⟨w3, q1, q2, q3, hw3, hq1, hq2, hq3, O1, O2, O3, B3, hq, hq0, hd12, hd13, hd23⟩ := thr w (uv al) (uv ah) (uv bl') (uv bh)
     rw [hw3, hq3, hq2, hq1]
     clear hw3 hq1 hq2 hq3
     obtain ⟨a0, a1, c0, c1, r0, r1, z0⟩ := fc3 O1 O2 O3
     obtain ⟨v, hh⟩ := HH.out w3
     go_wp2_with fail
     refine hh.mono ?_
     rintro e wx ⟨rfl, rfl⟩
     clear hh
     go_wp2_with fail
     refine (HRA.out w3).mono ?_
     rintro e w4 ⟨rfl, bx⟩
     have P := nx3 bx O1 O2 O3 B3
     clear bx O1 O2 O3 B3 a0 a1 c0 c1 r0 r1 z0
     obtain ⟨O1, O2, O3, B3⟩ := P
     obtain ⟨a0, a1, c0, c1, r0, r1, z0⟩ := fc3 O1 O2 O3
     go_wp2_with fail
     refine (HRB.out w4).mono ?_
     rintro e w5 ⟨rfl, bx⟩
     have P := nx3 bx O1 O2 O3 B3
     clear bx O1 O2 O3 B3 a0 a1 c0 c1 r0 r1 z0
     obtain ⟨O1, O2, O3, B3⟩ := P
     obtain ⟨a0, a1, c0, c1, r0, r1, z0⟩ := fc3 O1 O2 O3
     go_wp2_with fail
     refine (HSB.out w5).mono ?_
     rintro e w6 ⟨rfl, bx⟩
     have P := nx3 bx O1 O2 O3 B3
     clear bx O1 O2 O3 B3 a0 a1 c0 c1 r0 r1 z0
     obtain ⟨O1, O2, O3, B3⟩ := P
     obtain ⟨a0, a1, c0, c1, r0, r1, z0⟩ := fc3 O1 O2 O3
     generalize meetV al ah bl' bh = X at HR HM
     obtain ⟨⟨x1, x2⟩, x3⟩ := X
     unfold spVal at HM
     dsimp only at HM
     go_wp2_with fail
     have SX := Lib.hid (Sl.fresh w6 #[.int .u64 (uv al), .int .u64 (uv ah), .int .u64 (uv bl'), .int .u64 (uv bh)] 132 (0, 0))
     refine (HM.out _ _ SX.out).mono ?_
     rintro e w7 ⟨rfl, by_⟩
     have bz := (below_alloc (Below.refl w6.heap.size w6) (.cells #[.int .u64 (uv al), .int .u64 (uv ah), .int .u64 (uv bl'), .int .u64 (uv bh)] 132)).trans (by_.mono (below_alloc (Below.refl w6.heap.size w6) _).size)
     clear by_ SX
     have P1 := Lib.hid (O1.out.below bz O1.out.lt)
     have P2 := Lib.hid (O2.out.below bz O2.out.lt)
     have P3 := Lib.hid (O3.out.below bz O3.out.lt)
     have PB := Lib.hid (B3.out.trans (bz.mono B3.out.size))
     clear bz O1 O2 O3 B3 a0 a1 c0 c1 r0 r1 z0
     have O1 := Lib.hid P1.out
     have O2 := Lib.hid P2.out
     have O3 := Lib.hid P3.out
     have B3 := Lib.hid PB.out
     clear P1 P2 P3 PB
     obtain ⟨a0, a1, c0, c1, r0, r1, z0⟩ := fc3 O1 O2 O3
     go_wp2_with fail
     have hw := (B3.out.setCell (p := ⟨q3, 0, none⟩) hq.out (.int .u64 (uv x1))).setCell (p := ⟨q3, 1, none⟩) hq.out (.int .u64 (uv x2))
     have HOX := Lib.hid ((O3.out.set_ 0 (.int .u64 (uv x1))).set_ 1 (.int .u64 (uv x2)))
     generalize (w7.setCell ⟨q3, 0, none⟩ (.int .u64 (uv x1))).setCell ⟨q3, 1, none⟩ (.int .u64 (uv x2)) = wf at hw HOX ⊢
     have t0 := HOX.out.c0
     have t1 := HOX.out.c1
     exact bodyPost_ret (v := .tuple #[.agg #[.int .u64 (uv x1), .int .u64 (uv x2)], .bool x3]) (by simp [results, Tryz.results93, go_sem, t0, t1]) rfl ⟨by rw [HR.out] <;> first | done | rfl, hw⟩
   · by_cases k1 : al = bl'
     · have s1 : (uv al == uv bl') = true := by rw [uv_beq]; exact decide_eq_true k1
       by_cases k2 : ah = bl'
       · have HR := Lib.hid (show V = ((0#64, 0#64), false) by rw [← HV.out, if_pos hs]; show (if al = bl' ∧ ah = bl' then ((0#64, 0#64), false) else if al = bl' then ((al + 1#64, ah), true) else if ah = bl' then ((al, ah - 1#64), true) else ((al, ah), true)) = _; exact if_pos ⟨k1, k2⟩)
         have s2 : (uv ah == uv bh) = true := by rw [uv_beq]; exact decide_eq_true (k2.trans hs)
         clear k1 k2 hs
         go_enter Tryz.func93, Tryz.ntmps93
         go_upto_region 1 with fail
         obtain ⟨w3, q1, q2, q3, hw3, hq1, hq2, hq3, O1, O2, O3, B3, hq, hq0, hd12, hd13, hd23⟩ := thr w (uv al) (uv ah) (uv bl') (uv bh)
         rw [hw3, hq3, hq2, hq1]
         clear hw3 hq1 hq2 hq3
         obtain ⟨a0, a1, c0, c1, r0, r1, z0⟩ := fc3 O1 O2 O3
         obtain ⟨v, hh⟩ := HH.out w3
         go_wp2_with fail
         refine hh.mono ?_
         rintro e wx ⟨rfl, rfl⟩
         clear hh
         go_wp2_with fail
         refine (HRA.out w3).mono ?_
         rintro e w4 ⟨rfl, bx⟩
         have P := nx3 bx O1 O2 O3 B3
         clear bx O1 O2 O3 B3 a0 a1 c0 c1 r0 r1 z0
         obtain ⟨O1, O2, O3, B3⟩ := P
         obtain ⟨a0, a1, c0, c1, r0, r1, z0⟩ := fc3 O1 O2 O3
         go_wp2_with fail
         refine (HRB.out w4).mono ?_
         rintro e w5 ⟨rfl, bx⟩
         have P := nx3 bx O1 O2 O3 B3
         clear bx O1 O2 O3 B3 a0 a1 c0 c1 r0 r1 z0
         obtain ⟨O1, O2, O3, B3⟩ := P
         obtain ⟨a0, a1, c0, c1, r0, r1, z0⟩ := fc3 O1 O2 O3
         go_wp2_with fail
         refine (HSB.out w5).mono ?_
         rintro e w6 ⟨rfl, bx⟩
         have P := nx3 bx O1 O2 O3 B3
         clear bx O1 O2 O3 B3 a0 a1 c0 c1 r0 r1 z0
         obtain ⟨O1, O2, O3, B3⟩ := P
         obtain ⟨a0, a1, c0, c1, r0, r1, z0⟩ := fc3 O1 O2 O3
         go_wp2_with fail
         have hw := (B3.out.setCell (p := ⟨q3, 0, none⟩) hq.out (.int .u64 (0))).setCell (p := ⟨q3, 1, none⟩) hq.out (.int .u64 (0))
         have HOX := Lib.hid ((O3.out.set_ 0 (.int .u64 (0))).set_ 1 (.int .u64 (0)))
         generalize (w6.setCell ⟨q3, 0, none⟩ (.int .u64 (0))).setCell ⟨q3, 1, none⟩ (.int .u64 (0)) = wf at hw HOX ⊢
         have t0 := HOX.out.c0
         have t1 := HOX.out.c1
         exact bodyPost_ret (v := .tuple #[.agg #[.int .u64 (0), .int .u64 (0)], .bool false]) (by simp [results, Tryz.results93, go_sem, t0, t1]) rfl ⟨by rw [HR.out] <;> first | done | rfl, hw⟩
       have HR := Lib.hid (show V = ((al + 1#64, ah), true) by rw [← HV.out, if_pos hs]; show (if al = bl' ∧ ah = bl' then ((0#64, 0#64), false) else if al = bl' then ((al + 1#64, ah), true) else if ah = bl' then ((al, ah - 1#64), true) else ((al, ah), true)) = _; exact (if_neg (fun e => k2 e.2)).trans (if_pos k1))
       have s2 : (uv ah == uv bh) = false := by rw [uv_beq]; exact decide_eq_false (fun e => k2 (e.trans hs.symm))
       clear k1 k2 hs
       go_enter Tryz.func93, Tryz.ntmps93
       go_upto_region 1 with fail
       obtain ⟨w3, q1, q2, q3, hw3, hq1, hq2, hq3, O1, O2, O3, B3, hq, hq0, hd12, hd13, hd23⟩ := thr w (uv al) (uv ah) (uv bl') (uv bh)
       rw [hw3, hq3, hq2, hq1]
       clear hw3 hq1 hq2 hq3
       obtain ⟨a0, a1, c0, c1, r0, r1, z0⟩ := fc3 O1 O2 O3
       obtain ⟨v, hh⟩ := HH.out w3
       go_wp2_with fail
       refine hh.mono ?_
       rintro e wx ⟨rfl, rfl⟩
       clear hh
       go_wp2_with fail
       refine (HRA.out w3).mono ?_
       rintro e w4 ⟨rfl, bx⟩
       have P := nx3 bx O1 O2 O3 B3
       clear bx O1 O2 O3 B3 a0 a1 c0 c1 r0 r1 z0
       obtain ⟨O1, O2, O3, B3⟩ := P
       obtain ⟨a0, a1, c0, c1, r0, r1, z0⟩ := fc3 O1 O2 O3
       go_wp2_with fail
       refine (HRB.out w4).mono ?_
       rintro e w5 ⟨rfl, bx⟩
       have P := nx3 bx O1 O2 O3 B3
       clear bx O1 O2 O3 B3 a0 a1 c0 c1 r0 r1 z0
       obtain ⟨O1, O2, O3, B3⟩ := P
       obtain ⟨a0, a1, c0, c1, r0, r1, z0⟩ := fc3 O1 O2 O3
       go_wp2_with fail
       refine (HSB.out w5).mono ?_
       rintro e w6 ⟨rfl, bx⟩
       have P := nx3 bx O1 O2 O3 B3
       clear bx O1 O2 O3 B3 a0 a1 c0 c1 r0 r1 z0
       obtain ⟨O1, O2, O3, B3⟩ := P
       obtain ⟨a0, a1, c0, c1, r0, r1, z0⟩ := fc3 O1 O2 O3
       have z1 := O1.out.frozen
       go_upto_region 24 with fail
       have P1 := Lib.hid (O1.out.set_ 0 (.int .u64 (uv (al + 1#64))))
       have P2 := Lib.hid (O2.out.far (p := ⟨q1, 0, none⟩) hd12.out (.int .u64 (uv (al + 1#64))))
       have P3 := Lib.hid (O3.out.far (p := ⟨q1, 0, none⟩) (Ne.symm hd13.out) (.int .u64 (uv (al + 1#64))))
       have PB := Lib.hid (B3.out.setCell (p := ⟨q1, 0, none⟩) hq0.out (.int .u64 (uv (al + 1#64))))
       generalize w6.setCell ⟨q1, 0, none⟩ (.int .u64 (uv (al + 1#64))) = w7 at P1 P2 P3 PB ⊢
       clear O1 O2 O3 B3 a0 a1 c0 c1 r0 r1 z0 z1
       have O1 := Lib.hid P1.out
       have O2 := Lib.hid P2.out
       have O3 := Lib.hid P3.out
       have B3 := Lib.hid PB.out
       clear P1 P2 P3 PB
       obtain ⟨a0, a1, c0, c1, r0, r1, z0⟩ := fc3 O1 O2 O3
       go_wp2_with fail
       have hw := (B3.out.setCell (p := ⟨q3, 0, none⟩) hq.out (.int .u64 (uv (al + 1#64)))).setCell (p := ⟨q3, 1, none⟩) hq.out (.int .u64 (uv ah))
       have HOX := Lib.hid ((O3.out.set_ 0 (.int .u64 (uv (al + 1#64)))).set_ 1 (.int .u64 (uv ah)))
       generalize (w7.setCell ⟨q3, 0, none⟩ (.int .u64 (uv (al + 1#64)))).setCell ⟨q3, 1, none⟩ (.int .u64 (uv ah)) = wf at hw HOX ⊢
       have t0 := HOX.out.c0
       have t1 := HOX.out.c1
       exact bodyPost_ret (v := .tuple #[.agg #[.int .u64 (uv (al + 1#64)), .int .u64 (uv ah)], .bool true]) (by simp [results, Tryz.results93, go_sem, t0, t1]) rfl ⟨by rw [HR.out] <;> first | done | rfl, hw⟩
     have s1 : (uv al == uv bl') = false := by rw [uv_beq]; exact decide_eq_false k1
     by_cases k2 : ah = bl'
     · have HR := Lib.hid (show V = ((al, ah - 1#64), true) by rw [← HV.out, if_pos hs]; show (if al = bl' ∧ ah = bl' then ((0#64, 0#64), false) else if al = bl' then ((al + 1#64, ah), true) else if ah = bl' then ((al, ah - 1#64), true) else ((al, ah), true)) = _; exact (if_neg (fun e => k1 e.1)).trans ((if_neg k1).trans (if_pos k2)))
       have s2 : (uv ah == uv bl') = true := by rw [uv_beq]; exact decide_eq_true k2
       clear k1 k2 hs
       go_enter Tryz.func93, Tryz.ntmps93
       go_upto_region 1 with fail
       obtain ⟨w3, q1, q2, q3, hw3, hq1, hq2, hq3, O1, O2, O3, B3, hq, hq0, hd12, hd13, hd23⟩ := thr w (uv al) (uv ah) (uv bl') (uv bh)
       rw [hw3, hq3, hq2, hq1]
       clear hw3 hq1 hq2 hq3
       obtain ⟨a0, a1, c0, c1, r0, r1, z0⟩ := fc3 O1 O2 O3
       obtain ⟨v, hh⟩ := HH.out w3
       go_wp2_with fail
       refine hh.mono ?_
       rintro e wx ⟨rfl, rfl⟩
       clear hh
       go_wp2_with fail
       refine (HRA.out w3).mono ?_
       rintro e w4 ⟨rfl, bx⟩
       have P := nx3 bx O1 O2 O3 B3
       clear bx O1 O2 O3 B3 a0 a1 c0 c1 r0 r1 z0
       obtain ⟨O1, O2, O3, B3⟩ := P
       obtain ⟨a0, a1, c0, c1, r0, r1, z0⟩ := fc3 O1 O2 O3
       go_wp2_with fail
       refine (HRB.out w4).mono ?_
       rintro e w5 ⟨rfl, bx⟩
       have P := nx3 bx O1 O2 O3 B3
       clear bx O1 O2 O3 B3 a0 a1 c0 c1 r0 r1 z0
       obtain ⟨O1, O2, O3, B3⟩ := P
       obtain ⟨a0, a1, c0, c1, r0, r1, z0⟩ := fc3 O1 O2 O3
       go_wp2_with fail
       refine (HSB.out w5).mono ?_
       rintro e w6 ⟨rfl, bx⟩
       have P := nx3 bx O1 O2 O3 B3
       clear bx O1 O2 O3 B3 a0 a1 c0 c1 r0 r1 z0
       obtain ⟨O1, O2, O3, B3⟩ := P
       obtain ⟨a0, a1, c0, c1, r0, r1, z0⟩ := fc3 O1 O2 O3
       have z1 := O1.out.frozen
       go_upto_region 24 with fail
       have P1 := Lib.hid (O1.out.set_ 1 (.int .u64 (uv (ah - 1#64))))
       have P2 := Lib.hid (O2.out.far (p := ⟨q1, 1, none⟩) hd12.out (.int .u64 (uv (ah - 1#64))))
       have P3 := Lib.hid (O3.out.far (p := ⟨q1, 1, none⟩) (Ne.symm hd13.out) (.int .u64 (uv (ah - 1#64))))
       have PB := Lib.hid (B3.out.setCell (p := ⟨q1, 1, none⟩) hq0.out (.int .u64 (uv (ah - 1#64))))
       generalize w6.setCell ⟨q1, 1, none⟩ (.int .u64 (uv (ah - 1#64))) = w7 at P1 P2 P3 PB ⊢
       clear O1 O2 O3 B3 a0 a1 c0 c1 r0 r1 z0 z1
       have O1 := Lib.hid P1.out
       have O2 := Lib.hid P2.out
       have O3 := Lib.hid P3.out
       have B3 := Lib.hid PB.out
       clear P1 P2 P3 PB
       obtain ⟨a0, a1, c0, c1, r0, r1, z0⟩ := fc3 O1 O2 O3
       go_wp2_with fail
       have hw := (B3.out.setCell (p := ⟨q3, 0, none⟩) hq.out (.int .u64 (uv al))).setCell (p := ⟨q3, 1, none⟩) hq.out (.int .u64 (uv (ah - 1#64)))
       have HOX := Lib.hid ((O3.out.set_ 0 (.int .u64 (uv al))).set_ 1 (.int .u64 (uv (ah - 1#64))))
       generalize (w7.setCell ⟨q3, 0, none⟩ (.int .u64 (uv al))).setCell ⟨q3, 1, none⟩ (.int .u64 (uv (ah - 1#64))) = wf at hw HOX ⊢
       have t0 := HOX.out.c0
       have t1 := HOX.out.c1
       exact bodyPost_ret (v := .tuple #[.agg #[.int .u64 (uv al), .int .u64 (uv (ah - 1#64))], .bool true]) (by simp [results, Tryz.results93, go_sem, t0, t1]) rfl ⟨by rw [HR.out] <;> first | done | rfl, hw⟩
     have HR := Lib.hid (show V = ((al, ah), true) by rw [← HV.out, if_pos hs]; show (if al = bl' ∧ ah = bl' then ((0#64, 0#64), false) else if al = bl' then ((al + 1#64, ah), true) else if ah = bl' then ((al, ah - 1#64), true) else ((al, ah), true)) = _; exact (if_neg (fun e => k1 e.1)).trans ((if_neg k1).trans (if_neg k2)))
     have s2 : (uv ah == uv bl') = false := by rw [uv_beq]; exact decide_eq_false k2
     clear k1 k2 hs
     go_enter Tryz.func93, Tryz.ntmps93
     go_upto_region 1 with fail
     obtain ⟨w3, q1, q2, q3, hw3, hq1, hq2, hq3, O1, O2, O3, B3, hq, hq0, hd12, hd13, hd23⟩ := thr w (uv al) (uv ah) (uv bl') (uv bh)
     rw [hw3, hq3, hq2, hq1]
     clear hw3 hq1 hq2 hq3
     obtain ⟨a0, a1, c0, c1, r0, r1, z0⟩ := fc3 O1 O2 O3
     obtain ⟨v, hh⟩ := HH.out w3
     go_wp2_with fail
     refine hh.mono ?_
     rintro e wx ⟨rfl, rfl⟩
     clear hh
     go_wp2_with fail
     refine (HRA.out w3).mono ?_
     rintro e w4 ⟨rfl, bx⟩
     have P := nx3 bx O1 O2 O3 B3
     clear bx O1 O2 O3 B3 a0 a1 c0 c1 r0 r1 z0
     obtain ⟨O1, O2, O3, B3⟩ := P
     obtain ⟨a0, a1, c0, c1, r0, r1, z0⟩ := fc3 O1 O2 O3
     go_wp2_with fail
     refine (HRB.out w4).mono ?_
     rintro e w5 ⟨rfl, bx⟩
     have P := nx3 bx O1 O2 O3 B3
     clear bx O1 O2 O3 B3 a0 a1 c0 c1 r0 r1 z0
     obtain ⟨O1, O2, O3, B3⟩ := P
     obtain ⟨a0, a1, c0, c1, r0, r1, z0⟩ := fc3 O1 O2 O3
     go_wp2_with fail
     refine (HSB.out w5).mono ?_
     rintro e w6 ⟨rfl, bx⟩
     have P := nx3 bx O1 O2 O3 B3
     clear bx O1 O2 O3 B3 a0 a1 c0 c1 r0 r1 z0
     obtain ⟨O1, O2, O3, B3⟩ := P
     obtain ⟨a0, a1, c0, c1, r0, r1, z0⟩ := fc3 O1 O2 O3
     go_wp2_with fail
     have hw := (B3.out.setCell (p := ⟨q3, 0, none⟩) hq.out (.int .u64 (uv al))).setCell (p := ⟨q3, 1, none⟩) hq.out (.int .u64 (uv ah))
     have HOX := Lib.hid ((O3.out.set_ 0 (.int .u64 (uv al))).set_ 1 (.int .u64 (uv ah)))
     generalize (w6.setCell ⟨q3, 0, none⟩ (.int .u64 (uv al))).setCell ⟨q3, 1, none⟩ (.int .u64 (uv ah)) = wf at hw HOX ⊢
     have t0 := HOX.out.c0
     have t1 := HOX.out.c1
     exact bodyPost_ret (v := .tuple #[.agg #[.int .u64 (uv al), .int .u64 (uv ah)], .bool true]) (by simp [results, Tryz.results93, go_sem, t0, t1]) rfl ⟨by rw [HR.out] <;> first | done | rfl, hw⟩
   · have HR := Lib.hid (show V = meetV al ah bl' mostB by rw [← HV.out, if_pos hs]; rfl)
     have HM := Lib.hid (fun (w : World) A hs => meet2_any (w := w) (A := A) (al := al) (ah := ah) (bl' := bl') (bh := mostB) HAL.out (most_le _) hs)
     clear hs
     go_enter Tryz.func93, Tryz.ntmps93
     go_upto_region 1 with fail
     obtain ⟨w3, q1, q2, q3, hw3, hq1, hq2, hq3, O1, O2, O3, B3, hq, hq0, hd12, hd13, hd23⟩ := thr w (uv al) (uv ah) (uv bl') (uv bh)
     rw [hw3, hq3, hq2, hq1]
     clear hw3 hq1 hq2 hq3
     obtain ⟨a0, a1, c0, c1, r0, r1, z0⟩ := fc3 O1 O2 O3
     obtain ⟨v, hh⟩ := HH.out w3
     go_wp2_with fail
     refine hh.mono ?_
     rintro e wx ⟨rfl, rfl⟩
     clear hh
     go_wp2_with fail
     refine (HRA.out w3).mono ?_
     rintro e w4 ⟨rfl, bx⟩
     have P := nx3 bx O1 O2 O3 B3
     clear bx O1 O2 O3 B3 a0 a1 c0 c1 r0 r1 z0
     obtain ⟨O1, O2, O3, B3⟩ := P
     obtain ⟨a0, a1, c0, c1, r0, r1, z0⟩ := fc3 O1 O2 O3
     go_wp2_with fail
     refine (HRB.out w4).mono ?_
     rintro e w5 ⟨rfl, bx⟩
     have P := nx3 bx O1 O2 O3 B3
     clear bx O1 O2 O3 B3 a0 a1 c0 c1 r0 r1 z0
     obtain ⟨O1, O2, O3, B3⟩ := P
     obtain ⟨a0, a1, c0, c1, r0, r1, z0⟩ := fc3 O1 O2 O3
     go_wp2_with fail
     refine (HSB.out w5).mono ?_
     rintro e w6 ⟨rfl, bx⟩
     have P := nx3 bx O1 O2 O3 B3
     clear bx O1 O2 O3 B3 a0 a1 c0 c1 r0 r1 z0
     obtain ⟨O1, O2, O3, B3⟩ := P
     obtain ⟨a0, a1, c0, c1, r0, r1, z0⟩ := fc3 O1 O2 O3
     generalize meetV al ah bl' mostB = X at HR HM
     obtain ⟨⟨x1, x2⟩, x3⟩ := X
     unfold spVal at HM
     dsimp only at HM
     go_wp2_with fail
     have SX := Lib.hid (Sl.fresh w6 #[.int .u64 (uv al), .int .u64 (uv ah), .int .u64 (uv bl'), .int .u64 (18446744073709551615)] 132 (0, 0))
     refine (HM.out _ _ SX.out).mono ?_
     rintro e w7 ⟨rfl, by_⟩
     have bz := (below_alloc (Below.refl w6.heap.size w6) (.cells #[.int .u64 (uv al), .int .u64 (uv ah), .int .u64 (uv bl'), .int .u64 (18446744073709551615)] 132)).trans (by_.mono (below_alloc (Below.refl w6.heap.size w6) _).size)
     clear by_ SX
     have P1 := Lib.hid (O1.out.below bz O1.out.lt)
     have P2 := Lib.hid (O2.out.below bz O2.out.lt)
     have P3 := Lib.hid (O3.out.below bz O3.out.lt)
     have PB := Lib.hid (B3.out.trans (bz.mono B3.out.size))
     clear bz O1 O2 O3 B3 a0 a1 c0 c1 r0 r1 z0
     have O1 := Lib.hid P1.out
     have O2 := Lib.hid P2.out
     have O3 := Lib.hid P3.out
     have B3 := Lib.hid PB.out
     clear P1 P2 P3 PB
     obtain ⟨a0, a1, c0, c1, r0, r1, z0⟩ := fc3 O1 O2 O3
     go_wp2_with fail
     have hw := (B3.out.setCell (p := ⟨q3, 0, none⟩) hq.out (.int .u64 (uv x1))).setCell (p := ⟨q3, 1, none⟩) hq.out (.int .u64 (uv x2))
     have HOX := Lib.hid ((O3.out.set_ 0 (.int .u64 (uv x1))).set_ 1 (.int .u64 (uv x2)))
     generalize (w7.setCell ⟨q3, 0, none⟩ (.int .u64 (uv x1))).setCell ⟨q3, 1, none⟩ (.int .u64 (uv x2)) = wf at hw HOX ⊢
     have t0 := HOX.out.c0
     have t1 := HOX.out.c1
     exact bodyPost_ret (v := .tuple #[.agg #[.int .u64 (uv x1), .int .u64 (uv x2)], .bool x3]) (by simp [results, Tryz.results93, go_sem, t0, t1]) rfl ⟨by rw [HR.out] <;> first | done | rfl, hw⟩
   · by_cases h0 : bl' = 0#64
     · have HR := Lib.hid (show V = ((0#64, 0#64), false) by rw [← HV.out, if_pos hs]; rw [h0]; first | rfl | exact if_pos rfl)
       have g1 := uv_beq0 h0
       clear h0 hs
       go_enter Tryz.func93, Tryz.ntmps93
       go_upto_region 1 with fail
       obtain ⟨w3, q1, q2, q3, hw3, hq1, hq2, hq3, O1, O2, O3, B3, hq, hq0, hd12, hd13, hd23⟩ := thr w (uv al) (uv ah) (uv bl') (uv bh)
       rw [hw3, hq3, hq2, hq1]
       clear hw3 hq1 hq2 hq3
       obtain ⟨a0, a1, c0, c1, r0, r1, z0⟩ := fc3 O1 O2 O3
       obtain ⟨v, hh⟩ := HH.out w3
       go_wp2_with fail
       refine hh.mono ?_
       rintro e wx ⟨rfl, rfl⟩
       clear hh
       go_wp2_with fail
       refine (HRA.out w3).mono ?_
       rintro e w4 ⟨rfl, bx⟩
       have P := nx3 bx O1 O2 O3 B3
       clear bx O1 O2 O3 B3 a0 a1 c0 c1 r0 r1 z0
       obtain ⟨O1, O2, O3, B3⟩ := P
       obtain ⟨a0, a1, c0, c1, r0, r1, z0⟩ := fc3 O1 O2 O3
       go_wp2_with fail
       refine (HRB.out w4).mono ?_
       rintro e w5 ⟨rfl, bx⟩
       have P := nx3 bx O1 O2 O3 B3
       clear bx O1 O2 O3 B3 a0 a1 c0 c1 r0 r1 z0
       obtain ⟨O1, O2, O3, B3⟩ := P
       obtain ⟨a0, a1, c0, c1, r0, r1, z0⟩ := fc3 O1 O2 O3
       go_wp2_with fail
       refine (HSB.out w5).mono ?_
       rintro e w6 ⟨rfl, bx⟩
       have P := nx3 bx O1 O2 O3 B3
       clear bx O1 O2 O3 B3 a0 a1 c0 c1 r0 r1 z0
       obtain ⟨O1, O2, O3, B3⟩ := P
       obtain ⟨a0, a1, c0, c1, r0, r1, z0⟩ := fc3 O1 O2 O3
       go_wp2_with fail
       have hw := (B3.out.setCell (p := ⟨q3, 0, none⟩) hq.out (.int .u64 (0))).setCell (p := ⟨q3, 1, none⟩) hq.out (.int .u64 (0))
       have HOX := Lib.hid ((O3.out.set_ 0 (.int .u64 (0))).set_ 1 (.int .u64 (0)))
       generalize (w6.setCell ⟨q3, 0, none⟩ (.int .u64 (0))).setCell ⟨q3, 1, none⟩ (.int .u64 (0)) = wf at hw HOX ⊢
       have t0 := HOX.out.c0
       have t1 := HOX.out.c1
       exact bodyPost_ret (v := .tuple #[.agg #[.int .u64 (0), .int .u64 (0)], .bool false]) (by simp [results, Tryz.results93, go_sem, t0, t1]) rfl ⟨by rw [HR.out] <;> first | done | rfl, hw⟩
     have HR := Lib.hid (show V = meetV al ah 0#64 (bl' - 1#64) by rw [← HV.out, if_pos hs]; exact if_neg h0)
     have HM := Lib.hid (fun (w : World) A hs => meet2_any (w := w) (A := A) (al := al) (ah := ah) (bl' := 0#64) (bh := bl' - 1#64) HAL.out (Nat.zero_le _) hs)
     have g1 := uv_nbeq0 h0
     clear h0 hs
     go_enter Tryz.func93, Tryz.ntmps93
     go_upto_region 1 with fail
     obtain ⟨w3, q1, q2, q3, hw3, hq1, hq2, hq3, O1, O2, O3, B3, hq, hq0, hd12, hd13, hd23⟩ := thr w (uv al) (uv ah) (uv bl') (uv bh)
     rw [hw3, hq3, hq2, hq1]
     clear hw3 hq1 hq2 hq3
     obtain ⟨a0, a1, c0, c1, r0, r1, z0⟩ := fc3 O1 O2 O3
     obtain ⟨v, hh⟩ := HH.out w3
     go_wp2_with fail
     refine hh.mono ?_
     rintro e wx ⟨rfl, rfl⟩
     clear hh
     go_wp2_with fail
     refine (HRA.out w3).mono ?_
     rintro e w4 ⟨rfl, bx⟩
     have P := nx3 bx O1 O2 O3 B3
     clear bx O1 O2 O3 B3 a0 a1 c0 c1 r0 r1 z0
     obtain ⟨O1, O2, O3, B3⟩ := P
     obtain ⟨a0, a1, c0, c1, r0, r1, z0⟩ := fc3 O1 O2 O3
     go_wp2_with fail
     refine (HRB.out w4).mono ?_
     rintro e w5 ⟨rfl, bx⟩
     have P := nx3 bx O1 O2 O3 B3
     clear bx O1 O2 O3 B3 a0 a1 c0 c1 r0 r1 z0
     obtain ⟨O1, O2, O3, B3⟩ := P
     obtain ⟨a0, a1, c0, c1, r0, r1, z0⟩ := fc3 O1 O2 O3
     go_wp2_with fail
     refine (HSB.out w5).mono ?_
     rintro e w6 ⟨rfl, bx⟩
     have P := nx3 bx O1 O2 O3 B3
     clear bx O1 O2 O3 B3 a0 a1 c0 c1 r0 r1 z0
     obtain ⟨O1, O2, O3, B3⟩ := P
     obtain ⟨a0, a1, c0, c1, r0, r1, z0⟩ := fc3 O1 O2 O3
     generalize meetV al ah 0#64 (bl' - 1#64) = X at HR HM
     obtain ⟨⟨x1, x2⟩, x3⟩ := X
     unfold spVal at HM
     dsimp only at HM
     go_wp2_with fail
     have SX := Lib.hid (Sl.fresh w6 #[.int .u64 (uv al), .int .u64 (uv ah), .int .u64 (0), .int .u64 (uv (bl' - 1#64))] 132 (0, 0))
     refine (HM.out _ _ SX.out).mono ?_
     rintro e w7 ⟨rfl, by_⟩
     have bz := (below_alloc (Below.refl w6.heap.size w6) (.cells #[.int .u64 (uv al), .int .u64 (uv ah), .int .u64 (0), .int .u64 (uv (bl' - 1#64))] 132)).trans (by_.mono (below_alloc (Below.refl w6.heap.size w6) _).size)
     clear by_ SX
     have P1 := Lib.hid (O1.out.below bz O1.out.lt)
     have P2 := Lib.hid (O2.out.below bz O2.out.lt)
     have P3 := Lib.hid (O3.out.below bz O3.out.lt)
     have PB := Lib.hid (B3.out.trans (bz.mono B3.out.size))
     clear bz O1 O2 O3 B3 a0 a1 c0 c1 r0 r1 z0
     have O1 := Lib.hid P1.out
     have O2 := Lib.hid P2.out
     have O3 := Lib.hid P3.out
     have B3 := Lib.hid PB.out
     clear P1 P2 P3 PB
     obtain ⟨a0, a1, c0, c1, r0, r1, z0⟩ := fc3 O1 O2 O3
     go_wp2_with fail
     have hw := (B3.out.setCell (p := ⟨q3, 0, none⟩) hq.out (.int .u64 (uv x1))).setCell (p := ⟨q3, 1, none⟩) hq.out (.int .u64 (uv x2))
     have HOX := Lib.hid ((O3.out.set_ 0 (.int .u64 (uv x1))).set_ 1 (.int .u64 (uv x2)))
     generalize (w7.setCell ⟨q3, 0, none⟩ (.int .u64 (uv x1))).setCell ⟨q3, 1, none⟩ (.int .u64 (uv x2)) = wf at hw HOX ⊢
     have t0 := HOX.out.c0
     have t1 := HOX.out.c1
     exact bodyPost_ret (v := .tuple #[.agg #[.int .u64 (uv x1), .int .u64 (uv x2)], .bool x3]) (by simp [results, Tryz.results93, go_sem, t0, t1]) rfl ⟨by rw [HR.out] <;> first | done | rfl, hw⟩
   · by_cases h0 : bl' = 0#64
     · have HR := Lib.hid (show V = ((0#64, 0#64), false) by rw [← HV.out, if_pos hs]; rw [h0]; first | rfl | exact if_pos rfl)
       have g1 := uv_beq0 h0
       clear h0 hs
       go_enter Tryz.func93, Tryz.ntmps93
       go_upto_region 1 with fail
       obtain ⟨w3, q1, q2, q3, hw3, hq1, hq2, hq3, O1, O2, O3, B3, hq, hq0, hd12, hd13, hd23⟩ := thr w (uv al) (uv ah) (uv bl') (uv bh)
       rw [hw3, hq3, hq2, hq1]
       clear hw3 hq1 hq2 hq3
       obtain ⟨a0, a1, c0, c1, r0, r1, z0⟩ := fc3 O1 O2 O3
       obtain ⟨v, hh⟩ := HH.out w3
       go_wp2_with fail
       refine hh.mono ?_
       rintro e wx ⟨rfl, rfl⟩
       clear hh
       go_wp2_with fail
       refine (HRA.out w3).mono ?_
       rintro e w4 ⟨rfl, bx⟩
       have P := nx3 bx O1 O2 O3 B3
       clear bx O1 O2 O3 B3 a0 a1 c0 c1 r0 r1 z0
       obtain ⟨O1, O2, O3, B3⟩ := P
       obtain ⟨a0, a1, c0, c1, r0, r1, z0⟩ := fc3 O1 O2 O3
       go_wp2_with fail
       refine (HRB.out w4).mono ?_
       rintro e w5 ⟨rfl, bx⟩
       have P := nx3 bx O1 O2 O3 B3
       clear bx O1 O2 O3 B3 a0 a1 c0 c1 r0 r1 z0
       obtain ⟨O1, O2, O3, B3⟩ := P
       obtain ⟨a0, a1, c0, c1, r0, r1, z0⟩ := fc3 O1 O2 O3
       go_wp2_with fail
       refine (HSB.out w5).mono ?_
       rintro e w6 ⟨rfl, bx⟩
       have P := nx3 bx O1 O2 O3 B3
       clear bx O1 O2 O3 B3 a0 a1 c0 c1 r0 r1 z0
       obtain ⟨O1, O2, O3, B3⟩ := P
       obtain ⟨a0, a1, c0, c1, r0, r1, z0⟩ := fc3 O1 O2 O3
       go_wp2_with fail
       have hw := (B3.out.setCell (p := ⟨q3, 0, none⟩) hq.out (.int .u64 (0))).setCell (p := ⟨q3, 1, none⟩) hq.out (.int .u64 (0))
       have HOX := Lib.hid ((O3.out.set_ 0 (.int .u64 (0))).set_ 1 (.int .u64 (0)))
       generalize (w6.setCell ⟨q3, 0, none⟩ (.int .u64 (0))).setCell ⟨q3, 1, none⟩ (.int .u64 (0)) = wf at hw HOX ⊢
       have t0 := HOX.out.c0
       have t1 := HOX.out.c1
       exact bodyPost_ret (v := .tuple #[.agg #[.int .u64 (0), .int .u64 (0)], .bool false]) (by simp [results, Tryz.results93, go_sem, t0, t1]) rfl ⟨by rw [HR.out] <;> first | done | rfl, hw⟩
     have HR := Lib.hid (show V = meetV al ah 0#64 (bl' - 1#64) by rw [← HV.out, if_pos hs]; exact if_neg h0)
     have HM := Lib.hid (fun (w : World) A hs => meet2_any (w := w) (A := A) (al := al) (ah := ah) (bl' := 0#64) (bh := bl' - 1#64) HAL.out (Nat.zero_le _) hs)
     have g1 := uv_nbeq0 h0
     clear h0 hs
     go_enter Tryz.func93, Tryz.ntmps93
     go_upto_region 1 with fail
     obtain ⟨w3, q1, q2, q3, hw3, hq1, hq2, hq3, O1, O2, O3, B3, hq, hq0, hd12, hd13, hd23⟩ := thr w (uv al) (uv ah) (uv bl') (uv bh)
     rw [hw3, hq3, hq2, hq1]
     clear hw3 hq1 hq2 hq3
     obtain ⟨a0, a1, c0, c1, r0, r1, z0⟩ := fc3 O1 O2 O3
     obtain ⟨v, hh⟩ := HH.out w3
     go_wp2_with fail
     refine hh.mono ?_
     rintro e wx ⟨rfl, rfl⟩
     clear hh
     go_wp2_with fail
     refine (HRA.out w3).mono ?_
     rintro e w4 ⟨rfl, bx⟩
     have P := nx3 bx O1 O2 O3 B3
     clear bx O1 O2 O3 B3 a0 a1 c0 c1 r0 r1 z0
     obtain ⟨O1, O2, O3, B3⟩ := P
     obtain ⟨a0, a1, c0, c1, r0, r1, z0⟩ := fc3 O1 O2 O3
     go_wp2_with fail
     refine (HRB.out w4).mono ?_
     rintro e w5 ⟨rfl, bx⟩
     have P := nx3 bx O1 O2 O3 B3
     clear bx O1 O2 O3 B3 a0 a1 c0 c1 r0 r1 z0
     obtain ⟨O1, O2, O3, B3⟩ := P
     obtain ⟨a0, a1, c0, c1, r0, r1, z0⟩ := fc3 O1 O2 O3
     go_wp2_with fail
     refine (HSB.out w5).mono ?_
     rintro e w6 ⟨rfl, bx⟩
     have P := nx3 bx O1 O2 O3 B3
     clear bx O1 O2 O3 B3 a0 a1 c0 c1 r0 r1 z0
     obtain ⟨O1, O2, O3, B3⟩ := P
     obtain ⟨a0, a1, c0, c1, r0, r1, z0⟩ := fc3 O1 O2 O3
     generalize meetV al ah 0#64 (bl' - 1#64) = X at HR HM
     obtain ⟨⟨x1, x2⟩, x3⟩ := X
     unfold spVal at HM
     dsimp only at HM
     go_wp2_with fail
     have SX := Lib.hid (Sl.fresh w6 #[.int .u64 (uv al), .int .u64 (uv ah), .int .u64 (0), .int .u64 (uv (bl' - 1#64))] 132 (0, 0))
     refine (HM.out _ _ SX.out).mono ?_
     rintro e w7 ⟨rfl, by_⟩
     have bz := (below_alloc (Below.refl w6.heap.size w6) (.cells #[.int .u64 (uv al), .int .u64 (uv ah), .int .u64 (0), .int .u64 (uv (bl' - 1#64))] 132)).trans (by_.mono (below_alloc (Below.refl w6.heap.size w6) _).size)
     clear by_ SX
     have P1 := Lib.hid (O1.out.below bz O1.out.lt)
     have P2 := Lib.hid (O2.out.below bz O2.out.lt)
     have P3 := Lib.hid (O3.out.below bz O3.out.lt)
     have PB := Lib.hid (B3.out.trans (bz.mono B3.out.size))
     clear bz O1 O2 O3 B3 a0 a1 c0 c1 r0 r1 z0
     have O1 := Lib.hid P1.out
     have O2 := Lib.hid P2.out
     have O3 := Lib.hid P3.out
     have B3 := Lib.hid PB.out
     clear P1 P2 P3 PB
     obtain ⟨a0, a1, c0, c1, r0, r1, z0⟩ := fc3 O1 O2 O3
     go_wp2_with fail
     have hw := (B3.out.setCell (p := ⟨q3, 0, none⟩) hq.out (.int .u64 (uv x1))).setCell (p := ⟨q3, 1, none⟩) hq.out (.int .u64 (uv x2))
     have HOX := Lib.hid ((O3.out.set_ 0 (.int .u64 (uv x1))).set_ 1 (.int .u64 (uv x2)))
     generalize (w7.setCell ⟨q3, 0, none⟩ (.int .u64 (uv x1))).setCell ⟨q3, 1, none⟩ (.int .u64 (uv x2)) = wf at hw HOX ⊢
     have t0 := HOX.out.c0
     have t1 := HOX.out.c1
     exact bodyPost_ret (v := .tuple #[.agg #[.int .u64 (uv x1), .int .u64 (uv x2)], .bool x3]) (by simp [results, Tryz.results93, go_sem, t0, t1]) rfl ⟨by rw [HR.out] <;> first | done | rfl, hw⟩
   have HR := Lib.hid (show V = meetV al ah bl' mostB by rw [← HV.out, if_pos hs]; rfl)
   have HM := Lib.hid (fun (w : World) A hs => meet2_any (w := w) (A := A) (al := al) (ah := ah) (bl' := bl') (bh := mostB) HAL.out (most_le _) hs)
   clear hs
   go_enter Tryz.func93, Tryz.ntmps93
   go_upto_region 1 with fail
   obtain ⟨w3, q1, q2, q3, hw3, hq1, hq2, hq3, O1, O2, O3, B3, hq, hq0, hd12, hd13, hd23⟩ := thr w (uv al) (uv ah) (uv bl') (uv bh)
   rw [hw3, hq3, hq2, hq1]
   clear hw3 hq1 hq2 hq3
   obtain ⟨a0, a1, c0, c1, r0, r1, z0⟩ := fc3 O1 O2 O3
   obtain ⟨v, hh⟩ := HH.out w3
   go_wp2_with fail
   refine hh.mono ?_
   rintro e wx ⟨rfl, rfl⟩
   clear hh
   go_wp2_with fail
   refine (HRA.out w3).mono ?_
   rintro e w4 ⟨rfl, bx⟩
   have P := nx3 bx O1 O2 O3 B3
   clear bx O1 O2 O3 B3 a0 a1 c0 c1 r0 r1 z0
   obtain ⟨O1, O2, O3, B3⟩ := P
   obtain ⟨a0, a1, c0, c1, r0, r1, z0⟩ := fc3 O1 O2 O3
   go_wp2_with fail
   refine (HRB.out w4).mono ?_
   rintro e w5 ⟨rfl, bx⟩
   have P := nx3 bx O1 O2 O3 B3
   clear bx O1 O2 O3 B3 a0 a1 c0 c1 r0 r1 z0
   obtain ⟨O1, O2, O3, B3⟩ := P
   obtain ⟨a0, a1, c0, c1, r0, r1, z0⟩ := fc3 O1 O2 O3
   go_wp2_with fail
   refine (HSB.out w5).mono ?_
   rintro e w6 ⟨rfl, bx⟩
   have P := nx3 bx O1 O2 O3 B3
   clear bx O1 O2 O3 B3 a0 a1 c0 c1 r0 r1 z0
   obtain ⟨O1, O2, O3, B3⟩ := P
   obtain ⟨a0, a1, c0, c1, r0, r1, z0⟩ := fc3 O1 O2 O3
   generalize meetV al ah bl' mostB = X at HR HM
   obtain ⟨⟨x1, x2⟩, x3⟩ := X
   unfold spVal at HM
   dsimp only at HM
   go_wp2_with fail
   have SX := Lib.hid (Sl.fresh w6 #[.int .u64 (uv al), .int .u64 (uv ah), .int .u64 (uv bl'), .int .u64 (18446744073709551615)] 132 (0, 0))
   refine (HM.out _ _ SX.out).mono ?_
   rintro e w7 ⟨rfl, by_⟩
   have bz := (below_alloc (Below.refl w6.heap.size w6) (.cells #[.int .u64 (uv al), .int .u64 (uv ah), .int .u64 (uv bl'), .int .u64 (18446744073709551615)] 132)).trans (by_.mono (below_alloc (Below.refl w6.heap.size w6) _).size)
   clear by_ SX
   have P1 := Lib.hid (O1.out.below bz O1.out.lt)
   have P2 := Lib.hid (O2.out.below bz O2.out.lt)
   have P3 := Lib.hid (O3.out.below bz O3.out.lt)
   have PB := Lib.hid (B3.out.trans (bz.mono B3.out.size))
   clear bz O1 O2 O3 B3 a0 a1 c0 c1 r0 r1 z0
   have O1 := Lib.hid P1.out
   have O2 := Lib.hid P2.out
   have O3 := Lib.hid P3.out
   have B3 := Lib.hid PB.out
   clear P1 P2 P3 PB
   obtain ⟨a0, a1, c0, c1, r0, r1, z0⟩ := fc3 O1 O2 O3
   go_wp2_with fail
   have hw := (B3.out.setCell (p := ⟨q3, 0, none⟩) hq.out (.int .u64 (uv x1))).setCell (p := ⟨q3, 1, none⟩) hq.out (.int .u64 (uv x2))
   have HOX := Lib.hid ((O3.out.set_ 0 (.int .u64 (uv x1))).set_ 1 (.int .u64 (uv x2)))
   generalize (w7.setCell ⟨q3, 0, none⟩ (.int .u64 (uv x1))).setCell ⟨q3, 1, none⟩ (.int .u64 (uv x2)) = wf at hw HOX ⊢
   have t0 := HOX.out.c0
   have t1 := HOX.out.c1
   exact bodyPost_ret (v := .tuple #[.agg #[.int .u64 (uv x1), .int .u64 (uv x2)], .bool x3]) (by simp [results, Tryz.results93, go_sem, t0, t1]) rfl ⟨by rw [HR.out] <;> first | done | rfl, hw⟩
 rw [show (uv bl' == uv bh) = false by rw [uv_beq]; exact decide_eq_false hs] at HSB
 have HR := Lib.hid (show V = ((al, ah), true) by rw [← HV.out]; exact if_neg hs)
 clear hs hc
 go_enter Tryz.func93, Tryz.ntmps93
 go_upto_region 1 with fail
 obtain ⟨w3, q1, q2, q3, hw3, hq1, hq2, hq3, O1, O2, O3, B3, hq, hq0, hd12, hd13, hd23⟩ := thr w (uv al) (uv ah) (uv bl') (uv bh)
 rw [hw3, hq3, hq2, hq1]
 clear hw3 hq1 hq2 hq3
 obtain ⟨a0, a1, c0, c1, r0, r1, z0⟩ := fc3 O1 O2 O3
 obtain ⟨v, hh⟩ := HH.out w3
 go_wp2_with fail
 refine hh.mono ?_
 rintro e wx ⟨rfl, rfl⟩
 clear hh
 go_wp2_with fail
 refine (HRA.out w3).mono ?_
 rintro e w4 ⟨rfl, bx⟩
 have P := nx3 bx O1 O2 O3 B3
 clear bx O1 O2 O3 B3 a0 a1 c0 c1 r0 r1 z0
 obtain ⟨O1, O2, O3, B3⟩ := P
 obtain ⟨a0, a1, c0, c1, r0, r1, z0⟩ := fc3 O1 O2 O3
 go_wp2_with fail
 refine (HRB.out w4).mono ?_
 rintro e w5 ⟨rfl, bx⟩
 have P := nx3 bx O1 O2 O3 B3
 clear bx O1 O2 O3 B3 a0 a1 c0 c1 r0 r1 z0
 obtain ⟨O1, O2, O3, B3⟩ := P
 obtain ⟨a0, a1, c0, c1, r0, r1, z0⟩ := fc3 O1 O2 O3
 go_wp2_with fail
 refine (HSB.out w5).mono ?_
 rintro e w6 ⟨rfl, bx⟩
 have P := nx3 bx O1 O2 O3 B3
 clear bx O1 O2 O3 B3 a0 a1 c0 c1 r0 r1 z0
 obtain ⟨O1, O2, O3, B3⟩ := P
 obtain ⟨a0, a1, c0, c1, r0, r1, z0⟩ := fc3 O1 O2 O3
 go_wp2_with fail
 have hw := (B3.out.setCell (p := ⟨q3, 0, none⟩) hq.out (.int .u64 (uv al))).setCell (p := ⟨q3, 1, none⟩) hq.out (.int .u64 (uv ah))
 have HOX := Lib.hid ((O3.out.set_ 0 (.int .u64 (uv al))).set_ 1 (.int .u64 (uv ah)))
 generalize (w6.setCell ⟨q3, 0, none⟩ (.int .u64 (uv al))).setCell ⟨q3, 1, none⟩ (.int .u64 (uv ah)) = wf at hw HOX ⊢
 have t0 := HOX.out.c0
 have t1 := HOX.out.c1
 exact bodyPost_ret (v := .tuple #[.agg #[.int .u64 (uv al), .int .u64 (uv ah)], .bool true]) (by simp [results, Tryz.results93, go_sem, t0, t1]) rfl ⟨by rw [HR.out] <;> first | done | rfl, hw⟩

end Go.Proofs.YtikkmkomlajnfaaGreatDoor.Sp
end
