/-
  Layer 6: the walk of span.Do. Conditions: none.
-/
import Derived.Test.YtikkmkomlajnfaaGreatDoorWm01
import Derived.Test.YtikkmkomlajnfaaGreatDoorWm15
set_option linter.unusedVariables false
set_option linter.unusedSimpArgs false
section
namespace Go.Proofs.YtikkmkomlajnfaaGreatDoor.Sp
set_option maxRecDepth 100000
set_option maxHeartbeats 16000000
open Go.RowKit

attribute [local go_sem] uv_nonneg uv_wrap uv_add uv_sub uv_mul uv_add1 uv_sub1 uv_and uv_or uv_xor uv_andNot uv_and1 uv_not uv_notMax u64_signed uv_shr uv_shr1 uv_shl uv_shr63 uv_shl1 uv_1shl uv_tdiv uv_tdiv2 uv_tmod uv_shlMin uv_shrMin uv_div uv_mod uv_minM uv_maxM

theorem sdo_any (op : Int) (w : World) (al ah bl' bh : BitVec 64) : Calls Tryz.prog 90 #[.int .i64 op, spVal (uv al) (uv ah), spVal (uv bl') (uv bh)] w fun e w' => e = .returned (.tuple #[spVal (uv (dosR op al ah bl' bh).1) (uv (dosR op al ah bl' bh).2), .bool (dosOk op al ah bl' bh)]) ∧ Below w.heap.size w w' := by
 obtain ⟨V, hV⟩ : ∃ V, dosR op al ah bl' bh = V := ⟨_, rfl⟩
 obtain ⟨ok, hok⟩ : ∃ ok, dosOk op al ah bl' bh = ok := ⟨_, rfl⟩
 rw [hV, hok]
 have HV := Lib.hid hV
 have HOK := Lib.hid hok
 clear hV hok
 have HNO := Lib.hid (show dosOk op al ah bl' bh = false → V = (0#64, 0#64) ∧ ok = false from fun h => ⟨by rw [← HV.out]; exact if_neg (by rw [h]; exact Bool.noConfusion), by rw [← HOK.out, h]⟩)
 have HYES := Lib.hid (show dosOk op al ah bl' bh = true → V = (if al = ah ∧ bl' = bh then (AM.doV op al bl', AM.doV op al bl') else dosV op al ah bl' bh) ∧ ok = true from fun h => ⟨by rw [← HV.out]; exact if_pos h, by rw [← HOK.out, h]⟩)
 have HF := Lib.hid (fun w => full_any w)
 have HSG := Lib.hid (fun w => single_any w (uv (AM.doV op al bl')))
 have HRA := Lib.hid (fun w => right_any w (uv al) (uv ah))
 have HRB := Lib.hid (fun w => right_any w (uv bl') (uv bh))
 have HSA := Lib.hid (fun w => isone_any w (uv al) (uv ah))
 have HSB := Lib.hid (fun w => isone_any w (uv bl') (uv bh))
 unfold spVal at HF HSG HRA HRB HSA HSB ⊢
 have hc := AM.op_cases op
 have HDO := Lib.hid (fun w => do_any op al bl' w)
 by_cases ho : op < 1 ∨ 10 < op
 · have HR := Lib.hid (HNO.out (by unfold dosOk; rw [AM.doOk_out ho]; rfl))
   rw [AM.doOk_out ho] at HDO
   clear hc ho
   go_enter Tryz.func90, Tryz.ntmps90
   go_upto_region 1 with fail
   obtain ⟨w3, q1, q2, q3, hw3, hq1, hq2, hq3, O1, O2, O3, B3, hq, -, -, hd13, hd23⟩ := thr w (uv al) (uv ah) (uv bl') (uv bh)
   rw [hw3, hq3, hq2, hq1]
   clear hw3 hq1 hq2 hq3
   obtain ⟨a0, a1, c0, c1, r0, r1, z0⟩ := fc3 O1 O2 O3
   go_wp2_with fail
   refine (HDO.out w3).mono ?_
   rintro e wx ⟨rfl, rfl⟩
   go_wp2_with fail
   have hw := (B3.out.setCell (p := ⟨q3, 0, none⟩) hq.out (.int .u64 (0))).setCell (p := ⟨q3, 1, none⟩) hq.out (.int .u64 (0))
   have HOX := Lib.hid ((O3.out.set_ 0 (.int .u64 (0))).set_ 1 (.int .u64 (0)))
   generalize (w3.setCell ⟨q3, 0, none⟩ (.int .u64 (0))).setCell ⟨q3, 1, none⟩ (.int .u64 (0)) = wf at hw HOX ⊢
   have t0 := HOX.out.c0
   have t1 := HOX.out.c1
   exact bodyPost_ret (v := .tuple #[.agg #[.int .u64 (0), .int .u64 (0)], .bool false]) (by simp [results, Tryz.results90, go_sem, t0, t1]) rfl ⟨by rw [HR.out.1, HR.out.2] <;> first | done | rfl, hw⟩
 have hc : op = 1 ∨ op = 2 ∨ op = 3 ∨ op = 4 ∨ op = 5 ∨ op = 6 ∨ op = 7 ∨ op = 8 ∨ op = 9 ∨ op = 10 := by omega
 have HOP := Lib.hid (show AM.doOk op = true by unfold AM.doOk; exact decide_eq_true (by omega))
 rw [HOP.out] at HDO
 clear ho
 by_cases ha : al.toNat ≤ ah.toNat
 · rw [uv_dec_le ha] at HRA
   have HAL := Lib.hid ha
   clear ha
   by_cases hb : bl'.toNat ≤ bh.toNat
   · rw [uv_dec_le hb] at HRB
     have HBL := Lib.hid hb
     clear hb
     have HYY := Lib.hid (HYES.out (by unfold dosOk; rw [HOP.out, decide_eq_true HAL.out, decide_eq_true HBL.out]; rfl))
     have HK := Lib.hid HYY.out.2
     by_cases hs : al = ah ∧ bl' = bh
     · have HR := Lib.hid (HYY.out.1.trans (if_pos hs))
       rw [show (uv al == uv ah) = true by rw [uv_beq]; exact decide_eq_true hs.1] at HSA
       rw [show (uv bl' == uv bh) = true by rw [uv_beq]; exact decide_eq_true hs.2] at HSB
       clear hs hc
       go_enter Tryz.func90, Tryz.ntmps90
       go_upto_region 1 with fail
       obtain ⟨w3, q1, q2, q3, hw3, hq1, hq2, hq3, O1, O2, O3, B3, hq, -, -, hd13, hd23⟩ := thr w (uv al) (uv ah) (uv bl') (uv bh)
       rw [hw3, hq3, hq2, hq1]
       clear hw3 hq1 hq2 hq3
       obtain ⟨a0, a1, c0, c1, r0, r1, z0⟩ := fc3 O1 O2 O3
       go_wp2_with fail
       refine (HDO.out w3).mono ?_
       rintro e wx ⟨rfl, rfl⟩
       go_wp2_with fail
       refine (HRA.out w3).mono ?_
       rintro e w4 ⟨rfl, bx⟩
       have P := nx3 bx O1 O2 O3 B3
       clear bx O1 O2 O3 B3 a0 a1 c0 c1 r0 r1 z0
       obtain ⟨O1, O2, O3, B3⟩ := P
       obtain ⟨a0, a1, c0, c1, r0, r1, z0⟩ := fc3 O1 O2 O3
       go_wp2_with fail
       refine (HRB.out w4).mono ?_
       rintro e w5 ⟨rfl, bx⟩
       have P := nx3 bx O1 O2 O3 B3
       clear bx O1 O2 O3 B3 a0 a1 c0 c1 r0 r1 z0
       obtain ⟨O1, O2, O3, B3⟩ := P
       obtain ⟨a0, a1, c0, c1, r0, r1, z0⟩ := fc3 O1 O2 O3
       go_wp2_with fail
       refine (HSA.out w5).mono ?_
       rintro e w6 ⟨rfl, bx⟩
       have P := nx3 bx O1 O2 O3 B3
       clear bx O1 O2 O3 B3 a0 a1 c0 c1 r0 r1 z0
       obtain ⟨O1, O2, O3, B3⟩ := P
       obtain ⟨a0, a1, c0, c1, r0, r1, z0⟩ := fc3 O1 O2 O3
       go_wp2_with fail
       refine (HSB.out w6).mono ?_
       rintro e w7 ⟨rfl, bx⟩
       have P := nx3 bx O1 O2 O3 B3
       clear bx O1 O2 O3 B3 a0 a1 c0 c1 r0 r1 z0
       obtain ⟨O1, O2, O3, B3⟩ := P
       obtain ⟨a0, a1, c0, c1, r0, r1, z0⟩ := fc3 O1 O2 O3
       go_wp2_with fail
       refine (HSG.out w7).mono ?_
       rintro e w8 ⟨rfl, bx⟩
       have P := nx3 bx O1 O2 O3 B3
       clear bx O1 O2 O3 B3 a0 a1 c0 c1 r0 r1 z0
       obtain ⟨O1, O2, O3, B3⟩ := P
       obtain ⟨a0, a1, c0, c1, r0, r1, z0⟩ := fc3 O1 O2 O3
       go_wp2_with fail
       have hw := (B3.out.setCell (p := ⟨q3, 0, none⟩) hq.out (.int .u64 (uv (AM.doV op al bl')))).setCell (p := ⟨q3, 1, none⟩) hq.out (.int .u64 (uv (AM.doV op al bl')))
       have HOX := Lib.hid ((O3.out.set_ 0 (.int .u64 (uv (AM.doV op al bl')))).set_ 1 (.int .u64 (uv (AM.doV op al bl'))))
       generalize (w8.setCell ⟨q3, 0, none⟩ (.int .u64 (uv (AM.doV op al bl')))).setCell ⟨q3, 1, none⟩ (.int .u64 (uv (AM.doV op al bl'))) = wf at hw HOX ⊢
       have t0 := HOX.out.c0
       have t1 := HOX.out.c1
       exact bodyPost_ret (v := .tuple #[.agg #[.int .u64 (uv (AM.doV op al bl')), .int .u64 (uv (AM.doV op al bl'))], .bool true]) (by simp [results, Tryz.results90, go_sem, t0, t1]) rfl ⟨by rw [HR.out, HK.out] <;> first | done | rfl, hw⟩
     have HR := Lib.hid (HYY.out.1.trans (if_neg hs))
     by_cases h1 : al = ah
     · have h2 : bl' ≠ bh := fun h => hs ⟨h1, h⟩
       rw [show (uv al == uv ah) = true by rw [uv_beq]; exact decide_eq_true h1] at HSA
       rw [show (uv bl' == uv bh) = false by rw [uv_beq]; exact decide_eq_false h2] at HSB
       clear hs h1 h2
       go_enter Tryz.func90, Tryz.ntmps90
       go_upto_region 1 with fail
       obtain ⟨w3, q1, q2, q3, hw3, hq1, hq2, hq3, O1, O2, O3, B3, hq, -, -, hd13, hd23⟩ := thr w (uv al) (uv ah) (uv bl') (uv bh)
       rw [hw3, hq3, hq2, hq1]
       clear hw3 hq1 hq2 hq3
       obtain ⟨a0, a1, c0, c1, r0, r1, z0⟩ := fc3 O1 O2 O3
       go_wp2_with fail
       refine (HDO.out w3).mono ?_
       rintro e wx ⟨rfl, rfl⟩
       go_wp2_with fail
       refine (HRA.out w3).mono ?_
       rintro e w4 ⟨rfl, bx⟩
       have P := nx3 bx O1 O2 O3 B3
       clear bx O1 O2 O3 B3 a0 a1 c0 c1 r0 r1 z0
       obtain ⟨O1, O2, O3, B3⟩ := P
       obtain ⟨a0, a1, c0, c1, r0, r1, z0⟩ := fc3 O1 O2 O3
       go_wp2_with fail
       refine (HRB.out w4).mono ?_
       rintro e w5 ⟨rfl, bx⟩
       have P := nx3 bx O1 O2 O3 B3
       clear bx O1 O2 O3 B3 a0 a1 c0 c1 r0 r1 z0
       obtain ⟨O1, O2, O3, B3⟩ := P
       obtain ⟨a0, a1, c0, c1, r0, r1, z0⟩ := fc3 O1 O2 O3
       go_wp2_with fail
       refine (HSA.out w5).mono ?_
       rintro e w6 ⟨rfl, bx⟩
       have P := nx3 bx O1 O2 O3 B3
       clear bx O1 O2 O3 B3 a0 a1 c0 c1 r0 r1 z0
       obtain ⟨O1, O2, O3, B3⟩ := P
       obtain ⟨a0, a1, c0, c1, r0, r1, z0⟩ := fc3 O1 O2 O3
       go_wp2_with fail
       refine (HSB.out w6).mono ?_
       rintro e w7 ⟨rfl, bx⟩
       have P := nx3 bx O1 O2 O3 B3
       clear bx O1 O2 O3 B3 a0 a1 c0 c1 r0 r1 z0
       obtain ⟨O1, O2, O3, B3⟩ := P
       obtain ⟨a0, a1, c0, c1, r0, r1, z0⟩ := fc3 O1 O2 O3
       rcases hc with rfl | rfl | rfl | rfl | rfl | rfl | rfl | rfl | rfl | rfl
       · have HR := Lib.hid (HR.out.trans (show dosV 1 al ah bl' bh = sumV al ah bl' bh from rfl))
         have HC := Lib.hid (fun w => sum_any w al ah bl' bh)
         generalize sumV al ah bl' bh = X at HR HC
         obtain ⟨x1, x2⟩ := X
         unfold spVal at HC
         dsimp only at HC
         go_wp2_with fail
         refine (HC.out w7).mono ?_
         rintro e w8 ⟨rfl, bx⟩
         have P := nx3 bx O1 O2 O3 B3
         clear bx O1 O2 O3 B3 a0 a1 c0 c1 r0 r1 z0
         obtain ⟨O1, O2, O3, B3⟩ := P
         obtain ⟨a0, a1, c0, c1, r0, r1, z0⟩ := fc3 O1 O2 O3
         go_wp2_with fail
         have hw := (B3.out.setCell (p := ⟨q3, 0, none⟩) hq.out (.int .u64 (uv x1))).setCell (p := ⟨q3, 1, none⟩) hq.out (.int .u64 (uv x2))
         have HOX := Lib.hid ((O3.out.set_ 0 (.int .u64 (uv x1))).set_ 1 (.int .u64 (uv x2)))
         generalize (w8.setCell ⟨q3, 0, none⟩ (.int .u64 (uv x1))).setCell ⟨q3, 1, none⟩ (.int .u64 (uv x2)) = wf at hw HOX ⊢
         have t0 := HOX.out.c0
         have t1 := HOX.out.c1
         exact bodyPost_ret (v := .tuple #[.agg #[.int .u64 (uv x1), .int .u64 (uv x2)], .bool true]) (by simp [results, Tryz.results90, go_sem, t0, t1]) rfl ⟨by rw [HR.out, HK.out] <;> first | done | rfl, hw⟩
       · have HR := Lib.hid (HR.out.trans (show dosV 2 al ah bl' bh = subV al ah bl' bh from rfl))
         by_cases h : al.toNat < bh.toNat
         · have HR := Lib.hid (HR.out.trans (show subV al ah bl' bh = (0#64, mostB) from if_pos h))
           have g2 := uv_dec_lt h
           clear h
           go_wp2_with fail
           refine (HF.out w7).mono ?_
           rintro e w8 ⟨rfl, bx⟩
           have P := nx3 bx O1 O2 O3 B3
           clear bx O1 O2 O3 B3 a0 a1 c0 c1 r0 r1 z0
           obtain ⟨O1, O2, O3, B3⟩ := P
           obtain ⟨a0, a1, c0, c1, r0, r1, z0⟩ := fc3 O1 O2 O3
           go_wp2_with fail
           have hw := (B3.out.setCell (p := ⟨q3, 0, none⟩) hq.out (.int .u64 (0))).setCell (p := ⟨q3, 1, none⟩) hq.out (.int .u64 (18446744073709551615))
           have HOX := Lib.hid ((O3.out.set_ 0 (.int .u64 (0))).set_ 1 (.int .u64 (18446744073709551615)))
           generalize (w8.setCell ⟨q3, 0, none⟩ (.int .u64 (0))).setCell ⟨q3, 1, none⟩ (.int .u64 (18446744073709551615)) = wf at hw HOX ⊢
           have t0 := HOX.out.c0
           have t1 := HOX.out.c1
           exact bodyPost_ret (v := .tuple #[.agg #[.int .u64 (0), .int .u64 (18446744073709551615)], .bool true]) (by simp [results, Tryz.results90, go_sem, t0, t1]) rfl ⟨by rw [HR.out, HK.out] <;> first | done | rfl, hw⟩
         have HR := Lib.hid (HR.out.trans (show subV al ah bl' bh = (al - bh, ah - bl') from if_neg h))
         have g2 := uv_dec_nlt h
         clear h
         go_wp2_with fail
         have hw := (B3.out.setCell (p := ⟨q3, 0, none⟩) hq.out (.int .u64 (uv (al - bh)))).setCell (p := ⟨q3, 1, none⟩) hq.out (.int .u64 (uv (ah - bl')))
         have HOX := Lib.hid ((O3.out.set_ 0 (.int .u64 (uv (al - bh)))).set_ 1 (.int .u64 (uv (ah - bl'))))
         generalize (w7.setCell ⟨q3, 0, none⟩ (.int .u64 (uv (al - bh)))).setCell ⟨q3, 1, none⟩ (.int .u64 (uv (ah - bl'))) = wf at hw HOX ⊢
         have t0 := HOX.out.c0
         have t1 := HOX.out.c1
         exact bodyPost_ret (v := .tuple #[.agg #[.int .u64 (uv (al - bh)), .int .u64 (uv (ah - bl'))], .bool true]) (by simp [results, Tryz.results90, go_sem, t0, t1]) rfl ⟨by rw [HR.out, HK.out] <;> first | done | rfl, hw⟩
       · have HR := Lib.hid (HR.out.trans (show dosV 3 al ah bl' bh = mulV al ah bl' bh from rfl))
         have HC := Lib.hid (fun w => product_any w al ah bl' bh)
         generalize mulV al ah bl' bh = X at HR HC
         obtain ⟨x1, x2⟩ := X
         unfold spVal at HC
         dsimp only at HC
         go_wp2_with fail
         refine (HC.out w7).mono ?_
         rintro e w8 ⟨rfl, bx⟩
         have P := nx3 bx O1 O2 O3 B3
         clear bx O1 O2 O3 B3 a0 a1 c0 c1 r0 r1 z0
         obtain ⟨O1, O2, O3, B3⟩ := P
         obtain ⟨a0, a1, c0, c1, r0, r1, z0⟩ := fc3 O1 O2 O3
         go_wp2_with fail
         have hw := (B3.out.setCell (p := ⟨q3, 0, none⟩) hq.out (.int .u64 (uv x1))).setCell (p := ⟨q3, 1, none⟩) hq.out (.int .u64 (uv x2))
         have HOX := Lib.hid ((O3.out.set_ 0 (.int .u64 (uv x1))).set_ 1 (.int .u64 (uv x2)))
         generalize (w8.setCell ⟨q3, 0, none⟩ (.int .u64 (uv x1))).setCell ⟨q3, 1, none⟩ (.int .u64 (uv x2)) = wf at hw HOX ⊢
         have t0 := HOX.out.c0
         have t1 := HOX.out.c1
         exact bodyPost_ret (v := .tuple #[.agg #[.int .u64 (uv x1), .int .u64 (uv x2)], .bool true]) (by simp [results, Tryz.results90, go_sem, t0, t1]) rfl ⟨by rw [HR.out, HK.out] <;> first | done | rfl, hw⟩
       · have HR := Lib.hid (HR.out.trans (show dosV 4 al ah bl' bh = divV al ah bl' bh from rfl))
         have HC := Lib.hid (fun w => divided_any w al ah bl' bh HBL.out)
         generalize divV al ah bl' bh = X at HR HC
         obtain ⟨x1, x2⟩ := X
         unfold spVal at HC
         dsimp only at HC
         go_wp2_with fail
         refine (HC.out w7).mono ?_
         rintro e w8 ⟨rfl, bx⟩
         have P := nx3 bx O1 O2 O3 B3
         clear bx O1 O2 O3 B3 a0 a1 c0 c1 r0 r1 z0
         obtain ⟨O1, O2, O3, B3⟩ := P
         obtain ⟨a0, a1, c0, c1, r0, r1, z0⟩ := fc3 O1 O2 O3
         go_wp2_with fail
         have hw := (B3.out.setCell (p := ⟨q3, 0, none⟩) hq.out (.int .u64 (uv x1))).setCell (p := ⟨q3, 1, none⟩) hq.out (.int .u64 (uv x2))
         have HOX := Lib.hid ((O3.out.set_ 0 (.int .u64 (uv x1))).set_ 1 (.int .u64 (uv x2)))
         generalize (w8.setCell ⟨q3, 0, none⟩ (.int .u64 (uv x1))).setCell ⟨q3, 1, none⟩ (.int .u64 (uv x2)) = wf at hw HOX ⊢
         have t0 := HOX.out.c0
         have t1 := HOX.out.c1
         exact bodyPost_ret (v := .tuple #[.agg #[.int .u64 (uv x1), .int .u64 (uv x2)], .bool true]) (by simp [results, Tryz.results90, go_sem, t0, t1]) rfl ⟨by rw [HR.out, HK.out] <;> first | done | rfl, hw⟩
       · have HR := Lib.hid (HR.out.trans (show dosV 5 al ah bl' bh = remV al ah bl' bh from rfl))
         have HC := Lib.hid (fun w => rest_any w al ah bl' bh)
         generalize remV al ah bl' bh = X at HR HC
         obtain ⟨x1, x2⟩ := X
         unfold spVal at HC
         dsimp only at HC
         go_wp2_with fail
         refine (HC.out w7).mono ?_
         rintro e w8 ⟨rfl, bx⟩
         have P := nx3 bx O1 O2 O3 B3
         clear bx O1 O2 O3 B3 a0 a1 c0 c1 r0 r1 z0
         obtain ⟨O1, O2, O3, B3⟩ := P
         obtain ⟨a0, a1, c0, c1, r0, r1, z0⟩ := fc3 O1 O2 O3
         go_wp2_with fail
         have hw := (B3.out.setCell (p := ⟨q3, 0, none⟩) hq.out (.int .u64 (uv x1))).setCell (p := ⟨q3, 1, none⟩) hq.out (.int .u64 (uv x2))
         have HOX := Lib.hid ((O3.out.set_ 0 (.int .u64 (uv x1))).set_ 1 (.int .u64 (uv x2)))
         generalize (w8.setCell ⟨q3, 0, none⟩ (.int .u64 (uv x1))).setCell ⟨q3, 1, none⟩ (.int .u64 (uv x2)) = wf at hw HOX ⊢
         have t0 := HOX.out.c0
         have t1 := HOX.out.c1
         exact bodyPost_ret (v := .tuple #[.agg #[.int .u64 (uv x1), .int .u64 (uv x2)], .bool true]) (by simp [results, Tryz.results90, go_sem, t0, t1]) rfl ⟨by rw [HR.out, HK.out] <;> first | done | rfl, hw⟩
       · have HR := Lib.hid (HR.out.trans (show dosV 6 al ah bl' bh = andV al ah bl' bh from rfl))
         go_wp2_with fail
         have hw := (B3.out.setCell (p := ⟨q3, 0, none⟩) hq.out (.int .u64 (0))).setCell (p := ⟨q3, 1, none⟩) hq.out (.int .u64 (uv (minB ah bh)))
         have HOX := Lib.hid ((O3.out.set_ 0 (.int .u64 (0))).set_ 1 (.int .u64 (uv (minB ah bh))))
         generalize (w7.setCell ⟨q3, 0, none⟩ (.int .u64 (0))).setCell ⟨q3, 1, none⟩ (.int .u64 (uv (minB ah bh))) = wf at hw HOX ⊢
         have t0 := HOX.out.c0
         have t1 := HOX.out.c1
         exact bodyPost_ret (v := .tuple #[.agg #[.int .u64 (0), .int .u64 (uv (minB ah bh))], .bool true]) (by simp [results, Tryz.results90, go_sem, t0, t1]) rfl ⟨by rw [HR.out, HK.out] <;> first | done | rfl, hw⟩
       · have HR := Lib.hid (HR.out.trans (show dosV 7 al ah bl' bh = orV al ah bl' bh from rfl))
         have HO := Lib.hid (fun w => ones_any (ah ||| bh) w)
         go_wp2_with fail
         go_region_held3 (fun w' => w'.cell? ⟨q1, 0, none⟩ = some (.int .u64 (uv al)) ∧ w'.cell? ⟨q1, 1, none⟩ = some (.int .u64 (uv ah)) ∧ w'.cell? ⟨q2, 0, none⟩ = some (.int .u64 (uv bl')) ∧ w'.cell? ⟨q2, 1, none⟩ = some (.int .u64 (uv bh))) (refine ⟨?_, ?_, ?_, ?_⟩ <;> first | exact a0 | exact a1 | exact c0 | exact c1 | exact ((O1.out.far (p := ⟨q3, 0, none⟩) hd13.out _).far (p := ⟨q3, 1, none⟩) hd13.out _).cell 0 | exact ((O1.out.far (p := ⟨q3, 0, none⟩) hd13.out _).far (p := ⟨q3, 1, none⟩) hd13.out _).cell 1 | exact ((O2.out.far (p := ⟨q3, 0, none⟩) hd23.out _).far (p := ⟨q3, 1, none⟩) hd23.out _).cell 0 | exact ((O2.out.far (p := ⟨q3, 0, none⟩) hd23.out _).far (p := ⟨q3, 1, none⟩) hd23.out _).cell 1) (first | (go_at_call 130; refine (HO.out _).mono ?_; rintro e wy ⟨rfl, rfl⟩))
         all_goals
          go_wp2_with fail
          have hw := (B3.out.setCell (p := ⟨q3, 0, none⟩) hq.out (.int .u64 (uv (maxB al bl')))).setCell (p := ⟨q3, 1, none⟩) hq.out (.int .u64 (uv (onesB (ah ||| bh))))
          have HOX := Lib.hid ((O3.out.set_ 0 (.int .u64 (uv (maxB al bl')))).set_ 1 (.int .u64 (uv (onesB (ah ||| bh)))))
          generalize (w7.setCell ⟨q3, 0, none⟩ (.int .u64 (uv (maxB al bl')))).setCell ⟨q3, 1, none⟩ (.int .u64 (uv (onesB (ah ||| bh)))) = wf at hw HOX ⊢
          have t0 := HOX.out.c0
          have t1 := HOX.out.c1
          exact bodyPost_ret (v := .tuple #[.agg #[.int .u64 (uv (maxB al bl')), .int .u64 (uv (onesB (ah ||| bh)))], .bool true]) (by simp [results, Tryz.results90, go_sem, t0, t1]) rfl ⟨by rw [HR.out, HK.out] <;> first | done | rfl, by first | exact hw | exact below_drewN hw 1⟩
       · have HR := Lib.hid (HR.out.trans (show dosV 8 al ah bl' bh = xorV al ah bl' bh from rfl))
         have HO := Lib.hid (fun w => ones_any (ah ||| bh) w)
         go_wp2_with fail
         refine (HO.out _).mono ?_
         rintro e wy ⟨rfl, rfl⟩
         go_wp2_with fail
         have hw := (B3.out.setCell (p := ⟨q3, 0, none⟩) hq.out (.int .u64 (0))).setCell (p := ⟨q3, 1, none⟩) hq.out (.int .u64 (uv (onesB (ah ||| bh))))
         have HOX := Lib.hid ((O3.out.set_ 0 (.int .u64 (0))).set_ 1 (.int .u64 (uv (onesB (ah ||| bh)))))
         generalize (w7.setCell ⟨q3, 0, none⟩ (.int .u64 (0))).setCell ⟨q3, 1, none⟩ (.int .u64 (uv (onesB (ah ||| bh)))) = wf at hw HOX ⊢
         have t0 := HOX.out.c0
         have t1 := HOX.out.c1
         exact bodyPost_ret (v := .tuple #[.agg #[.int .u64 (0), .int .u64 (uv (onesB (ah ||| bh)))], .bool true]) (by simp [results, Tryz.results90, go_sem, t0, t1]) rfl ⟨by rw [HR.out, HK.out] <;> first | done | rfl, hw⟩
       · have HR := Lib.hid (HR.out.trans (show dosV 9 al ah bl' bh = shlV al ah bl' bh from rfl))
         have HC := Lib.hid (fun w => left_any w al ah bl' bh)
         generalize shlV al ah bl' bh = X at HR HC
         obtain ⟨x1, x2⟩ := X
         unfold spVal at HC
         dsimp only at HC
         go_wp2_with fail
         refine (HC.out w7).mono ?_
         rintro e w8 ⟨rfl, bx⟩
         have P := nx3 bx O1 O2 O3 B3
         clear bx O1 O2 O3 B3 a0 a1 c0 c1 r0 r1 z0
         obtain ⟨O1, O2, O3, B3⟩ := P
         obtain ⟨a0, a1, c0, c1, r0, r1, z0⟩ := fc3 O1 O2 O3
         go_wp2_with fail
         have hw := (B3.out.setCell (p := ⟨q3, 0, none⟩) hq.out (.int .u64 (uv x1))).setCell (p := ⟨q3, 1, none⟩) hq.out (.int .u64 (uv x2))
         have HOX := Lib.hid ((O3.out.set_ 0 (.int .u64 (uv x1))).set_ 1 (.int .u64 (uv x2)))
         generalize (w8.setCell ⟨q3, 0, none⟩ (.int .u64 (uv x1))).setCell ⟨q3, 1, none⟩ (.int .u64 (uv x2)) = wf at hw HOX ⊢
         have t0 := HOX.out.c0
         have t1 := HOX.out.c1
         exact bodyPost_ret (v := .tuple #[.agg #[.int .u64 (uv x1), .int .u64 (uv x2)], .bool true]) (by simp [results, Tryz.results90, go_sem, t0, t1]) rfl ⟨by rw [HR.out, HK.out] <;> first | done | rfl, hw⟩
       have HR := Lib.hid (HR.out.trans (show dosV 10 al ah bl' bh = shrV al ah bl' bh from rfl))
       go_wp2_with fail
       have hw := (B3.out.setCell (p := ⟨q3, 0, none⟩) hq.out (.int .u64 (uv (al >>> bh.toNat)))).setCell (p := ⟨q3, 1, none⟩) hq.out (.int .u64 (uv (ah >>> bl'.toNat)))
       have HOX := Lib.hid ((O3.out.set_ 0 (.int .u64 (uv (al >>> bh.toNat)))).set_ 1 (.int .u64 (uv (ah >>> bl'.toNat))))
       generalize (w7.setCell ⟨q3, 0, none⟩ (.int .u64 (uv (al >>> bh.toNat)))).setCell ⟨q3, 1, none⟩ (.int .u64 (uv (ah >>> bl'.toNat))) = wf at hw HOX ⊢
       have t0 := HOX.out.c0
       have t1 := HOX.out.c1
       exact bodyPost_ret (v := .tuple #[.agg #[.int .u64 (uv (al >>> bh.toNat)), .int .u64 (uv (ah >>> bl'.toNat))], .bool true]) (by simp [results, Tryz.results90, go_sem, t0, t1]) rfl ⟨by rw [HR.out, HK.out] <;> first | done | rfl, hw⟩
     rw [show (uv al == uv ah) = false by rw [uv_beq]; exact decide_eq_false h1] at HSA
     clear hs h1
     go_enter Tryz.func90, Tryz.ntmps90
     go_upto_region 1 with fail
     obtain ⟨w3, q1, q2, q3, hw3, hq1, hq2, hq3, O1, O2, O3, B3, hq, -, -, hd13, hd23⟩ := thr w (uv al) (uv ah) (uv bl') (uv bh)
     rw [hw3, hq3, hq2, hq1]
     clear hw3 hq1 hq2 hq3
     obtain ⟨a0, a1, c0, c1, r0, r1, z0⟩ := fc3 O1 O2 O3
     go_wp2_with fail
     refine (HDO.out w3).mono ?_
     rintro e wx ⟨rfl, rfl⟩
     go_wp2_with fail
     refine (HRA.out w3).mono ?_
     rintro e w4 ⟨rfl, bx⟩
     have P := nx3 bx O1 O2 O3 B3
     clear bx O1 O2 O3 B3 a0 a1 c0 c1 r0 r1 z0
     obtain ⟨O1, O2, O3, B3⟩ := P
     obtain ⟨a0, a1, c0, c1, r0, r1, z0⟩ := fc3 O1 O2 O3
     go_wp2_with fail
     refine (HRB.out w4).mono ?_
     rintro e w5 ⟨rfl, bx⟩
     have P := nx3 bx O1 O2 O3 B3
     clear bx O1 O2 O3 B3 a0 a1 c0 c1 r0 r1 z0
     obtain ⟨O1, O2, O3, B3⟩ := P
     obtain ⟨a0, a1, c0, c1, r0, r1, z0⟩ := fc3 O1 O2 O3
     go_wp2_with fail
     refine (HSA.out w5).mono ?_
     rintro e w6 ⟨rfl, bx⟩
     have P := nx3 bx O1 O2 O3 B3
     clear bx O1 O2 O3 B3 a0 a1 c0 c1 r0 r1 z0
     obtain ⟨O1, O2, O3, B3⟩ := P
     obtain ⟨a0, a1, c0, c1, r0, r1, z0⟩ := fc3 O1 O2 O3
     rcases hc with rfl | rfl | rfl | rfl | rfl | rfl | rfl | rfl | rfl | rfl
     · have HR := Lib.hid (HR.out.trans (show dosV 1 al ah bl' bh = sumV al ah bl' bh from rfl))
       have HC := Lib.hid (fun w => sum_any w al ah bl' bh)
       generalize sumV al ah bl' bh = X at HR HC
       obtain ⟨x1, x2⟩ := X
       unfold spVal at HC
       dsimp only at HC
       go_wp2_with fail
       refine (HC.out w6).mono ?_
       rintro e w7 ⟨rfl, bx⟩
       have P := nx3 bx O1 O2 O3 B3
       clear bx O1 O2 O3 B3 a0 a1 c0 c1 r0 r1 z0
       obtain ⟨O1, O2, O3, B3⟩ := P
       obtain ⟨a0, a1, c0, c1, r0, r1, z0⟩ := fc3 O1 O2 O3
       go_wp2_with fail
       have hw := (B3.out.setCell (p := ⟨q3, 0, none⟩) hq.out (.int .u64 (uv x1))).setCell (p := ⟨q3, 1, none⟩) hq.out (.int .u64 (uv x2))
       have HOX := Lib.hid ((O3.out.set_ 0 (.int .u64 (uv x1))).set_ 1 (.int .u64 (uv x2)))
       generalize (w7.setCell ⟨q3, 0, none⟩ (.int .u64 (uv x1))).setCell ⟨q3, 1, none⟩ (.int .u64 (uv x2)) = wf at hw HOX ⊢
       have t0 := HOX.out.c0
       have t1 := HOX.out.c1
       exact bodyPost_ret (v := .tuple #[.agg #[.int .u64 (uv x1), .int .u64 (uv x2)], .bool true]) (by simp [results, Tryz.results90, go_sem, t0, t1]) rfl ⟨by rw [HR.out, HK.out] <;> first | done | rfl, hw⟩
     · have HR := Lib.hid (HR.out.trans (show dosV 2 al ah bl' bh = subV al ah bl' bh from rfl))
       by_cases h : al.toNat < bh.toNat
       · have HR := Lib.hid (HR.out.trans (show subV al ah bl' bh = (0#64, mostB) from if_pos h))
         have g2 := uv_dec_lt h
         clear h
         go_wp2_with fail
         refine (HF.out w6).mono ?_
         rintro e w7 ⟨rfl, bx⟩
         have P := nx3 bx O1 O2 O3 B3
         clear bx O1 O2 O3 B3 a0 a1 c0 c1 r0 r1 z0
         obtain ⟨O1, O2, O3, B3⟩ := P
         obtain ⟨a0, a1, c0, c1, r0, r1, z0⟩ := fc3 O1 O2 O3
         go_wp2_with fail
         have hw := (B3.out.setCell (p := ⟨q3, 0, none⟩) hq.out (.int .u64 (0))).setCell (p := ⟨q3, 1, none⟩) hq.out (.int .u64 (18446744073709551615))
         have HOX := Lib.hid ((O3.out.set_ 0 (.int .u64 (0))).set_ 1 (.int .u64 (18446744073709551615)))
         generalize (w7.setCell ⟨q3, 0, none⟩ (.int .u64 (0))).setCell ⟨q3, 1, none⟩ (.int .u64 (18446744073709551615)) = wf at hw HOX ⊢
         have t0 := HOX.out.c0
         have t1 := HOX.out.c1
         exact bodyPost_ret (v := .tuple #[.agg #[.int .u64 (0), .int .u64 (18446744073709551615)], .bool true]) (by simp [results, Tryz.results90, go_sem, t0, t1]) rfl ⟨by rw [HR.out, HK.out] <;> first | done | rfl, hw⟩
       have HR := Lib.hid (HR.out.trans (show subV al ah bl' bh = (al - bh, ah - bl') from if_neg h))
       have g2 := uv_dec_nlt h
       clear h
       go_wp2_with fail
       have hw := (B3.out.setCell (p := ⟨q3, 0, none⟩) hq.out (.int .u64 (uv (al - bh)))).setCell (p := ⟨q3, 1, none⟩) hq.out (.int .u64 (uv (ah - bl')))
       have HOX := Lib.hid ((O3.out.set_ 0 (.int .u64 (uv (al - bh)))).set_ 1 (.int .u64 (uv (ah - bl'))))
       generalize (w6.setCell ⟨q3, 0, none⟩ (.int .u64 (uv (al - bh)))).setCell ⟨q3, 1, none⟩ (.int .u64 (uv (ah - bl'))) = wf at hw HOX ⊢
       have t0 := HOX.out.c0
       have t1 := HOX.out.c1
       exact bodyPost_ret (v := .tuple #[.agg #[.int .u64 (uv (al - bh)), .int .u64 (uv (ah - bl'))], .bool true]) (by simp [results, Tryz.results90, go_sem, t0, t1]) rfl ⟨by rw [HR.out, HK.out] <;> first | done | rfl, hw⟩
     · have HR := Lib.hid (HR.out.trans (show dosV 3 al ah bl' bh = mulV al ah bl' bh from rfl))
       have HC := Lib.hid (fun w => product_any w al ah bl' bh)
       generalize mulV al ah bl' bh = X at HR HC
       obtain ⟨x1, x2⟩ := X
       unfold spVal at HC
       dsimp only at HC
       go_wp2_with fail
       refine (HC.out w6).mono ?_
       rintro e w7 ⟨rfl, bx⟩
       have P := nx3 bx O1 O2 O3 B3
       clear bx O1 O2 O3 B3 a0 a1 c0 c1 r0 r1 z0
       obtain ⟨O1, O2, O3, B3⟩ := P
       obtain ⟨a0, a1, c0, c1, r0, r1, z0⟩ := fc3 O1 O2 O3
       go_wp2_with fail
       have hw := (B3.out.setCell (p := ⟨q3, 0, none⟩) hq.out (.int .u64 (uv x1))).setCell (p := ⟨q3, 1, none⟩) hq.out (.int .u64 (uv x2))
       have HOX := Lib.hid ((O3.out.set_ 0 (.int .u64 (uv x1))).set_ 1 (.int .u64 (uv x2)))
       generalize (w7.setCell ⟨q3, 0, none⟩ (.int .u64 (uv x1))).setCell ⟨q3, 1, none⟩ (.int .u64 (uv x2)) = wf at hw HOX ⊢
       have t0 := HOX.out.c0
       have t1 := HOX.out.c1
       exact bodyPost_ret (v := .tuple #[.agg #[.int .u64 (uv x1), .int .u64 (uv x2)], .bool true]) (by simp [results, Tryz.results90, go_sem, t0, t1]) rfl ⟨by rw [HR.out, HK.out] <;> first | done | rfl, hw⟩
     · have HR := Lib.hid (HR.out.trans (show dosV 4 al ah bl' bh = divV al ah bl' bh from rfl))
       have HC := Lib.hid (fun w => divided_any w al ah bl' bh HBL.out)
       generalize divV al ah bl' bh = X at HR HC
       obtain ⟨x1, x2⟩ := X
       unfold spVal at HC
       dsimp only at HC
       go_wp2_with fail
       refine (HC.out w6).mono ?_
       rintro e w7 ⟨rfl, bx⟩
       have P := nx3 bx O1 O2 O3 B3
       clear bx O1 O2 O3 B3 a0 a1 c0 c1 r0 r1 z0
       obtain ⟨O1, O2, O3, B3⟩ := P
       obtain ⟨a0, a1, c0, c1, r0, r1, z0⟩ := fc3 O1 O2 O3
       go_wp2_with fail
       have hw := (B3.out.setCell (p := ⟨q3, 0, none⟩) hq.out (.int .u64 (uv x1))).setCell (p := ⟨q3, 1, none⟩) hq.out (.int .u64 (uv x2))
       have HOX := Lib.hid ((O3.out.set_ 0 (.int .u64 (uv x1))).set_ 1 (.int .u64 (uv x2)))
       generalize (w7.setCell ⟨q3, 0, none⟩ (.int .u64 (uv x1))).setCell ⟨q3, 1, none⟩ (.int .u64 (uv x2)) = wf at hw HOX ⊢
       have t0 := HOX.out.c0
       have t1 := HOX.out.c1
       exact bodyPost_ret (v := .tuple #[.agg #[.int .u64 (uv x1), .int .u64 (uv x2)], .bool true]) (by simp [results, Tryz.results90, go_sem, t0, t1]) rfl ⟨by rw [HR.out, HK.out] <;> first | done | rfl, hw⟩
     · have HR := Lib.hid (HR.out.trans (show dosV 5 al ah bl' bh = remV al ah bl' bh from rfl))
       have HC := Lib.hid (fun w => rest_any w al ah bl' bh)
       generalize remV al ah bl' bh = X at HR HC
       obtain ⟨x1, x2⟩ := X
       unfold spVal at HC
       dsimp only at HC
       go_wp2_with fail
       refine (HC.out w6).mono ?_
       rintro e w7 ⟨rfl, bx⟩
       have P := nx3 bx O1 O2 O3 B3
       clear bx O1 O2 O3 B3 a0 a1 c0 c1 r0 r1 z0
       obtain ⟨O1, O2, O3, B3⟩ := P
       obtain ⟨a0, a1, c0, c1, r0, r1, z0⟩ := fc3 O1 O2 O3
       go_wp2_with fail
       have hw := (B3.out.setCell (p := ⟨q3, 0, none⟩) hq.out (.int .u64 (uv x1))).setCell (p := ⟨q3, 1, none⟩) hq.out (.int .u64 (uv x2))
       have HOX := Lib.hid ((O3.out.set_ 0 (.int .u64 (uv x1))).set_ 1 (.int .u64 (uv x2)))
       generalize (w7.setCell ⟨q3, 0, none⟩ (.int .u64 (uv x1))).setCell ⟨q3, 1, none⟩ (.int .u64 (uv x2)) = wf at hw HOX ⊢
       have t0 := HOX.out.c0
       have t1 := HOX.out.c1
       exact bodyPost_ret (v := .tuple #[.agg #[.int .u64 (uv x1), .int .u64 (uv x2)], .bool true]) (by simp [results, Tryz.results90, go_sem, t0, t1]) rfl ⟨by rw [HR.out, HK.out] <;> first | done | rfl, hw⟩
     · have HR := Lib.hid (HR.out.trans (show dosV 6 al ah bl' bh = andV al ah bl' bh from rfl))
       go_wp2_with fail
       have hw := (B3.out.setCell (p := ⟨q3, 0, none⟩) hq.out (.int .u64 (0))).setCell (p := ⟨q3, 1, none⟩) hq.out (.int .u64 (uv (minB ah bh)))
       have HOX := Lib.hid ((O3.out.set_ 0 (.int .u64 (0))).set_ 1 (.int .u64 (uv (minB ah bh))))
       generalize (w6.setCell ⟨q3, 0, none⟩ (.int .u64 (0))).setCell ⟨q3, 1, none⟩ (.int .u64 (uv (minB ah bh))) = wf at hw HOX ⊢
       have t0 := HOX.out.c0
       have t1 := HOX.out.c1
       exact bodyPost_ret (v := .tuple #[.agg #[.int .u64 (0), .int .u64 (uv (minB ah bh))], .bool true]) (by simp [results, Tryz.results90, go_sem, t0, t1]) rfl ⟨by rw [HR.out, HK.out] <;> first | done | rfl, hw⟩
     · have HR := Lib.hid (HR.out.trans (show dosV 7 al ah bl' bh = orV al ah bl' bh from rfl))
       have HO := Lib.hid (fun w => ones_any (ah ||| bh) w)
       go_wp2_with fail
       go_region_held3 (fun w' => w'.cell? ⟨q1, 0, none⟩ = some (.int .u64 (uv al)) ∧ w'.cell? ⟨q1, 1, none⟩ = some (.int .u64 (uv ah)) ∧ w'.cell? ⟨q2, 0, none⟩ = some (.int .u64 (uv bl')) ∧ w'.cell? ⟨q2, 1, none⟩ = some (.int .u64 (uv bh))) (refine ⟨?_, ?_, ?_, ?_⟩ <;> first | exact a0 | exact a1 | exact c0 | exact c1 | exact ((O1.out.far (p := ⟨q3, 0, none⟩) hd13.out _).far (p := ⟨q3, 1, none⟩) hd13.out _).cell 0 | exact ((O1.out.far (p := ⟨q3, 0, none⟩) hd13.out _).far (p := ⟨q3, 1, none⟩) hd13.out _).cell 1 | exact ((O2.out.far (p := ⟨q3, 0, none⟩) hd23.out _).far (p := ⟨q3, 1, none⟩) hd23.out _).cell 0 | exact ((O2.out.far (p := ⟨q3, 0, none⟩) hd23.out _).far (p := ⟨q3, 1, none⟩) hd23.out _).cell 1) (first | (go_at_call 130; refine (HO.out _).mono ?_; rintro e wy ⟨rfl, rfl⟩))
       all_goals
        go_wp2_with fail
        have hw := (B3.out.setCell (p := ⟨q3, 0, none⟩) hq.out (.int .u64 (uv (maxB al bl')))).setCell (p := ⟨q3, 1, none⟩) hq.out (.int .u64 (uv (onesB (ah ||| bh))))
        have HOX := Lib.hid ((O3.out.set_ 0 (.int .u64 (uv (maxB al bl')))).set_ 1 (.int .u64 (uv (onesB (ah ||| bh)))))
        generalize (w6.setCell ⟨q3, 0, none⟩ (.int .u64 (uv (maxB al bl')))).setCell ⟨q3, 1, none⟩ (.int .u64 (uv (onesB (ah ||| bh)))) = wf at hw HOX ⊢
        have t0 := HOX.out.c0
        have t1 := HOX.out.c1
        exact bodyPost_ret (v := .tuple #[.agg #[.int .u64 (uv (maxB al bl')), .int .u64 (uv (onesB (ah ||| bh)))], .bool true]) (by simp [results, Tryz.results90, go_sem, t0, t1]) rfl ⟨by rw [HR.out, HK.out] <;> first | done | rfl, by first | exact hw | exact below_drewN hw 1⟩
     · have HR := Lib.hid (HR.out.trans (show dosV 8 al ah bl' bh = xorV al ah bl' bh from rfl))
       have HO := Lib.hid (fun w => ones_any (ah ||| bh) w)
       go_wp2_with fail
       refine (HO.out _).mono ?_
       rintro e wy ⟨rfl, rfl⟩
       go_wp2_with fail
       have hw := (B3.out.setCell (p := ⟨q3, 0, none⟩) hq.out (.int .u64 (0))).setCell (p := ⟨q3, 1, none⟩) hq.out (.int .u64 (uv (onesB (ah ||| bh))))
       have HOX := Lib.hid ((O3.out.set_ 0 (.int .u64 (0))).set_ 1 (.int .u64 (uv (onesB (ah ||| bh)))))
       generalize (w6.setCell ⟨q3, 0, none⟩ (.int .u64 (0))).setCell ⟨q3, 1, none⟩ (.int .u64 (uv (onesB (ah ||| bh)))) = wf at hw HOX ⊢
       have t0 := HOX.out.c0
       have t1 := HOX.out.c1
       exact bodyPost_ret (v := .tuple #[.agg #[.int .u64 (0), .int .u64 (uv (onesB (ah ||| bh)))], .bool true]) (by simp [results, Tryz.results90, go_sem, t0, t1]) rfl ⟨by rw [HR.out, HK.out] <;> first | done | rfl, hw⟩
     · have HR := Lib.hid (HR.out.trans (show dosV 9 al ah bl' bh = shlV al ah bl' bh from rfl))
       have HC := Lib.hid (fun w => left_any w al ah bl' bh)
       generalize shlV al ah bl' bh = X at HR HC
       obtain ⟨x1, x2⟩ := X
       unfold spVal at HC
       dsimp only at HC
       go_wp2_with fail
       refine (HC.out w6).mono ?_
       rintro e w7 ⟨rfl, bx⟩
       have P := nx3 bx O1 O2 O3 B3
       clear bx O1 O2 O3 B3 a0 a1 c0 c1 r0 r1 z0
       obtain ⟨O1, O2, O3, B3⟩ := P
       obtain ⟨a0, a1, c0, c1, r0, r1, z0⟩ := fc3 O1 O2 O3
       go_wp2_with fail
       have hw := (B3.out.setCell (p := ⟨q3, 0, none⟩) hq.out (.int .u64 (uv x1))).setCell (p := ⟨q3, 1, none⟩) hq.out (.int .u64 (uv x2))
       have HOX := Lib.hid ((O3.out.set_ 0 (.int .u64 (uv x1))).set_ 1 (.int .u64 (uv x2)))
       generalize (w7.setCell ⟨q3, 0, none⟩ (.int .u64 (uv x1))).setCell ⟨q3, 1, none⟩ (.int .u64 (uv x2)) = wf at hw HOX ⊢
       have t0 := HOX.out.c0
       have t1 := HOX.out.c1
       exact bodyPost_ret (v := .tuple #[.agg #[.int .u64 (uv x1), .int .u64 (uv x2)], .bool true]) (by simp [results, Tryz.results90, go_sem, t0, t1]) rfl ⟨by rw [HR.out, HK.out] <;> first | done | rfl, hw⟩
     have HR := Lib.hid (HR.out.trans (show dosV 10 al ah bl' bh = shrV al ah bl' bh from rfl))
     go_wp2_with fail
     have hw := (B3.out.setCell (p := ⟨q3, 0, none⟩) hq.out (.int .u64 (uv (al >>> bh.toNat)))).setCell (p := ⟨q3, 1, none⟩) hq.out (.int .u64 (uv (ah >>> bl'.toNat)))
     have HOX := Lib.hid ((O3.out.set_ 0 (.int .u64 (uv (al >>> bh.toNat)))).set_ 1 (.int .u64 (uv (ah >>> bl'.toNat))))
     generalize (w6.setCell ⟨q3, 0, none⟩ (.int .u64 (uv (al >>> bh.toNat)))).setCell ⟨q3, 1, none⟩ (.int .u64 (uv (ah >>> bl'.toNat))) = wf at hw HOX ⊢
     have t0 := HOX.out.c0
     have t1 := HOX.out.c1
     exact bodyPost_ret (v := .tuple #[.agg #[.int .u64 (uv (al >>> bh.toNat)), .int .u64 (uv (ah >>> bl'.toNat))], .bool true]) (by simp [results, Tryz.results90, go_sem, t0, t1]) rfl ⟨by rw [HR.out, HK.out] <;> first | done | rfl, hw⟩
   rw [uv_dec_nle hb] at HRB
   have HR := Lib.hid (HNO.out (by unfold dosOk; rw [decide_eq_false hb, Bool.and_false]))
   clear hb hc
   go_enter Tryz.func90, Tryz.ntmps90
   go_upto_region 1 with fail
   obtain ⟨w3, q1, q2, q3, hw3, hq1, hq2, hq3, O1, O2, O3, B3, hq, -, -, hd13, hd23⟩ := thr w (uv al) (uv ah) (uv bl') (uv bh)
   rw [hw3, hq3, hq2, hq1]
   clear hw3 hq1 hq2 hq3
   obtain ⟨a0, a1, c0, c1, r0, r1, z0⟩ := fc3 O1 O2 O3
   go_wp2_with fail
   refine (HDO.out w3).mono ?_
   rintro e wx ⟨rfl, rfl⟩
   go_wp2_with fail
   refine (HRA.out w3).mono ?_
   rintro e w4 ⟨rfl, bx⟩
   have P := nx3 bx O1 O2 O3 B3
   clear bx O1 O2 O3 B3 a0 a1 c0 c1 r0 r1 z0
   obtain ⟨O1, O2, O3, B3⟩ := P
   obtain ⟨a0, a1, c0, c1, r0, r1, z0⟩ := fc3 O1 O2 O3
   go_wp2_with fail
   refine (HRB.out w4).mono ?_
   rintro e w5 ⟨rfl, bx⟩
   have P := nx3 bx O1 O2 O3 B3
   clear bx O1 O2 O3 B3 a0 a1 c0 c1 r0 r1 z0
   obtain ⟨O1, O2, O3, B3⟩ := P
   obtain ⟨a0, a1, c0, c1, r0, r1, z0⟩ := fc3 O1 O2 O3
   go_wp2_with fail
   have hw := (B3.out.setCell (p := ⟨q3, 0, none⟩) hq.out (.int .u64 (0))).setCell (p := ⟨q3, 1, none⟩) hq.out (.int .u64 (0))
   have HOX := Lib.hid ((O3.out.set_ 0 (.int .u64 (0))).set_ 1 (.int .u64 (0)))
   generalize (w5.setCell ⟨q3, 0, none⟩ (.int .u64 (0))).setCell ⟨q3, 1, none⟩ (.int .u64 (0)) = wf at hw HOX ⊢
   have t0 := HOX.out.c0
   have t1 := HOX.out.c1
   exact bodyPost_ret (v := .tuple #[.agg #[.int .u64 (0), .int .u64 (0)], .bool false]) (by simp [results, Tryz.results90, go_sem, t0, t1]) rfl ⟨by rw [HR.out.1, HR.out.2] <;> first | done | rfl, hw⟩
 rw [uv_dec_nle ha] at HRA
 have HR := Lib.hid (HNO.out (by unfold dosOk; rw [decide_eq_false ha, Bool.and_false]; rfl))
 clear ha hc
 go_enter Tryz.func90, Tryz.ntmps90
 go_upto_region 1 with fail
 obtain ⟨w3, q1, q2, q3, hw3, hq1, hq2, hq3, O1, O2, O3, B3, hq, -, -, hd13, hd23⟩ := thr w (uv al) (uv ah) (uv bl') (uv bh)
 rw [hw3, hq3, hq2, hq1]
 clear hw3 hq1 hq2 hq3
 obtain ⟨a0, a1, c0, c1, r0, r1, z0⟩ := fc3 O1 O2 O3
 go_wp2_with fail
 refine (HDO.out w3).mono ?_
 rintro e wx ⟨rfl, rfl⟩
 go_wp2_with fail
 refine (HRA.out w3).mono ?_
 rintro e w4 ⟨rfl, bx⟩
 have P := nx3 bx O1 O2 O3 B3
 clear bx O1 O2 O3 B3 a0 a1 c0 c1 r0 r1 z0
 obtain ⟨O1, O2, O3, B3⟩ := P
 obtain ⟨a0, a1, c0, c1, r0, r1, z0⟩ := fc3 O1 O2 O3
 go_wp2_with fail
 have hw := (B3.out.setCell (p := ⟨q3, 0, none⟩) hq.out (.int .u64 (0))).setCell (p := ⟨q3, 1, none⟩) hq.out (.int .u64 (0))
 have HOX := Lib.hid ((O3.out.set_ 0 (.int .u64 (0))).set_ 1 (.int .u64 (0)))
 generalize (w4.setCell ⟨q3, 0, none⟩ (.int .u64 (0))).setCell ⟨q3, 1, none⟩ (.int .u64 (0)) = wf at hw HOX ⊢
 have t0 := HOX.out.c0
 have t1 := HOX.out.c1
 exact bodyPost_ret (v := .tuple #[.agg #[.int .u64 (0), .int .u64 (0)], .bool false]) (by simp [results, Tryz.results90, go_sem, t0, t1]) rfl ⟨by rw [HR.out.1, HR.out.2] <;> first | done | rfl, hw⟩

end Go.Proofs.YtikkmkomlajnfaaGreatDoor.Sp
end
