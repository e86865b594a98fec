/-
  The law's walk. Conditions: those of each theorem.
-/
import Derived.Test.YtjcffmcafjineaaDoorWm01
import Derived.Test.YtjcffmcafjineaaDoorWm27
import Derived.Test.YtjcffmcafjineaaDoorWm28
import Derived.Test.YtjcffmcafjineaaDoorWm29
set_option linter.unusedVariables false
set_option linter.unusedSimpArgs false
section
namespace Go.Proofs.YtjcffmcafjineaaDoor.Tp
open Go.RowKit
open Go.Proofs.YtjcffmcafjineaaDoor.Op (InstV insc insVal inss ins0 ins_at rightV right_is RightI Frm costV checkV CheckI check_is)
open Go.Proofs.YtjcffmcafjineaaDoor.En (StV rg rg_length rg_get rg_set rg_ext updI MAt Tg mcell st0 ActV acc acVal ac0 ofI wrapu srcU runS runD stepS stepA callS callA okI okC keepS sl_tch cell_tch ints ansS ResOk act_load new_any answer_any over_any steps_any)
open Go.Proofs.YtjcffmcafjineaaDoor.Sg (ResV rec_ reVal)
open Go.Proofs.YtjcffmcafjineaaDoor.Jd (judV)

theorem xc_zero (ea eb : BitVec 64) (mV cV : Value) : (((Tryd.zeroCells46.setIfInBounds 0 mV).setIfInBounds 1 cV).setIfInBounds 2 (.int .u64 (uv ea))).setIfInBounds 3 (.int .u64 (uv eb)) = (rg 94 (xcell mV cV ea eb (st0 Sc.zz))).toArray := by kernel_rfl
set_option maxRecDepth 100000 in
set_option maxHeartbeats 16000000 in
theorem whole_any (w : World) (ea eb : BitVec 64) (l : List InstV) (ms : List Int) (rs : List ResV) (mA cA rA : Option Addr) (nm cm n c nr cr : Nat) (hn : n = l.length) (hnm : nm = ms.length) (hnr : nr = rs.length)
 (hb1 : nm * 8 ≤ 140737488351232) (hb2 : n * 40 ≤ 140737488351232) (hb3 : nr ≤ 140737488351232) (hf : Frm w) (ht : Sg.Tab w) (hs : Sl w cA (inss l)) (hm : Sl w mA (ints ms)) (hr : Sl w rA (recs rs)) (hro : ∀ r ∈ rs, ResOk r) :
 Calls Tryd.prog 3 #[.agg #[.slice mA nm cm, .slice cA n c, .int .u64 (uv ea), .int .u64 (uv eb), .slice rA nr cr]] w fun e w' => e = .returned (.bool true) ∧ Below w.heap.size w w' := by
 have HCP := Lib.hid (fun w hs hm => copied_any w l ms mA cA nm cm n c hn hnm hb1 hb2 hs hm)
 have HN := Lib.hid hn
 have HNM := Lib.hid hnm
 have HNR := Lib.hid hnr
 have HB := Lib.hid (show nm ≤ 140737488351232 by omega)
 have HB3 := Lib.hid hb3
 have HF := Lib.hid hf
 have HT := Lib.hid ht
 have HS := Lib.hid hs
 have HM := Lib.hid hm
 have HR := Lib.hid hr
 have HRO := Lib.hid hro
 have HRB := Lib.hid (show 0 < rs.length → ∀ a, rA = some a → a.block < w.heap.size from fun h a ha => by
  obtain ⟨b, o, e, hc⟩ := hr (by rw [recs_length]; omega)
  rw [ha] at e
  injection e with e
  subst e
  exact cell_lt (hc 0 (by rw [recs_length]; omega)))
 have B0 := Lib.hid (Below.refl w.heap.size w)
 have HRN := Lib.hid (fun w hf ht => runs_any w hf ht)
 clear hn hnm hnr hb1 hb2 hb3 hf ht hs hm hr hro
 go_enter Tryd.func3, Tryd.ntmps3
 go_upto_region 1 with fail
 have O1 := Lib.hid (Ob.fresh w 31 [.slice mA nm cm, .slice cA n c, .int .u64 (uv ea), .int .u64 (uv eb), .slice rA nr cr])
 have B1 := Lib.hid (below_alloc (B0.out) (.cells #[.slice mA nm cm, .slice cA n c, .int .u64 (uv ea), .int .u64 (uv eb), .slice rA nr cr] 31))
 have Hq1 := Lib.hid (show w.heap.size ≤ w.heap.size by have := B0.out.size; omega)
 clear B0
 generalize (w.alloc (.cells #[.slice mA nm cm, .slice cA n c, .int .u64 (uv ea), .int .u64 (uv eb), .slice rA nr cr] 31)) = w1 at O1 B1 ⊢
 obtain ⟨q1, hq1⟩ : ∃ q1, w.heap.size = q1 := ⟨_, rfl⟩
 have Hq1 := Lib.hid (Nat.le_of_eq hq1)
 rw [hq1] at O1 ⊢
 clear hq1
 go_wp2_with fail
 refine (HRN.out w1 (HF.out.below B1.out) (HT.out.below B1.out)).mono ?_
 rintro e w2 ⟨rfl, b2⟩
 have B2 := Lib.hid (B1.out.trans (b2.mono B1.out.size))
 have O2 := Lib.hid (O1.out.below b2 O1.out.lt)
 clear b2 B1 O1 HRN
 have m0 := O2.out.c0
 have m1 := O2.out.c1
 go_wp2_with fail
 refine (HCP.out w2 (HS.out.below B2.out) (HM.out.below B2.out)).mono ?_
 rintro e w3 ⟨⟨mJ, cmJ, cJ, ccJ, rfl, hle1, hle2, hsm, hsc, _, _, _, _⟩, b3⟩
 have HJ := Lib.hid (Jd.Judge_any w3 l ms mJ cJ nm cmJ n ccJ HN.out hle2 HNM.out hle1 HB.out (HF.out.below (B2.out.trans (b3.mono B2.out.size))) (HT.out.below (B2.out.trans (b3.mono B2.out.size))) hsc hsm)
 have B3 := Lib.hid (B2.out.trans (b3.mono B2.out.size))
 have O3 := Lib.hid (O2.out.below b3 O2.out.lt)
 clear b3 hle1 hle2 hsm hsc m0 m1 B2 O2
 go_wp2_with fail
 refine HJ.out.mono ?_
 rintro e w4 ⟨rfl, b4⟩
 have B4 := Lib.hid (B3.out.trans (b4.mono B3.out.size))
 have O4 := Lib.hid (O3.out.below b4 O3.out.lt)
 clear b4 B3 O3 HJ
 by_cases hj : (judV ms l).2 = 0
 · have HJ0 := Lib.hid hj
   obtain ⟨hgood, hck, T, Mk, htyp⟩ := Lw.judged_typed hj
   have HCK := Lib.hid hck
   have HCI := Lib.hid (check_is hck)
   have HTY := Lib.hid htyp
   have H4 := Lib.hid (show ms.length ≤ 4 from Jd.good_len hgood)
   obtain ⟨MO, hMO⟩ : ∃ MO : Nat, costV l = MO := ⟨_, Lw.cost_sum (check_is hck)⟩
   have HMO := Lib.hid hMO
   obtain ⟨p0, hp0⟩ : ∃ p0, (judV ms l).1 = p0 := ⟨_, rfl⟩
   rw [hj, hp0]
   clear hgood hck htyp hp0 hj
   have m0 := O4.out.c0
   have m1 := O4.out.c1
   go_wp2_with fail
   refine (HCP.out w4 (HS.out.below B4.out) (HM.out.below B4.out)).mono ?_
   rintro e w5 ⟨⟨mJ, cmJ, cJ, ccJ, rfl, _, _, _, hsc, _, _, _, _⟩, b5⟩
   have HCO := Lib.hid (Op.costx_any w5 l cJ n ccJ HN.out HCK.out (HF.out.below (B4.out.trans (b5.mono B4.out.size))) hsc)
   have B5 := Lib.hid (B4.out.trans (b5.mono B4.out.size))
   have O5 := Lib.hid (O4.out.below b5 O4.out.lt)
   rw [hMO] at HCO
   clear b5 m0 m1 B4 O4 hsc hMO
   have hfd : ∀ w : World, (Instr.field 25 (.agg #[.slice mJ nm cmJ, .slice cJ n ccJ]) 1).run Tryd.prog w = .ok (.slice cJ n ccJ) w := fun _ => by kernel_rfl
   go_wp2_with fail
   refine HCO.out.mono ?_
   rintro e w6 ⟨rfl, b6⟩
   have B6 := Lib.hid (B5.out.trans (b6.mono B5.out.size))
   have O6 := Lib.hid (O5.out.below b6 O5.out.lt)
   clear b6 B5 O5 HCO hfd
   have HW6 := Lib.hid (show w.heap.size ≤ w6.heap.size from B6.out.size)
   go_upto_region 8 with fail
   have KS := Lib.hid (show ∀ w', Below w6.heap.size w6 w' → (w'.cell? ⟨q1, 0, none⟩ = some (.slice mA nm cm) ∧ w'.cell? ⟨q1, 1, none⟩ = some (.slice cA n c) ∧ w'.cell? ⟨q1, 2, none⟩ = some (.int .u64 (uv ea)) ∧ w'.cell? ⟨q1, 3, none⟩ = some (.int .u64 (uv eb))) from fun w' hb => ⟨(O6.out.below hb O6.out.lt).cell 0, (O6.out.below hb O6.out.lt).cell 1, (O6.out.below hb O6.out.lt).cell 2, (O6.out.below hb O6.out.lt).cell 3⟩)
   obtain ⟨wd, hwd⟩ : ∃ wd, w6.drew = wd := ⟨_, rfl⟩
   have BD := Lib.hid (show Below w6.heap.size w6 wd from hwd ▸ below_drewN (Below.refl w6.heap.size w6) 1)
   refine wp_region_held_drew (S := fun w' => (w'.cell? ⟨q1, 0, none⟩ = some (.slice mA nm cm) ∧ w'.cell? ⟨q1, 1, none⟩ = some (.slice cA n c) ∧ w'.cell? ⟨q1, 2, none⟩ = some (.int .u64 (uv ea)) ∧ w'.cell? ⟨q1, 3, none⟩ = some (.int .u64 (uv eb)))) (by kernel_rfl) (hwd ▸ KS.out wd BD.out) (fun hHeld => ?_)
   refine tkq 0 53 rfl (by kernel_rfl) (by rfl) hHeld (fun _ _ _ h => h) (by intro w' hSw; go_simp; try with_reducible rfl) ?_
   simp only [Act.put, spa, spb, spc]
   refine tkq 1 54 rfl (by kernel_rfl) (by rfl) hHeld (fun _ _ _ h => h) (by intro w' hSw; go_simp; try with_reducible rfl) ?_
   simp only [Act.put, spa, spb, spc]
   refine tkq 3 56 rfl (by kernel_rfl) (by rfl) hHeld (fun _ _ _ h => h) (by intro w' hSw; go_simp; try with_reducible rfl) ?_
   simp only [Act.put, spa, spb, spc]
   refine tkq 4 57 rfl (by kernel_rfl) (by rfl) hHeld (fun _ _ _ h => h) (by intro w' hSw; go_simp; try with_reducible rfl) ?_
   simp only [Act.put, spa, spb, spc]
   refine rdq 2 ⟨some 55, _, _, _, _, _⟩ (by kernel_rfl) rfl (fun K' hK => ?_)
   go_simp
   refine (HCP.out wd (HS.out.below (B6.out.trans (BD.out.mono B6.out.size))) (HM.out.below (B6.out.trans (BD.out.mono B6.out.size)))).mono ?_
   rintro e wx ⟨⟨mX, cmX, cX, ccX, rfl, hle1, hle2, hsm, hsc, hbm, hbc, hzm, hzc⟩, bx⟩
   have BX := Lib.hid (BD.out.trans (bx.mono BD.out.size))
   have SMX := Lib.hid hsm
   have SCX := Lib.hid hsc
   have HX1 := Lib.hid hle1
   have HX2 := Lib.hid hle2
   have HBMX := Lib.hid (show ∀ a, mX = some a → w6.heap.size ≤ a.block ∧ a.block < wx.heap.size from fun a h => ⟨Nat.le_trans BD.out.size (hbm a h).1, (hbm a h).2⟩)
   have HBCX := Lib.hid (show ∀ a, cX = some a → w6.heap.size ≤ a.block ∧ a.block < wx.heap.size from fun a h => ⟨Nat.le_trans BD.out.size (hbc a h).1, (hbc a h).2⟩)
   have HZX := Lib.hid (And.intro hzm hzc)
   clear bx hle1 hle2 hsm hsc hbm hbc hzm hzc
   refine hK.out _ _ (KS.out _ BX.out) (fun hHeld => ?_)
   clear hK K'
   refine tkq 5 58 rfl (by kernel_rfl) (by rfl) hHeld (fun _ _ _ h => h) (by intro w' hSw; go_simp; try with_reducible rfl) ?_
   simp only [Act.put, spa, spb, spc]
   refine rdq 6 ⟨some 59, _, _, _, _, _⟩ (by kernel_rfl) rfl (fun K' hK => ?_)
   go_simp
   refine hK.out _ _ (KS.out _ (below_alloc BX.out (.cells ((((Tryd.zeroCells46.setIfInBounds 0 (.slice mX nm cmX)).setIfInBounds 1 (.slice cX n ccX)).setIfInBounds 2 (.int .u64 (uv ea))).setIfInBounds 3 (.int .u64 (uv eb))) 46))) (fun hHeld => ?_)
   clear hK K'
   refine tkq 7 9 rfl (by kernel_rfl) (by rfl) hHeld (fun _ _ _ h => h) (by intro w' hSw; go_simp; try with_reducible rfl) ?_
   simp only [Act.put, spa, spb, spc]
   refine wpAnyH_done (by kernel_rfl) ?_ _
   clear hHeld KS hwd BD
   have B8 := Lib.hid (B6.out.trans ((below_alloc BX.out (.cells ((((Tryd.zeroCells46.setIfInBounds 0 (.slice mX nm cmX)).setIfInBounds 1 (.slice cX n ccX)).setIfInBounds 2 (.int .u64 (uv ea))).setIfInBounds 3 (.int .u64 (uv eb))) 46)).mono B6.out.size))
   have O8 := Lib.hid (O6.out.below (below_alloc BX.out (.cells ((((Tryd.zeroCells46.setIfInBounds 0 (.slice mX nm cmX)).setIfInBounds 1 (.slice cX n ccX)).setIfInBounds 2 (.int .u64 (uv ea))).setIfInBounds 3 (.int .u64 (uv eb))) 46)) O6.out.lt)
   have X8 := Lib.hid (show XAt (wx.alloc (.cells ((((Tryd.zeroCells46.setIfInBounds 0 (.slice mX nm cmX)).setIfInBounds 1 (.slice cX n ccX)).setIfInBounds 2 (.int .u64 (uv ea))).setIfInBounds 3 (.int .u64 (uv eb))) 46)) wx.heap.size (.slice mX nm cmX) (.slice cX n ccX) ea eb (st0 Sc.zz) from by unfold XAt; rw [xc_zero]; exact Ob.fresh wx _ _)
   have SMX8 := Lib.hid (SMX.out.alloc (.cells ((((Tryd.zeroCells46.setIfInBounds 0 (.slice mX nm cmX)).setIfInBounds 1 (.slice cX n ccX)).setIfInBounds 2 (.int .u64 (uv ea))).setIfInBounds 3 (.int .u64 (uv eb))) 46))
   have SCX8 := Lib.hid (SCX.out.alloc (.cells ((((Tryd.zeroCells46.setIfInBounds 0 (.slice mX nm cmX)).setIfInBounds 1 (.slice cX n ccX)).setIfInBounds 2 (.int .u64 (uv ea))).setIfInBounds 3 (.int .u64 (uv eb))) 46))
   have HGX := Lib.hid (show w.heap.size ≤ wx.heap.size from Nat.le_trans B6.out.size BX.out.size)
   clear B6 O6 BX SMX SCX HX1 HX2 HZX
   generalize wx.alloc (.cells ((((Tryd.zeroCells46.setIfInBounds 0 (.slice mX nm cmX)).setIfInBounds 1 (.slice cX n ccX)).setIfInBounds 2 (.int .u64 (uv ea))).setIfInBounds 3 (.int .u64 (uv eb))) 46) = w8 at B8 O8 X8 SMX8 SCX8 ⊢
   generalize wx.heap.size = gx at X8 HBMX HBCX HGX ⊢
   have HMX := Lib.hid (show ∀ a, mX = some a → w.heap.size ≤ a.block ∧ a.block < gx from fun a h => ⟨Nat.le_trans (by have := B8.out.size; exact HW6.out) (HBMX.out a h).1, (HBMX.out a h).2⟩)
   have HCX := Lib.hid (show ∀ a, cX = some a → w.heap.size ≤ a.block ∧ a.block < gx from fun a h => ⟨Nat.le_trans HW6.out (HBCX.out a h).1, (HBCX.out a h).2⟩)
   clear HBMX HBCX HW6
   go_wp2_with fail
   refine (Sc.new_any w8).mono ?_
   rintro e w9 ⟨rfl, hw9⟩
   have OS9 := Lib.hid (show Ob w9 w8.heap.size 80 (arr 16 Sc.zz ++ (arr 16 Sc.zz ++ [])) from by rw [← hw9]; exact Ob.fresh w8 80 _)
   have b9 : Below w8.heap.size w8 w9 := by rw [← hw9]; exact below_alloc (Below.refl w8.heap.size w8) _
   have B9 := Lib.hid (B8.out.trans (b9.mono B8.out.size))
   have O9 := Lib.hid (O8.out.below b9 O8.out.lt)
   have X9 := Lib.hid (X8.out.below b9)
   have SMX9 := Lib.hid (SMX8.out.below b9)
   have SCX9 := Lib.hid (SCX8.out.below b9)
   have HGS := Lib.hid (show gx < w8.heap.size ∧ w.heap.size ≤ w8.heap.size ∧ q1 < w8.heap.size from ⟨Ob.lt X8.out, B8.out.size, O8.out.lt⟩)
   clear hw9 b9 B8 O8 X8 SMX8 SCX8
   generalize w8.heap.size = gs at OS9 HGS ⊢
   go_upto_region 10 with fail
   have KS := Lib.hid (show ∀ w', Below w9.heap.size w9 w' → (w'.cell? ⟨q1, 0, none⟩ = some (.slice mA nm cm) ∧ w'.cell? ⟨q1, 1, none⟩ = some (.slice cA n c) ∧ w'.cell? ⟨q1, 2, none⟩ = some (.int .u64 (uv ea)) ∧ w'.cell? ⟨q1, 3, none⟩ = some (.int .u64 (uv eb))) from fun w' hb => ⟨(O9.out.below hb O9.out.lt).cell 0, (O9.out.below hb O9.out.lt).cell 1, (O9.out.below hb O9.out.lt).cell 2, (O9.out.below hb O9.out.lt).cell 3⟩)
   obtain ⟨wd, hwd⟩ : ∃ wd, w9.drew = wd := ⟨_, rfl⟩
   have BD := Lib.hid (show Below w9.heap.size w9 wd from hwd ▸ below_drewN (Below.refl w9.heap.size w9) 1)
   refine wp_region_held_drew (S := fun w' => (w'.cell? ⟨q1, 0, none⟩ = some (.slice mA nm cm) ∧ w'.cell? ⟨q1, 1, none⟩ = some (.slice cA n c) ∧ w'.cell? ⟨q1, 2, none⟩ = some (.int .u64 (uv ea)) ∧ w'.cell? ⟨q1, 3, none⟩ = some (.int .u64 (uv eb)))) (by kernel_rfl) (hwd ▸ KS.out wd BD.out) (fun hHeld => ?_)
   refine tkq 0 62 rfl (by kernel_rfl) (by rfl) hHeld (fun _ _ _ h => h) (by intro w' hSw; go_simp; try with_reducible rfl) ?_
   simp only [Act.put, spa, spb, spc]
   refine tkq 1 63 rfl (by kernel_rfl) (by rfl) hHeld (fun _ _ _ h => h) (by intro w' hSw; go_simp; try with_reducible rfl) ?_
   simp only [Act.put, spa, spb, spc]
   refine tkq 3 65 rfl (by kernel_rfl) (by rfl) hHeld (fun _ _ _ h => h) (by intro w' hSw; go_simp; try with_reducible rfl) ?_
   simp only [Act.put, spa, spb, spc]
   refine tkq 4 66 rfl (by kernel_rfl) (by rfl) hHeld (fun _ _ _ h => h) (by intro w' hSw; go_simp; try with_reducible rfl) ?_
   simp only [Act.put, spa, spb, spc]
   refine tkq 5 67 rfl (by kernel_rfl) (by rfl) hHeld (fun _ _ _ h => h) (by intro w' hSw; go_simp; try with_reducible rfl) ?_
   simp only [Act.put, spa, spb, spc]
   refine rdq 2 ⟨some 64, _, _, _, _, _⟩ (by kernel_rfl) rfl (fun K' hK => ?_)
   go_simp
   refine (HCP.out wd (HS.out.below (B9.out.trans (BD.out.mono B9.out.size))) (HM.out.below (B9.out.trans (BD.out.mono B9.out.size)))).mono ?_
   rintro e wx ⟨⟨mJ, cmJ, cJ, ccJ, rfl, hle1, hle2, hsm, hsc, hbm, hbc, hzm, hzc⟩, bx⟩
   have BX := Lib.hid (BD.out.trans (bx.mono BD.out.size))
   have SMY := Lib.hid hsm
   have SCY := Lib.hid hsc
   have HL1 := Lib.hid hle1
   have HL2 := Lib.hid hle2
   have HBM := Lib.hid (show ∀ a, mJ = some a → w9.heap.size ≤ a.block ∧ a.block < wx.heap.size from fun a h => ⟨Nat.le_trans BD.out.size (hbm a h).1, (hbm a h).2⟩)
   have HBC := Lib.hid (show ∀ a, cJ = some a → w9.heap.size ≤ a.block ∧ a.block < wx.heap.size from fun a h => ⟨Nat.le_trans BD.out.size (hbc a h).1, (hbc a h).2⟩)
   have HZ := Lib.hid (And.intro hzm hzc)
   clear bx hle1 hle2 hsm hsc hbm hbc hzm hzc
   refine hK.out _ _ (KS.out _ BX.out) (fun hHeld => ?_)
   clear hK K'
   refine rdq 6 ⟨some 68, _, _, _, _, _⟩ (by kernel_rfl) rfl (fun K' hK => ?_)
   go_simp
   refine (new_any wx gs Sc.zz Sc.zz ea eb l ms mJ cJ nm cmJ n ccJ HN.out HL2.out HNM.out HL1.out HB.out (HF.out.below (B9.out.trans (BX.out.mono B9.out.size))) (HT.out.below (B9.out.trans (BX.out.mono B9.out.size))) (by have h1 := HF.out.lt; have h2 := HGS.out; omega) (by have h1 := HT.out.lt; have h2 := HGS.out; omega) SCY.out SMY.out HZ.out.2 HZ.out.1 HJ0.out (by have := HCI.out.n1; have := HN.out; omega) (by have := H4.out; have := HNM.out; omega)
    (fun a h e => by have h1 := (HBC.out a h).1; have h2 := OS9.out.lt; omega) (fun a h e => by have h1 := (HBM.out a h).1; have h2 := OS9.out.lt; omega) (OS9.out.below BX.out OS9.out.lt)).mono ?_
   rintro e wy ⟨gy, mY, cmY, cY, ccY, rfl, hM, hgy, hsm, hsc, hbm, hbc, tk⟩
   have TY := Lib.hid (show Tch (fun i => i = gs) w9 wy from (Tch.of_below BX.out).trans tk)
   have MY := Lib.hid hM
   have SMY2 := Lib.hid hsm
   have SCY2 := Lib.hid hsc
   have HMY := Lib.hid (show ∀ a, mY = some a → gs < a.block ∧ a.block < gy from fun a h => ⟨by have h1 := (hbm a h).1; have h2 := OS9.out.lt; have h3 := BX.out.size; omega, (hbm a h).2⟩)
   have HCY := Lib.hid (show ∀ a, cY = some a → gs < a.block ∧ a.block < gy from fun a h => ⟨by have h1 := (hbc a h).1; have h2 := OS9.out.lt; have h3 := BX.out.size; omega, (hbc a h).2⟩)
   have HGY := Lib.hid (show gs < gy by have h2 := OS9.out.lt; have h3 := BX.out.size; omega)
   clear hM hgy hsm hsc hbm hbc tk
   refine hK.out _ _ (show (wy.cell? ⟨q1, 0, none⟩ = some (.slice mA nm cm) ∧ wy.cell? ⟨q1, 1, none⟩ = some (.slice cA n c) ∧ wy.cell? ⟨q1, 2, none⟩ = some (.int .u64 (uv ea)) ∧ wy.cell? ⟨q1, 3, none⟩ = some (.int .u64 (uv eb))) from ⟨(O9.out.tch TY.out (O9.out.ne_ OS9.out (by decide))).cell 0, (O9.out.tch TY.out (O9.out.ne_ OS9.out (by decide))).cell 1, (O9.out.tch TY.out (O9.out.ne_ OS9.out (by decide))).cell 2, (O9.out.tch TY.out (O9.out.ne_ OS9.out (by decide))).cell 3⟩) (fun hHeld => ?_)
   clear hK K'
   refine tkq 7 61 rfl (by kernel_rfl) (by rfl) hHeld (fun _ _ _ h => h) (by intro w' hSw; go_simp; try with_reducible rfl) ?_
   simp only [Act.put, spa, spb, spc]
   refine tkq 8 69 rfl (by kernel_rfl) (by rfl) hHeld (fun _ _ _ h => h) (by intro w' hSw; go_simp; try with_reducible rfl) ?_
   simp only [Act.put, spa, spb, spc]
   refine tkq 9 70 rfl (by kernel_rfl) (by rfl) hHeld (fun _ _ _ h => h) (by intro w' hSw; go_simp; try with_reducible rfl) ?_
   simp only [Act.put, spa, spb, spc]
   refine tkq 10 11 rfl (by kernel_rfl) (by rfl) hHeld (fun _ _ _ h => h) (by intro w' hSw; go_simp; try with_reducible rfl) ?_
   simp only [Act.put, spa, spb, spc]
   refine tkq 11 12 rfl (by kernel_rfl) (by rfl) hHeld (fun _ _ _ h => h) (by intro w' hSw; go_simp; try with_reducible rfl) ?_
   simp only [Act.put, spa, spb, spc]
   refine wpAnyH_done (by kernel_rfl) ?_ _
   clear hHeld KS hwd BD BX SMY SCY HL1 HL2 HBM HBC HZ
   have B10 := Lib.hid (show Below w.heap.size w wy from Tch.below TY.out B9.out B9.out.size (fun i hi e => by have := HGS.out; omega))
   have O10 := Lib.hid (O9.out.tch TY.out (O9.out.ne_ OS9.out (by decide)))
   have X10 := Lib.hid (X9.out.tch TY.out (Ob.ne_ X9.out OS9.out (by decide)))
   have SMX10 := Lib.hid (sl_tch SMX9.out TY.out (fun a h e => by have h1 := HMX.out a h; have h2 := HGS.out; omega))
   have SCX10 := Lib.hid (sl_tch SCX9.out TY.out (fun a h e => by have h1 := HCX.out a h; have h2 := HGS.out; omega))
   clear TY B9 O9 X9 SMX9 SCX9 OS9
   go_upto_region 14 with fail
   have B11 := Lib.hid (below_alloc B10.out (.cells #[.int .u64 0, .int .u64 0, .int .u64 0, .int .u64 0, .int .u64 0, .int .u64 0, .int .u64 0, .int .u64 0, .int .u64 0, .int .u64 0, .int .u64 0, .int .u64 0, .int .u64 0, .int .u64 0, .int .u64 0, .int .u64 0] 43))
   have O11 := Lib.hid (O10.out.alloc (.cells #[.int .u64 0, .int .u64 0, .int .u64 0, .int .u64 0, .int .u64 0, .int .u64 0, .int .u64 0, .int .u64 0, .int .u64 0, .int .u64 0, .int .u64 0, .int .u64 0, .int .u64 0, .int .u64 0, .int .u64 0, .int .u64 0] 43))
   have C11 := Lib.hid (show Ob (wy.alloc (.cells #[.int .u64 0, .int .u64 0, .int .u64 0, .int .u64 0, .int .u64 0, .int .u64 0, .int .u64 0, .int .u64 0, .int .u64 0, .int .u64 0, .int .u64 0, .int .u64 0, .int .u64 0, .int .u64 0, .int .u64 0, .int .u64 0] 43)) wy.heap.size 43 (arr 16 Sc.zz) from Ob.fresh wy 43 (arr 16 Sc.zz))
   have X11 := Lib.hid (X10.out.below (below_alloc (Below.refl wy.heap.size wy) (.cells #[.int .u64 0, .int .u64 0, .int .u64 0, .int .u64 0, .int .u64 0, .int .u64 0, .int .u64 0, .int .u64 0, .int .u64 0, .int .u64 0, .int .u64 0, .int .u64 0, .int .u64 0, .int .u64 0, .int .u64 0, .int .u64 0] 43)))
   have M11 := Lib.hid (MY.out.alloc (.cells #[.int .u64 0, .int .u64 0, .int .u64 0, .int .u64 0, .int .u64 0, .int .u64 0, .int .u64 0, .int .u64 0, .int .u64 0, .int .u64 0, .int .u64 0, .int .u64 0, .int .u64 0, .int .u64 0, .int .u64 0, .int .u64 0] 43))
   have SM11 := Lib.hid (SMX10.out.alloc (.cells #[.int .u64 0, .int .u64 0, .int .u64 0, .int .u64 0, .int .u64 0, .int .u64 0, .int .u64 0, .int .u64 0, .int .u64 0, .int .u64 0, .int .u64 0, .int .u64 0, .int .u64 0, .int .u64 0, .int .u64 0, .int .u64 0] 43))
   have SC11 := Lib.hid (SCX10.out.alloc (.cells #[.int .u64 0, .int .u64 0, .int .u64 0, .int .u64 0, .int .u64 0, .int .u64 0, .int .u64 0, .int .u64 0, .int .u64 0, .int .u64 0, .int .u64 0, .int .u64 0, .int .u64 0, .int .u64 0, .int .u64 0, .int .u64 0] 43))
   have SN11 := Lib.hid (SMY2.out.alloc (.cells #[.int .u64 0, .int .u64 0, .int .u64 0, .int .u64 0, .int .u64 0, .int .u64 0, .int .u64 0, .int .u64 0, .int .u64 0, .int .u64 0, .int .u64 0, .int .u64 0, .int .u64 0, .int .u64 0, .int .u64 0, .int .u64 0] 43))
   have SD11 := Lib.hid (SCY2.out.alloc (.cells #[.int .u64 0, .int .u64 0, .int .u64 0, .int .u64 0, .int .u64 0, .int .u64 0, .int .u64 0, .int .u64 0, .int .u64 0, .int .u64 0, .int .u64 0, .int .u64 0, .int .u64 0, .int .u64 0, .int .u64 0, .int .u64 0] 43))
   have HGK := Lib.hid (show gy < wy.heap.size ∧ q1 < wy.heap.size from ⟨MY.out.o.lt, O10.out.lt⟩)
   clear B10 O10 X10 MY SMX10 SCX10 SMY2 SCY2
   generalize wy.alloc (.cells #[.int .u64 0, .int .u64 0, .int .u64 0, .int .u64 0, .int .u64 0, .int .u64 0, .int .u64 0, .int .u64 0, .int .u64 0, .int .u64 0, .int .u64 0, .int .u64 0, .int .u64 0, .int .u64 0, .int .u64 0, .int .u64 0] 43) = wl at B11 O11 C11 X11 M11 SM11 SC11 SN11 SD11 ⊢
   generalize wy.heap.size = gk at C11 HGK ⊢
   have EE := Lib.hid (show WEnv wl gx gy gs gk q1 mX cX mY cY rA ms l rs [.slice mA nm cm, .slice cA n c, .int .u64 (uv ea), .int .u64 (uv eb), .slice rA nr cr] from
    ⟨HT.out.below B11.out, SM11.out, SC11.out, SN11.out, SD11.out, HR.out.below B11.out, O11.out,
     fun e => by have h1 := HT.out.lt; have h2 := HGX.out; have h3 := HGS.out; have h4 := HGY.out; have h5 := HGK.out; rcases e with e | e | e | e <;> omega,
     fun e => by rcases e with e | e | e | e; exact (O11.out.ne_ X11.out (by decide)) e; exact (O11.out.ne_ M11.out.o (by decide)) e; exact (O11.out.ne_ M11.out.s (by decide)) e; exact (O11.out.ne_ C11.out (by decide)) e,
     fun a h e => by have h1 := HMX.out a h; have h3 := HGS.out; have h4 := HGY.out; have h5 := HGK.out; rcases e with e | e | e | e <;> omega,
     fun a h e => by have h1 := HCX.out a h; have h3 := HGS.out; have h4 := HGY.out; have h5 := HGK.out; rcases e with e | e | e | e <;> omega,
     fun a h e => by have h1 := HMY.out a h; have h3 := HGS.out; have h4 := HGY.out; have h5 := HGK.out; rcases e with e | e | e | e <;> omega,
     fun a h e => by have h1 := HCY.out a h; have h3 := HGS.out; have h4 := HGY.out; have h5 := HGK.out; rcases e with e | e | e | e <;> omega,
     fun z a h e => by have h1 := HRB.out z a h; have h2 := HGX.out; have h3 := HGS.out; have h4 := HGY.out; have h5 := HGK.out; rcases e with e | e | e | e <;> omega⟩)
   have W0 := Lib.hid (show WSt wl wl gx gy gs gk (.slice mX nm cmX) (.slice cX n ccX) (.slice mY nm cmY) (.slice cY n ccY) ea eb (st0 Sc.zz) (st0 Sc.zz) (st0 Sc.zz).counts from ⟨X11.out, M11.out, C11.out, Tch.refl _ _⟩)
   have HQ := Lib.hid (show ∀ i, i < w.heap.size → ¬ Tq gx gy gs gk i from fun i hi e => by have h2 := HGX.out; have h3 := HGS.out; have h4 := HGY.out; have h5 := HGK.out; rcases e with e | e | e | e <;> omega)
   have I0 := Lib.hid (Lw.inv_zero (S := st0 Sc.zz) HCI.out HTY.out rfl (fun _ => rfl))
   have P0 := Lib.hid (show Lw.pot l (st0 Sc.zz) ≤ MO by have := Lw.pot_cost HCI.out (st0 Sc.zz); have := HMO.out; omega)
   clear O11 C11 X11 M11 SM11 SC11 SN11 SD11 HMX HCX HMY HCY HGX HGS HGY HGK HRB HR HF HT HS HM HCP
   go_wp2_with fail
   go_loopw [14, 15] (fun u v wr => ∃ (k us : Nat) (S : StV), u = .int .i64 us ∧ us ≤ k ∧ v = .int .i64 k ∧ S.st = 0 ∧ S.steps = k ∧ Lw.Inv ms.length l T Mk S ∧ Lw.pot l S + k ≤ MO ∧ WSt wl wr gx gy gs gk (.slice mX nm cmX) (.slice cX n ccX) (.slice mY nm cmY) (.slice cY n ccY) ea eb S S S.counts) (fun _ v _ => MO - (intOf v).toNat)
   case atStart => exact ⟨0, 0, st0 Sc.zz, rfl, Nat.le_refl _, rfl, rfl, rfl, I0.out, P0.out, W0.out⟩
   case round =>
    obtain ⟨k, us, S, rfl, huk, rfl, hst, hss, hin, hpo, hw⟩ := hrel
    have HPP := Lw.pot_pos hin
    have hkM : k < MO := by omega
    have hMO : MO ≤ 256 := by have := HCI.out.co; have := HMO.out; omega
    have g1 : (k : Int) < (MO : Int) := by omega
    have g4 : wrap64 ((k : Int) + 1) = (k : Int) + 1 := by unfold wrap64; omega
    have HK := Lib.hid (And.intro huk (And.intro hkM (And.intro hMO hpo)))
    have HSS := Lib.hid (And.intro hst hss)
    have HIN := Lib.hid hin
    have WW := Lib.hid hw
    have SO := Lib.hid (Lw.step_ok H4.out HCI.out HTY.out hin)
    have HPC := Lib.hid (show S.pc < n ∧ n ≤ 64 by have h1 := hin.pc; have h2 := HN.out; have h3 := HCI.out.n1; omega)
    have HN4 := Lib.hid (show nm ≤ 4 by have := H4.out; have := HNM.out; omega)
    clear huk hst hss hin hpo hw hkM hMO HPP I0 P0 W0
    have HMK := Lib.hid (marks_any wr gx (.slice mX nm cmX) cX n ccX ea eb S l HN.out HPC.out.1 (EE.out.tch WW.out.t).cx WW.out.X)
    by_cases c22 : (l.getD S.pc ins0).op = 22
    · have FF := Lib.hid (end_run (ms := ms) ea eb HCI.out HIN.out.pc c22)
      have N5 := Lib.hid (show ¬ ((l.getD S.pc ins0).op = 21 ∧ (l.getD S.pc ins0).m = 5) from fun h => by omega)
      clear c22
      go_wp2_with fail
      refine HMK.out.mono ?_
      rintro e wa ⟨rfl, ba⟩
      rw [FF.out.mkV]
      have Wa := Lib.hid (WW.out.below ba)
      clear ba WW HMK
      have EA := Lib.hid (EE.out.tch Wa.out.t)
      have HST := Lib.hid (step_any wa gx ea eb mX cX nm cmX n ccX S ms l (0#64) HN.out HPC.out.2 HNM.out HN4.out HPC.out.1 SO.out.1 SO.out.2.1 SO.out.2.2.1 SO.out.2.2.2 (fun h1 h2 => absurd ⟨h1, h2⟩ N5.out) (fun p _ => HIN.out.t p) EA.out.sx (fun a h e => EA.out.nsx a h (.inl e)) EA.out.cx (fun a h e => EA.out.ncx a h (.inl e)) Wa.out.X)
      rw [show uv 0#64 = 0 from rfl] at HST
      obtain ⟨A, hA⟩ : ∃ A, stepA ms (l.getD S.pc ins0) S = A := ⟨_, rfl⟩
      rw [hA] at HST
      go_wp2_with fail
      refine HST.out.mono ?_
      rintro e wb ⟨rfl, xb, tb⟩
      have Wb := Lib.hid (Wa.out.stepX xb tb)
      clear xb tb HST EA Wa
      rw [show acVal A = .agg #[.int .i64 A.k, .int .i64 A.pc, .int .i64 A.mp, .int .i64 A.op, .int .u64 (uv A.key), .int .u64 (uv A.val), .int .u64 (uv A.v)] from rfl]
      go_upto_region 23 with fail
      have OA := Lib.hid (Ob.fresh wb 57 [.int .i64 A.k, .int .i64 A.pc, .int .i64 A.mp, .int .i64 A.op, .int .u64 (uv A.key), .int .u64 (uv A.val), .int .u64 (uv A.v)])
      have Wc := Lib.hid (Wb.out.alloc (.cells #[.int .i64 A.k, .int .i64 A.pc, .int .i64 A.mp, .int .i64 A.op, .int .u64 (uv A.key), .int .u64 (uv A.val), .int .u64 (uv A.v)] 57))
      clear Wb
      generalize wb.alloc (.cells #[.int .i64 A.k, .int .i64 A.pc, .int .i64 A.mp, .int .i64 A.op, .int .u64 (uv A.key), .int .u64 (uv A.val), .int .u64 (uv A.v)] 57) = wc at OA Wc ⊢
      generalize wb.heap.size = qa at OA ⊢
      have EC := Lib.hid (EE.out.tch Wc.out.t)
      have HSY := Lib.hid (En.step_any wc gy gs ea eb mY cY nm cmY n ccY S ms l HN.out HPC.out.2 HNM.out HSS.out.1 HPC.out.1 (by have h1 := HSS.out.2; have h2 := HK.out; omega) SO.out.1 SO.out.2.1 SO.out.2.2.1 SO.out.2.2.2 (fun p _ => HIN.out.t p) EC.out.tab (fun e => EC.out.nt (Tq.g e)) EC.out.sy (fun a h e => EC.out.nsy a h (Tq.g e)) EC.out.cy (fun a h e => EC.out.ncy a h (Tq.g e)) Wc.out.M)
      rw [hA] at HSY
      go_wp2_with fail
      refine HSY.out.mono ?_
      rintro e wd ⟨rfl, md, td⟩
      have OA2 := Lib.hid (OA.out.tch td (fun e => by rcases e with e | e; exact (OA.out.ne_ Wc.out.M.o (by decide)) e; exact (OA.out.ne_ Wc.out.M.s (by decide)) e))
      have Wd := Lib.hid (Wc.out.stepM md td)
      clear md td HSY EC Wc OA
      rw [show acVal A = .agg #[.int .i64 A.k, .int .i64 A.pc, .int .i64 A.mp, .int .i64 A.op, .int .u64 (uv A.key), .int .u64 (uv A.val), .int .u64 (uv A.v)] from rfl]
      go_upto_region 24 with fail
      have OB := Lib.hid (Ob.fresh wd 57 [.int .i64 A.k, .int .i64 A.pc, .int .i64 A.mp, .int .i64 A.op, .int .u64 (uv A.key), .int .u64 (uv A.val), .int .u64 (uv A.v)])
      have OA3 := Lib.hid (OA2.out.alloc (.cells #[.int .i64 A.k, .int .i64 A.pc, .int .i64 A.mp, .int .i64 A.op, .int .u64 (uv A.key), .int .u64 (uv A.val), .int .u64 (uv A.v)] 57))
      have We := Lib.hid (Wd.out.alloc (.cells #[.int .i64 A.k, .int .i64 A.pc, .int .i64 A.mp, .int .i64 A.op, .int .u64 (uv A.key), .int .u64 (uv A.val), .int .u64 (uv A.v)] 57))
      clear Wd OA2
      generalize wd.alloc (.cells #[.int .i64 A.k, .int .i64 A.pc, .int .i64 A.mp, .int .i64 A.op, .int .u64 (uv A.key), .int .u64 (uv A.val), .int .u64 (uv A.v)] 57) = we at OB OA3 We ⊢
      generalize wd.heap.size = qb at OB ⊢
      have a0 := OA3.out.c0
      have a1 := OA3.out.c1
      have a2 := OA3.out.c2
      have a3 := OA3.out.c3
      have a4 := OA3.out.c4
      have a5 := OA3.out.c5
      have a6 := OA3.out.c6
      have b0 := OB.out.c0
      have b1 := OB.out.c1
      have b2 := OB.out.c2
      have b3 := OB.out.c3
      have b4 := OB.out.c4
      have b5 := OB.out.c5
      have b6 := OB.out.c6
      have y93 : we.cell? ⟨gx, 93, none⟩ = some (.bool false) := We.out.X.bad
      have HA := Lib.hid hA
      have h4 : (A.k == 4) = true := by rw [← hA, FF.out.k4]; rfl
      clear hA
      have EZ := Lib.hid (EE.out.tch We.out.t)
      have HOV := Lib.hid (over_any we gy gs ea eb (.slice mY nm cmY) cY n ccY (stepS ea eb (l.getD S.pc ins0) S) l HN.out FF.out.st (by rw [FF.out.pc]; exact HPC.out.1) (by rw [FF.out.pc]; exact FF.out.a) EZ.out.cy We.out.M)
      rw [FF.out.pc, FF.out.rg, ← FF.out.v, HA.out] at HOV
      go_wp2_with fail
      refine HOV.out.mono ?_
      rintro e wf ⟨rfl, bf⟩
      have a6 : wf.cell? ⟨qa, 6, none⟩ = some (.int .u64 (uv A.v)) := keepS bf a6
      have Wf := Lib.hid (We.out.below bf)
      clear bf We HOV EZ a0 a1 a2 a3 a4 a5 b0 b1 b2 b3 b4 b5 b6 y93 h4
      have HSP := Lib.hid (steps_any wf gy gs ea eb (.slice mY nm cmY) (.slice cY n ccY) (stepS ea eb (l.getD S.pc ins0) S) Wf.out.M)
      rw [FF.out.ss, HSS.out.2] at HSP
      go_wp2_with fail
      refine HSP.out.mono ?_
      rintro e wg ⟨rfl, rfl⟩
      go_wp2_with fail
      go_ret
      exact ⟨by first | rfl | (rw [g4]; simp) | simp [g4], Tch.below Wf.out.t B11.out B11.out.size HQ.out⟩
    by_cases c21 : (l.getD S.pc ins0).op = 21
    · by_cases c5 : (l.getD S.pc ins0).m < 5
      · have FF := Lib.hid (ask_run ea eb HCI.out HTY.out HIN.out c21 c5)
        have N5 := Lib.hid (show ¬ ((l.getD S.pc ins0).op = 21 ∧ (l.getD S.pc ins0).m = 5) from fun h => by omega)
        clear c22 c21 c5
        go_wp2_with fail
        refine HMK.out.mono ?_
        rintro e wa ⟨rfl, ba⟩
        rw [FF.out.mkV]
        have Wa := Lib.hid (WW.out.below ba)
        clear ba WW HMK
        have EA := Lib.hid (EE.out.tch Wa.out.t)
        have HST := Lib.hid (step_any wa gx ea eb mX cX nm cmX n ccX S ms l (0#64) HN.out HPC.out.2 HNM.out HN4.out HPC.out.1 SO.out.1 SO.out.2.1 SO.out.2.2.1 SO.out.2.2.2 (fun h1 h2 => absurd ⟨h1, h2⟩ N5.out) (fun p _ => HIN.out.t p) EA.out.sx (fun a h e => EA.out.nsx a h (.inl e)) EA.out.cx (fun a h e => EA.out.ncx a h (.inl e)) Wa.out.X)
        rw [show uv 0#64 = 0 from rfl] at HST
        obtain ⟨A, hA⟩ : ∃ A, stepA ms (l.getD S.pc ins0) S = A := ⟨_, rfl⟩
        rw [hA] at HST
        go_wp2_with fail
        refine HST.out.mono ?_
        rintro e wb ⟨rfl, xb, tb⟩
        have Wb := Lib.hid (Wa.out.stepX xb tb)
        clear xb tb HST EA Wa
        rw [show acVal A = .agg #[.int .i64 A.k, .int .i64 A.pc, .int .i64 A.mp, .int .i64 A.op, .int .u64 (uv A.key), .int .u64 (uv A.val), .int .u64 (uv A.v)] from rfl]
        go_upto_region 23 with fail
        have OA := Lib.hid (Ob.fresh wb 57 [.int .i64 A.k, .int .i64 A.pc, .int .i64 A.mp, .int .i64 A.op, .int .u64 (uv A.key), .int .u64 (uv A.val), .int .u64 (uv A.v)])
        have Wc := Lib.hid (Wb.out.alloc (.cells #[.int .i64 A.k, .int .i64 A.pc, .int .i64 A.mp, .int .i64 A.op, .int .u64 (uv A.key), .int .u64 (uv A.val), .int .u64 (uv A.v)] 57))
        clear Wb
        generalize wb.alloc (.cells #[.int .i64 A.k, .int .i64 A.pc, .int .i64 A.mp, .int .i64 A.op, .int .u64 (uv A.key), .int .u64 (uv A.val), .int .u64 (uv A.v)] 57) = wc at OA Wc ⊢
        generalize wb.heap.size = qa at OA ⊢
        have EC := Lib.hid (EE.out.tch Wc.out.t)
        have HSY := Lib.hid (En.step_any wc gy gs ea eb mY cY nm cmY n ccY S ms l HN.out HPC.out.2 HNM.out HSS.out.1 HPC.out.1 (by have h1 := HSS.out.2; have h2 := HK.out; omega) SO.out.1 SO.out.2.1 SO.out.2.2.1 SO.out.2.2.2 (fun p _ => HIN.out.t p) EC.out.tab (fun e => EC.out.nt (Tq.g e)) EC.out.sy (fun a h e => EC.out.nsy a h (Tq.g e)) EC.out.cy (fun a h e => EC.out.ncy a h (Tq.g e)) Wc.out.M)
        rw [hA] at HSY
        go_wp2_with fail
        refine HSY.out.mono ?_
        rintro e wd ⟨rfl, md, td⟩
        have OA2 := Lib.hid (OA.out.tch td (fun e => by rcases e with e | e; exact (OA.out.ne_ Wc.out.M.o (by decide)) e; exact (OA.out.ne_ Wc.out.M.s (by decide)) e))
        have Wd := Lib.hid (Wc.out.stepM md td)
        clear md td HSY EC Wc OA
        rw [show acVal A = .agg #[.int .i64 A.k, .int .i64 A.pc, .int .i64 A.mp, .int .i64 A.op, .int .u64 (uv A.key), .int .u64 (uv A.val), .int .u64 (uv A.v)] from rfl]
        go_upto_region 24 with fail
        have OB := Lib.hid (Ob.fresh wd 57 [.int .i64 A.k, .int .i64 A.pc, .int .i64 A.mp, .int .i64 A.op, .int .u64 (uv A.key), .int .u64 (uv A.val), .int .u64 (uv A.v)])
        have OA3 := Lib.hid (OA2.out.alloc (.cells #[.int .i64 A.k, .int .i64 A.pc, .int .i64 A.mp, .int .i64 A.op, .int .u64 (uv A.key), .int .u64 (uv A.val), .int .u64 (uv A.v)] 57))
        have We := Lib.hid (Wd.out.alloc (.cells #[.int .i64 A.k, .int .i64 A.pc, .int .i64 A.mp, .int .i64 A.op, .int .u64 (uv A.key), .int .u64 (uv A.val), .int .u64 (uv A.v)] 57))
        clear Wd OA2
        generalize wd.alloc (.cells #[.int .i64 A.k, .int .i64 A.pc, .int .i64 A.mp, .int .i64 A.op, .int .u64 (uv A.key), .int .u64 (uv A.val), .int .u64 (uv A.v)] 57) = we at OB OA3 We ⊢
        generalize wd.heap.size = qb at OB ⊢
        have a0 := OA3.out.c0
        have a1 := OA3.out.c1
        have a2 := OA3.out.c2
        have a3 := OA3.out.c3
        have a4 := OA3.out.c4
        have a5 := OA3.out.c5
        have a6 := OA3.out.c6
        have b0 := OB.out.c0
        have b1 := OB.out.c1
        have b2 := OB.out.c2
        have b3 := OB.out.c3
        have b4 := OB.out.c4
        have b5 := OB.out.c5
        have b6 := OB.out.c6
        have y93 : we.cell? ⟨gx, 93, none⟩ = some (.bool false) := We.out.X.bad
        have HA := Lib.hid hA
        have h4 : (A.k == 4) = false := by rw [← hA, FF.out.k2]; rfl
        have h2 : (A.k == 2) = true := by rw [← hA, FF.out.k2]; rfl
        clear hA
        go_upto_region 31 with fail
        clear h4 h2 a0 a1 a2 a3 a4 a5 a6 b0 b1 b2 b3 b4 b5 b6 y93 OA3 OB HA
        have OR := Lib.hid (Ob.fresh we 64 [.int .i64 0, .bool ((k : Int) % 2 == 0), .int .u64 (IntKind.u64.wrap (IntKind.u64.wrap (k : Int) * 3)), .bool false, .int .u64 0, .int .u64 0])
        have Wf := Lib.hid (We.out.alloc (.cells #[.int .i64 0, .bool ((k : Int) % 2 == 0), .int .u64 (IntKind.u64.wrap (IntKind.u64.wrap (k : Int) * 3)), .bool false, .int .u64 0, .int .u64 0] 64))
        have We_ := We
        clear We
        generalize we.alloc (.cells #[.int .i64 0, .bool ((k : Int) % 2 == 0), .int .u64 (IntKind.u64.wrap (IntKind.u64.wrap (k : Int) * 3)), .bool false, .int .u64 0, .int .u64 0] 64) = wf at OR Wf ⊢
        have HNQ := Lib.hid (show ¬ (we.heap.size = gx ∨ we.heap.size = gy ∨ we.heap.size = gs ∨ we.heap.size = gk) ∧ wl.heap.size ≤ we.heap.size from ⟨fun e => by have h1 := Ob.lt We_.out.X; have h2 := We_.out.M.o.lt; have h3 := We_.out.M.s.lt; have h4 := We_.out.C.lt; omega, We_.out.t.size⟩)
        clear We_
        generalize we.heap.size = qr at OR HNQ ⊢
        have EF := Lib.hid (EE.out.tch Wf.out.t)
        have m4 : wf.cell? ⟨q1, 4, none⟩ = some (.slice rA nr cr) := EF.out.o1.cell 4
        have gu4 : wrap64 ((us : Int) + 1) = (us : Int) + 1 := by have := HK.out; unfold wrap64; omega
        by_cases hu : us < nr
        · have gu : (us : Int) < (nr : Int) := by omega
          have gu0 : (0 : Int) ≤ (us : Int) := by omega
          obtain ⟨br, or_, hrA, hrc⟩ := rec_at EF.out.sr (by have := HNR.out; omega)
          have hrr := hrc us (by have := HNR.out; omega)
          have HRK := Lib.hid (show ResOk (rs.getD us re0) from HRO.out _ (by rw [List.getD_eq_getElem?_getD, List.getElem?_eq_getElem (by have := HNR.out; omega)]; exact List.getElem_mem _))
          clear hrc hu
          generalize rs.getD us re0 = r at hrr HRK
          obtain ⟨re, rf, rv, ro, rk, rw_⟩ := r
          dsimp only at hrr
          obtain ⟨x0, x1, x2, x3, x4, x5⟩ := hrr
          rw [hrA] at m4
          clear hrA
          have z0 := OR.out.c0
          have z1 := OR.out.c1
          have z2 := OR.out.c2
          have z3 := OR.out.c3
          have z4 := OR.out.c4
          have z5 := OR.out.c5
          have zf : ∀ x, wf.frozen? ⟨qr, x, none⟩ = false := OR.out.frozen
          go_upto_region 33 with fail
          clear z0 z1 z2 z3 z4 z5 zf x0 x1 x2 x3 x4 x5 m4 EF
          have OQ := Lib.hid (show Ob ((((((wf.setCell ⟨qr, 0, none⟩ (.int .i64 re)).setCell ⟨qr, 1, none⟩ (.bool rf)).setCell ⟨qr, 2, none⟩ (.int .u64 rv)).setCell ⟨qr, 3, none⟩ (.bool ro)).setCell ⟨qr, 4, none⟩ (.int .u64 rk)).setCell ⟨qr, 5, none⟩ (.int .u64 rw_)) qr 64 (rec_ ⟨re, rf, rv, ro, rk, rw_⟩) from (((((OR.out.set_ 0 _).set_ 1 _).set_ 2 _).set_ 3 _).set_ 4 _).set_ 5 _)
          have Wq := Lib.hid (show WSt wl ((((((wf.setCell ⟨qr, 0, none⟩ (.int .i64 re)).setCell ⟨qr, 1, none⟩ (.bool rf)).setCell ⟨qr, 2, none⟩ (.int .u64 rv)).setCell ⟨qr, 3, none⟩ (.bool ro)).setCell ⟨qr, 4, none⟩ (.int .u64 rk)).setCell ⟨qr, 5, none⟩ (.int .u64 rw_)) gx gy gs gk (.slice mX nm cmX) (.slice cX n ccX) (.slice mY nm cmY) (.slice cY n ccY) ea eb (stepS ea eb (l.getD S.pc ins0) S) (stepS ea eb (l.getD S.pc ins0) S) S.counts from (WSt.away (WSt.away (WSt.away (WSt.away (WSt.away (WSt.away Wf.out HNQ.out (p := ⟨qr, 0, none⟩) rfl _) HNQ.out (p := ⟨qr, 1, none⟩) rfl _) HNQ.out (p := ⟨qr, 2, none⟩) rfl _) HNQ.out (p := ⟨qr, 3, none⟩) rfl _) HNQ.out (p := ⟨qr, 4, none⟩) rfl _) HNQ.out (p := ⟨qr, 5, none⟩) rfl _))
          clear OR Wf
          generalize ((((((wf.setCell ⟨qr, 0, none⟩ (.int .i64 re)).setCell ⟨qr, 1, none⟩ (.bool rf)).setCell ⟨qr, 2, none⟩ (.int .u64 rv)).setCell ⟨qr, 3, none⟩ (.bool ro)).setCell ⟨qr, 4, none⟩ (.int .u64 rk)).setCell ⟨qr, 5, none⟩ (.int .u64 rw_)) = wq at OQ Wq ⊢
          have HBK := Lib.hid (back_any wq gx (.slice mX nm cmX) cX n ccX ea eb (stepS ea eb (l.getD S.pc ins0) S) l ⟨re, rf, rv, ro, rk, rw_⟩ HN.out HPC.out.2 (by rw [FF.out.pc]; exact HPC.out.1) HRK.out (by rw [FF.out.pc]; exact FF.out.m0) (by rw [FF.out.pc]; exact FF.out.m5) (EE.out.tch Wq.out.t).cx (fun a h e => EE.out.ncx a h (.inl e)) Wq.out.X)
          rw [FF.out.pc] at HBK
          unfold reVal at HBK
          dsimp only at HBK
          have z0 := OQ.out.c0
          have z1 := OQ.out.c1
          have z2 := OQ.out.c2
          have z3 := OQ.out.c3
          have z4 := OQ.out.c4
          have z5 := OQ.out.c5
          go_wp2_with fail
          refine HBK.out.mono ?_
          rintro e wg ⟨rfl, xg, tg⟩
          have OR2 := Lib.hid (OQ.out.tch tg (fun e => Ob.ne_ Wq.out.X OQ.out (by decide) e.symm))
          have Wg := Lib.hid (Wq.out.stepX xg tg)
          clear xg tg HBK z0 z1 z2 z3 z4 z5
          have HAN := Lib.hid (answer_any wg gy gs ea eb (.slice mY nm cmY) cY n ccY (stepS ea eb (l.getD S.pc ins0) S) l ⟨re, rf, rv, ro, rk, rw_⟩ HN.out HPC.out.2 FF.out.st (by rw [FF.out.pc]; exact HPC.out.1) HRK.out (EE.out.tch Wg.out.t).cy (fun a h e => EE.out.ncy a h (Tq.g e)) Wg.out.M)
          rw [FF.out.pc] at HAN
          unfold reVal at HAN
          dsimp only at HAN
          have z0 := OR2.out.c0
          have z1 := OR2.out.c1
          have z2 := OR2.out.c2
          have z3 := OR2.out.c3
          have z4 := OR2.out.c4
          have z5 := OR2.out.c5
          go_wp2_with fail
          refine HAN.out.mono ?_
          rintro e wh ⟨rfl, mh, th⟩
          have Wh := Lib.hid (Wg.out.stepM mh th)
          clear mh th HAN z0 z1 z2 z3 z4 z5 OR2 Wg
          go_wp2_with fail
          go_roundw
          case rel => exact ⟨k + 1, us + 1, (ansS (l.getD S.pc ins0) ⟨re, rf, rv, ro, rk, rw_⟩ (stepS ea eb (l.getD S.pc ins0) S)), by first | rfl | exact congrArg (Value.int .i64) (gu4.trans (by push_cast; rfl)), by have := HK.out; omega, by first | exact congrArg (Value.int .i64) (g4.trans (by push_cast; rfl)) | go_num, rfl, by rw [FF.out.ss, HSS.out.2]; push_cast; rfl, FF.out.iv _, by have h1 := HK.out; have h2 := FF.out.po ⟨re, rf, rv, ro, rk, rw_⟩; omega, Wh.out.ext rfl rfl (FF.out.ks _).symm⟩
          case measure => first | (have := HK.out; rw [g4]; simp [intOf]; omega) | (have := HK.out; simp [intOf]; omega)
        have gu : ¬ (us : Int) < (nr : Int) := by omega
        have HRK := Lib.hid (show ResOk ⟨0, ((k : Int) % 2 == 0), IntKind.u64.wrap (IntKind.u64.wrap (k : Int) * 3), false, 0, 0⟩ from ⟨ofI (IntKind.u64.wrap (k : Int) * 3), wrapu _⟩)
        clear hu
        go_upto_region 33 with fail
        clear m4 EF
        have HBK := Lib.hid (back_any wf gx (.slice mX nm cmX) cX n ccX ea eb (stepS ea eb (l.getD S.pc ins0) S) l ⟨0, ((k : Int) % 2 == 0), IntKind.u64.wrap (IntKind.u64.wrap (k : Int) * 3), false, 0, 0⟩ HN.out HPC.out.2 (by rw [FF.out.pc]; exact HPC.out.1) HRK.out (by rw [FF.out.pc]; exact FF.out.m0) (by rw [FF.out.pc]; exact FF.out.m5) (EE.out.tch Wf.out.t).cx (fun a h e => EE.out.ncx a h (.inl e)) Wf.out.X)
        rw [FF.out.pc] at HBK
        unfold reVal at HBK
        dsimp only at HBK
        have z0 := OR.out.c0
        have z1 := OR.out.c1
        have z2 := OR.out.c2
        have z3 := OR.out.c3
        have z4 := OR.out.c4
        have z5 := OR.out.c5
        go_wp2_with fail
        refine HBK.out.mono ?_
        rintro e wg ⟨rfl, xg, tg⟩
        have OR2 := Lib.hid (OR.out.tch tg (fun e => Ob.ne_ Wf.out.X OR.out (by decide) e.symm))
        have Wg := Lib.hid (Wf.out.stepX xg tg)
        clear xg tg HBK z0 z1 z2 z3 z4 z5
        have HAN := Lib.hid (answer_any wg gy gs ea eb (.slice mY nm cmY) cY n ccY (stepS ea eb (l.getD S.pc ins0) S) l ⟨0, ((k : Int) % 2 == 0), IntKind.u64.wrap (IntKind.u64.wrap (k : Int) * 3), false, 0, 0⟩ HN.out HPC.out.2 FF.out.st (by rw [FF.out.pc]; exact HPC.out.1) HRK.out (EE.out.tch Wg.out.t).cy (fun a h e => EE.out.ncy a h (Tq.g e)) Wg.out.M)
        rw [FF.out.pc] at HAN
        unfold reVal at HAN
        dsimp only at HAN
        have z0 := OR2.out.c0
        have z1 := OR2.out.c1
        have z2 := OR2.out.c2
        have z3 := OR2.out.c3
        have z4 := OR2.out.c4
        have z5 := OR2.out.c5
        go_wp2_with fail
        refine HAN.out.mono ?_
        rintro e wh ⟨rfl, mh, th⟩
        have Wh := Lib.hid (Wg.out.stepM mh th)
        clear mh th HAN z0 z1 z2 z3 z4 z5 OR2 Wg
        go_wp2_with fail
        go_roundw
        case rel => exact ⟨k + 1, us + 1, (ansS (l.getD S.pc ins0) ⟨0, ((k : Int) % 2 == 0), IntKind.u64.wrap (IntKind.u64.wrap (k : Int) * 3), false, 0, 0⟩ (stepS ea eb (l.getD S.pc ins0) S)), by first | rfl | exact congrArg (Value.int .i64) (gu4.trans (by push_cast; rfl)), by have := HK.out; omega, by first | exact congrArg (Value.int .i64) (g4.trans (by push_cast; rfl)) | go_num, rfl, by rw [FF.out.ss, HSS.out.2]; push_cast; rfl, FF.out.iv _, by have h1 := HK.out; have h2 := FF.out.po ⟨0, ((k : Int) % 2 == 0), IntKind.u64.wrap (IntKind.u64.wrap (k : Int) * 3), false, 0, 0⟩; omega, Wh.out.ext rfl rfl (FF.out.ks _).symm⟩
        case measure => first | (have := HK.out; rw [g4]; simp [intOf]; omega) | (have := HK.out; simp [intOf]; omega)
      by_cases c6 : (l.getD S.pc ins0).m = 5
      · have FF := Lib.hid (on_mark ea eb HCI.out HTY.out HIN.out HSS.out.1 c21 c6)
        have H16 := Lib.hid ((SO.out.2.2.1 c21).2 c6)
        clear c22 c21 c5
        obtain ⟨j, hj⟩ : ∃ j, (S.regs 1).toNat = j := ⟨_, rfl⟩
        have HJE := Lib.hid hj
        have HUJ := Lib.hid (show uv (S.regs 1) = (j : Int) by unfold uv; rw [hj])
        rw [hj] at H16
        have gj16 : (j : Int) < 16 := by have := H16.out; omega
        have gj0 : (0 : Int) ≤ (j : Int) := by omega
        have gj15 : (j : Int) ≤ 15 := by omega
        have gj15' : decide ((j : Int) ≤ 15) = true := decide_eq_true gj15
        have gjn : decide (j ≤ 15) = true := decide_eq_true (by omega)
        clear hj
        go_wp2_with fail
        refine HMK.out.mono ?_
        rintro e wa ⟨rfl, ba⟩
        rw [FF.out.mkV]
        have Wa := Lib.hid (WW.out.below ba)
        clear ba WW HMK
        have y5 : wa.cell? ⟨gx, 4 + 1, none⟩ = some (.int .u64 (j : Int)) := by rw [← HUJ.out]; exact Wa.out.X.reg (r := 1) (by omega)
        have z0 : wa.cell? ⟨gk, j, none⟩ = some (.int .u64 (uv (S.counts j))) := Wa.out.count H16.out
        have zf : ∀ x, wa.frozen? ⟨gk, x, none⟩ = false := Wa.out.C.frozen
        go_upto_region 21 with fail
        try rw [uv_add1]
        have Wk := Lib.hid (Wa.out.setC j (S.counts j + 1#64))
        clear Wa y5 z0 zf
        generalize wa.setCell ⟨gk, j, none⟩ (.int .u64 (uv (S.counts j + 1#64))) = wk at Wk ⊢
        have y5 : wk.cell? ⟨gx, 4 + 1, none⟩ = some (.int .u64 (j : Int)) := by rw [← HUJ.out]; exact Wk.out.X.reg (r := 1) (by omega)
        have z0 : wk.cell? ⟨gk, j, none⟩ = some (.int .u64 (uv (S.counts j + 1#64))) := by rw [Wk.out.count H16.out]; unfold upd; rw [if_pos rfl]
        have EA := Lib.hid (EE.out.tch Wk.out.t)
        have HST := Lib.hid (step_any wk gx ea eb mX cX nm cmX n ccX S ms l (S.counts j + 1#64) HN.out HPC.out.2 HNM.out HN4.out HPC.out.1 SO.out.1 SO.out.2.1 SO.out.2.2.1 SO.out.2.2.2 (fun _ _ => by rw [HJE.out]) (fun p _ => HIN.out.t p) EA.out.sx (fun a h e => EA.out.nsx a h (.inl e)) EA.out.cx (fun a h e => EA.out.ncx a h (.inl e)) Wk.out.X)
        obtain ⟨A, hA⟩ : ∃ A, stepA ms (l.getD S.pc ins0) S = A := ⟨_, rfl⟩
        rw [hA] at HST
        go_wp2_with fail
        clear y5 z0
        refine HST.out.mono ?_
        rintro e wb ⟨rfl, xb, tb⟩
        have Wb := Lib.hid (Wk.out.stepX xb tb)
        clear xb tb HST EA Wk
        rw [show acVal A = .agg #[.int .i64 A.k, .int .i64 A.pc, .int .i64 A.mp, .int .i64 A.op, .int .u64 (uv A.key), .int .u64 (uv A.val), .int .u64 (uv A.v)] from rfl]
        go_upto_region 23 with fail
        have OA := Lib.hid (Ob.fresh wb 57 [.int .i64 A.k, .int .i64 A.pc, .int .i64 A.mp, .int .i64 A.op, .int .u64 (uv A.key), .int .u64 (uv A.val), .int .u64 (uv A.v)])
        have Wc := Lib.hid (Wb.out.alloc (.cells #[.int .i64 A.k, .int .i64 A.pc, .int .i64 A.mp, .int .i64 A.op, .int .u64 (uv A.key), .int .u64 (uv A.val), .int .u64 (uv A.v)] 57))
        clear Wb
        generalize wb.alloc (.cells #[.int .i64 A.k, .int .i64 A.pc, .int .i64 A.mp, .int .i64 A.op, .int .u64 (uv A.key), .int .u64 (uv A.val), .int .u64 (uv A.v)] 57) = wc at OA Wc ⊢
        generalize wb.heap.size = qa at OA ⊢
        have EC := Lib.hid (EE.out.tch Wc.out.t)
        have HSY := Lib.hid (En.step_any wc gy gs ea eb mY cY nm cmY n ccY S ms l HN.out HPC.out.2 HNM.out HSS.out.1 HPC.out.1 (by have h1 := HSS.out.2; have h2 := HK.out; omega) SO.out.1 SO.out.2.1 SO.out.2.2.1 SO.out.2.2.2 (fun p _ => HIN.out.t p) EC.out.tab (fun e => EC.out.nt (Tq.g e)) EC.out.sy (fun a h e => EC.out.nsy a h (Tq.g e)) EC.out.cy (fun a h e => EC.out.ncy a h (Tq.g e)) Wc.out.M)
        rw [hA] at HSY
        go_wp2_with fail
        refine HSY.out.mono ?_
        rintro e wd ⟨rfl, md, td⟩
        have OA2 := Lib.hid (OA.out.tch td (fun e => by rcases e with e | e; exact (OA.out.ne_ Wc.out.M.o (by decide)) e; exact (OA.out.ne_ Wc.out.M.s (by decide)) e))
        have Wd := Lib.hid (Wc.out.stepM md td)
        clear md td HSY EC Wc OA
        rw [show acVal A = .agg #[.int .i64 A.k, .int .i64 A.pc, .int .i64 A.mp, .int .i64 A.op, .int .u64 (uv A.key), .int .u64 (uv A.val), .int .u64 (uv A.v)] from rfl]
        go_upto_region 24 with fail
        have OB := Lib.hid (Ob.fresh wd 57 [.int .i64 A.k, .int .i64 A.pc, .int .i64 A.mp, .int .i64 A.op, .int .u64 (uv A.key), .int .u64 (uv A.val), .int .u64 (uv A.v)])
        have OA3 := Lib.hid (OA2.out.alloc (.cells #[.int .i64 A.k, .int .i64 A.pc, .int .i64 A.mp, .int .i64 A.op, .int .u64 (uv A.key), .int .u64 (uv A.val), .int .u64 (uv A.v)] 57))
        have We := Lib.hid (Wd.out.alloc (.cells #[.int .i64 A.k, .int .i64 A.pc, .int .i64 A.mp, .int .i64 A.op, .int .u64 (uv A.key), .int .u64 (uv A.val), .int .u64 (uv A.v)] 57))
        clear Wd OA2
        generalize wd.alloc (.cells #[.int .i64 A.k, .int .i64 A.pc, .int .i64 A.mp, .int .i64 A.op, .int .u64 (uv A.key), .int .u64 (uv A.val), .int .u64 (uv A.v)] 57) = we at OB OA3 We ⊢
        generalize wd.heap.size = qb at OB ⊢
        have a0 := OA3.out.c0
        have a1 := OA3.out.c1
        have a2 := OA3.out.c2
        have a3 := OA3.out.c3
        have a4 := OA3.out.c4
        have a5 := OA3.out.c5
        have a6 := OA3.out.c6
        have b0 := OB.out.c0
        have b1 := OB.out.c1
        have b2 := OB.out.c2
        have b3 := OB.out.c3
        have b4 := OB.out.c4
        have b5 := OB.out.c5
        have b6 := OB.out.c6
        have y93 : we.cell? ⟨gx, 93, none⟩ = some (.bool false) := We.out.X.bad
        have HA := Lib.hid hA
        have h4 : (A.k == 4) = false := by rw [← hA]; exact FF.out.k4
        have h2 : (A.k == 2) = false := by rw [← hA]; exact FF.out.k2
        clear hA
        go_wp2_with fail
        go_roundw
        case rel => exact ⟨k + 1, us, (stepS ea eb (l.getD S.pc ins0) S), by first | rfl | exact congrArg (Value.int .i64) rfl, by have := HK.out; omega, by first | exact congrArg (Value.int .i64) (g4.trans (by push_cast; rfl)) | go_num, FF.out.st, by rw [FF.out.ss, HSS.out.2]; push_cast; rfl, FF.out.iv, by have h1 := HK.out; have h2 := FF.out.po; omega, We.out.ext rfl rfl (by rw [FF.out.ks, HJE.out])⟩
        case measure => first | (have := HK.out; rw [g4]; simp [intOf]; omega) | (have := HK.out; simp [intOf]; omega)
      have FF := Lib.hid (on_note ea eb HCI.out HTY.out HIN.out HSS.out.1 c21 c5 c6)
      have N5 := Lib.hid (show ¬ ((l.getD S.pc ins0).op = 21 ∧ (l.getD S.pc ins0).m = 5) from fun h => c6 h.2)
      clear c22 c21 c5 c6
      go_wp2_with fail
      refine HMK.out.mono ?_
      rintro e wa ⟨rfl, ba⟩
      rw [FF.out.mkV]
      have Wa := Lib.hid (WW.out.below ba)
      clear ba WW HMK
      have EA := Lib.hid (EE.out.tch Wa.out.t)
      have HST := Lib.hid (step_any wa gx ea eb mX cX nm cmX n ccX S ms l (0#64) HN.out HPC.out.2 HNM.out HN4.out HPC.out.1 SO.out.1 SO.out.2.1 SO.out.2.2.1 SO.out.2.2.2 (fun h1 h2 => absurd ⟨h1, h2⟩ N5.out) (fun p _ => HIN.out.t p) EA.out.sx (fun a h e => EA.out.nsx a h (.inl e)) EA.out.cx (fun a h e => EA.out.ncx a h (.inl e)) Wa.out.X)
      rw [show uv 0#64 = 0 from rfl] at HST
      obtain ⟨A, hA⟩ : ∃ A, stepA ms (l.getD S.pc ins0) S = A := ⟨_, rfl⟩
      rw [hA] at HST
      go_wp2_with fail
      refine HST.out.mono ?_
      rintro e wb ⟨rfl, xb, tb⟩
      have Wb := Lib.hid (Wa.out.stepX xb tb)
      clear xb tb HST EA Wa
      rw [show acVal A = .agg #[.int .i64 A.k, .int .i64 A.pc, .int .i64 A.mp, .int .i64 A.op, .int .u64 (uv A.key), .int .u64 (uv A.val), .int .u64 (uv A.v)] from rfl]
      go_upto_region 23 with fail
      have OA := Lib.hid (Ob.fresh wb 57 [.int .i64 A.k, .int .i64 A.pc, .int .i64 A.mp, .int .i64 A.op, .int .u64 (uv A.key), .int .u64 (uv A.val), .int .u64 (uv A.v)])
      have Wc := Lib.hid (Wb.out.alloc (.cells #[.int .i64 A.k, .int .i64 A.pc, .int .i64 A.mp, .int .i64 A.op, .int .u64 (uv A.key), .int .u64 (uv A.val), .int .u64 (uv A.v)] 57))
      clear Wb
      generalize wb.alloc (.cells #[.int .i64 A.k, .int .i64 A.pc, .int .i64 A.mp, .int .i64 A.op, .int .u64 (uv A.key), .int .u64 (uv A.val), .int .u64 (uv A.v)] 57) = wc at OA Wc ⊢
      generalize wb.heap.size = qa at OA ⊢
      have EC := Lib.hid (EE.out.tch Wc.out.t)
      have HSY := Lib.hid (En.step_any wc gy gs ea eb mY cY nm cmY n ccY S ms l HN.out HPC.out.2 HNM.out HSS.out.1 HPC.out.1 (by have h1 := HSS.out.2; have h2 := HK.out; omega) SO.out.1 SO.out.2.1 SO.out.2.2.1 SO.out.2.2.2 (fun p _ => HIN.out.t p) EC.out.tab (fun e => EC.out.nt (Tq.g e)) EC.out.sy (fun a h e => EC.out.nsy a h (Tq.g e)) EC.out.cy (fun a h e => EC.out.ncy a h (Tq.g e)) Wc.out.M)
      rw [hA] at HSY
      go_wp2_with fail
      refine HSY.out.mono ?_
      rintro e wd ⟨rfl, md, td⟩
      have OA2 := Lib.hid (OA.out.tch td (fun e => by rcases e with e | e; exact (OA.out.ne_ Wc.out.M.o (by decide)) e; exact (OA.out.ne_ Wc.out.M.s (by decide)) e))
      have Wd := Lib.hid (Wc.out.stepM md td)
      clear md td HSY EC Wc OA
      rw [show acVal A = .agg #[.int .i64 A.k, .int .i64 A.pc, .int .i64 A.mp, .int .i64 A.op, .int .u64 (uv A.key), .int .u64 (uv A.val), .int .u64 (uv A.v)] from rfl]
      go_upto_region 24 with fail
      have OB := Lib.hid (Ob.fresh wd 57 [.int .i64 A.k, .int .i64 A.pc, .int .i64 A.mp, .int .i64 A.op, .int .u64 (uv A.key), .int .u64 (uv A.val), .int .u64 (uv A.v)])
      have OA3 := Lib.hid (OA2.out.alloc (.cells #[.int .i64 A.k, .int .i64 A.pc, .int .i64 A.mp, .int .i64 A.op, .int .u64 (uv A.key), .int .u64 (uv A.val), .int .u64 (uv A.v)] 57))
      have We := Lib.hid (Wd.out.alloc (.cells #[.int .i64 A.k, .int .i64 A.pc, .int .i64 A.mp, .int .i64 A.op, .int .u64 (uv A.key), .int .u64 (uv A.val), .int .u64 (uv A.v)] 57))
      clear Wd OA2
      generalize wd.alloc (.cells #[.int .i64 A.k, .int .i64 A.pc, .int .i64 A.mp, .int .i64 A.op, .int .u64 (uv A.key), .int .u64 (uv A.val), .int .u64 (uv A.v)] 57) = we at OB OA3 We ⊢
      generalize wd.heap.size = qb at OB ⊢
      have a0 := OA3.out.c0
      have a1 := OA3.out.c1
      have a2 := OA3.out.c2
      have a3 := OA3.out.c3
      have a4 := OA3.out.c4
      have a5 := OA3.out.c5
      have a6 := OA3.out.c6
      have b0 := OB.out.c0
      have b1 := OB.out.c1
      have b2 := OB.out.c2
      have b3 := OB.out.c3
      have b4 := OB.out.c4
      have b5 := OB.out.c5
      have b6 := OB.out.c6
      have y93 : we.cell? ⟨gx, 93, none⟩ = some (.bool false) := We.out.X.bad
      have HA := Lib.hid hA
      have h4 : (A.k == 4) = false := by rw [← hA]; exact FF.out.k4
      have h2 : (A.k == 2) = false := by rw [← hA]; exact FF.out.k2
      clear hA
      go_wp2_with fail
      go_roundw
      case rel => exact ⟨k + 1, us, (stepS ea eb (l.getD S.pc ins0) S), by first | rfl | exact congrArg (Value.int .i64) rfl, by have := HK.out; omega, by first | exact congrArg (Value.int .i64) (g4.trans (by push_cast; rfl)) | go_num, FF.out.st, by rw [FF.out.ss, HSS.out.2]; push_cast; rfl, FF.out.iv, by have h1 := HK.out; have h2 := FF.out.po; omega, We.out.ext rfl rfl FF.out.ks.symm⟩
      case measure => first | (have := HK.out; rw [g4]; simp [intOf]; omega) | (have := HK.out; simp [intOf]; omega)
    have FF := Lib.hid (on_run ea eb HCI.out HTY.out HIN.out HSS.out.1 c22 c21)
    have N5 := Lib.hid (show ¬ ((l.getD S.pc ins0).op = 21 ∧ (l.getD S.pc ins0).m = 5) from fun h => c21 h.1)
    clear c22 c21
    go_wp2_with fail
    refine HMK.out.mono ?_
    rintro e wa ⟨rfl, ba⟩
    rw [FF.out.mkV]
    have Wa := Lib.hid (WW.out.below ba)
    clear ba WW HMK
    have EA := Lib.hid (EE.out.tch Wa.out.t)
    have HST := Lib.hid (step_any wa gx ea eb mX cX nm cmX n ccX S ms l (0#64) HN.out HPC.out.2 HNM.out HN4.out HPC.out.1 SO.out.1 SO.out.2.1 SO.out.2.2.1 SO.out.2.2.2 (fun h1 h2 => absurd ⟨h1, h2⟩ N5.out) (fun p _ => HIN.out.t p) EA.out.sx (fun a h e => EA.out.nsx a h (.inl e)) EA.out.cx (fun a h e => EA.out.ncx a h (.inl e)) Wa.out.X)
    rw [show uv 0#64 = 0 from rfl] at HST
    obtain ⟨A, hA⟩ : ∃ A, stepA ms (l.getD S.pc ins0) S = A := ⟨_, rfl⟩
    rw [hA] at HST
    go_wp2_with fail
    refine HST.out.mono ?_
    rintro e wb ⟨rfl, xb, tb⟩
    have Wb := Lib.hid (Wa.out.stepX xb tb)
    clear xb tb HST EA Wa
    rw [show acVal A = .agg #[.int .i64 A.k, .int .i64 A.pc, .int .i64 A.mp, .int .i64 A.op, .int .u64 (uv A.key), .int .u64 (uv A.val), .int .u64 (uv A.v)] from rfl]
    go_upto_region 23 with fail
    have OA := Lib.hid (Ob.fresh wb 57 [.int .i64 A.k, .int .i64 A.pc, .int .i64 A.mp, .int .i64 A.op, .int .u64 (uv A.key), .int .u64 (uv A.val), .int .u64 (uv A.v)])
    have Wc := Lib.hid (Wb.out.alloc (.cells #[.int .i64 A.k, .int .i64 A.pc, .int .i64 A.mp, .int .i64 A.op, .int .u64 (uv A.key), .int .u64 (uv A.val), .int .u64 (uv A.v)] 57))
    clear Wb
    generalize wb.alloc (.cells #[.int .i64 A.k, .int .i64 A.pc, .int .i64 A.mp, .int .i64 A.op, .int .u64 (uv A.key), .int .u64 (uv A.val), .int .u64 (uv A.v)] 57) = wc at OA Wc ⊢
    generalize wb.heap.size = qa at OA ⊢
    have EC := Lib.hid (EE.out.tch Wc.out.t)
    have HSY := Lib.hid (En.step_any wc gy gs ea eb mY cY nm cmY n ccY S ms l HN.out HPC.out.2 HNM.out HSS.out.1 HPC.out.1 (by have h1 := HSS.out.2; have h2 := HK.out; omega) SO.out.1 SO.out.2.1 SO.out.2.2.1 SO.out.2.2.2 (fun p _ => HIN.out.t p) EC.out.tab (fun e => EC.out.nt (Tq.g e)) EC.out.sy (fun a h e => EC.out.nsy a h (Tq.g e)) EC.out.cy (fun a h e => EC.out.ncy a h (Tq.g e)) Wc.out.M)
    rw [hA] at HSY
    go_wp2_with fail
    refine HSY.out.mono ?_
    rintro e wd ⟨rfl, md, td⟩
    have OA2 := Lib.hid (OA.out.tch td (fun e => by rcases e with e | e; exact (OA.out.ne_ Wc.out.M.o (by decide)) e; exact (OA.out.ne_ Wc.out.M.s (by decide)) e))
    have Wd := Lib.hid (Wc.out.stepM md td)
    clear md td HSY EC Wc OA
    rw [show acVal A = .agg #[.int .i64 A.k, .int .i64 A.pc, .int .i64 A.mp, .int .i64 A.op, .int .u64 (uv A.key), .int .u64 (uv A.val), .int .u64 (uv A.v)] from rfl]
    go_upto_region 24 with fail
    have OB := Lib.hid (Ob.fresh wd 57 [.int .i64 A.k, .int .i64 A.pc, .int .i64 A.mp, .int .i64 A.op, .int .u64 (uv A.key), .int .u64 (uv A.val), .int .u64 (uv A.v)])
    have OA3 := Lib.hid (OA2.out.alloc (.cells #[.int .i64 A.k, .int .i64 A.pc, .int .i64 A.mp, .int .i64 A.op, .int .u64 (uv A.key), .int .u64 (uv A.val), .int .u64 (uv A.v)] 57))
    have We := Lib.hid (Wd.out.alloc (.cells #[.int .i64 A.k, .int .i64 A.pc, .int .i64 A.mp, .int .i64 A.op, .int .u64 (uv A.key), .int .u64 (uv A.val), .int .u64 (uv A.v)] 57))
    clear Wd OA2
    generalize wd.alloc (.cells #[.int .i64 A.k, .int .i64 A.pc, .int .i64 A.mp, .int .i64 A.op, .int .u64 (uv A.key), .int .u64 (uv A.val), .int .u64 (uv A.v)] 57) = we at OB OA3 We ⊢
    generalize wd.heap.size = qb at OB ⊢
    have a0 := OA3.out.c0
    have a1 := OA3.out.c1
    have a2 := OA3.out.c2
    have a3 := OA3.out.c3
    have a4 := OA3.out.c4
    have a5 := OA3.out.c5
    have a6 := OA3.out.c6
    have b0 := OB.out.c0
    have b1 := OB.out.c1
    have b2 := OB.out.c2
    have b3 := OB.out.c3
    have b4 := OB.out.c4
    have b5 := OB.out.c5
    have b6 := OB.out.c6
    have y93 : we.cell? ⟨gx, 93, none⟩ = some (.bool false) := We.out.X.bad
    have HA := Lib.hid hA
    have h4 : (A.k == 4) = false := by rw [← hA]; exact FF.out.k4
    have h2 : (A.k == 2) = false := by rw [← hA]; exact FF.out.k2
    clear hA
    go_wp2_with fail
    go_roundw
    case rel => exact ⟨k + 1, us, (stepS ea eb (l.getD S.pc ins0) S), by first | rfl | exact congrArg (Value.int .i64) rfl, by have := HK.out; omega, by first | exact congrArg (Value.int .i64) (g4.trans (by push_cast; rfl)) | go_num, FF.out.st, by rw [FF.out.ss, HSS.out.2]; push_cast; rfl, FF.out.iv, by have h1 := HK.out; have h2 := FF.out.po; omega, We.out.ext rfl rfl FF.out.ks.symm⟩
    case measure => first | (have := HK.out; rw [g4]; simp [intOf]; omega) | (have := HK.out; simp [intOf]; omega)
 have HJ0 := Lib.hid hj
 obtain ⟨e0, he0⟩ : ∃ e0, (judV ms l).2 = e0 := ⟨_, rfl⟩
 obtain ⟨p0, hp0⟩ : ∃ p0, (judV ms l).1 = p0 := ⟨_, rfl⟩
 have HE0 := Lib.hid he0
 rw [he0] at hj ⊢
 rw [hp0]
 have hji : (e0 != 0) = true := by simpa using hj
 clear he0 hp0 hj
 go_upto_region 5 with fail
 have KS := Lib.hid (show ∀ w', Below w4.heap.size w4 w' → (w'.cell? ⟨q1, 0, none⟩ = some (.slice mA nm cm) ∧ w'.cell? ⟨q1, 1, none⟩ = some (.slice cA n c) ∧ w'.cell? ⟨q1, 2, none⟩ = some (.int .u64 (uv ea)) ∧ w'.cell? ⟨q1, 3, none⟩ = some (.int .u64 (uv eb))) from fun w' hb => ⟨(O4.out.below hb O4.out.lt).cell 0, (O4.out.below hb O4.out.lt).cell 1, (O4.out.below hb O4.out.lt).cell 2, (O4.out.below hb O4.out.lt).cell 3⟩)
 obtain ⟨wd, hwd⟩ : ∃ wd, w4.drew = wd := ⟨_, rfl⟩
 have BD := Lib.hid (show Below w4.heap.size w4 wd from hwd ▸ below_drewN (Below.refl w4.heap.size w4) 1)
 refine wp_region_held_drew (S := fun w' => (w'.cell? ⟨q1, 0, none⟩ = some (.slice mA nm cm) ∧ w'.cell? ⟨q1, 1, none⟩ = some (.slice cA n c) ∧ w'.cell? ⟨q1, 2, none⟩ = some (.int .u64 (uv ea)) ∧ w'.cell? ⟨q1, 3, none⟩ = some (.int .u64 (uv eb)))) (by kernel_rfl) (hwd ▸ KS.out wd BD.out) (fun hHeld => ?_)
 refine tkq 0 34 rfl (by kernel_rfl) (by rfl) hHeld (fun _ _ _ h => h) (by intro w' hSw; go_simp; try with_reducible rfl) ?_
 simp only [Act.put, spa, spb, spc]
 refine tkq 1 35 rfl (by kernel_rfl) (by rfl) hHeld (fun _ _ _ h => h) (by intro w' hSw; go_simp; try with_reducible rfl) ?_
 simp only [Act.put, spa, spb, spc]
 refine tkq 3 37 rfl (by kernel_rfl) (by rfl) hHeld (fun _ _ _ h => h) (by intro w' hSw; go_simp; try with_reducible rfl) ?_
 simp only [Act.put, spa, spb, spc]
 refine tkq 4 38 rfl (by kernel_rfl) (by rfl) hHeld (fun _ _ _ h => h) (by intro w' hSw; go_simp; try with_reducible rfl) ?_
 simp only [Act.put, spa, spb, spc]
 refine rdq 2 ⟨some 36, _, _, _, _, _⟩ (by kernel_rfl) rfl (fun K' hK => ?_)
 go_simp
 refine (HCP.out wd (HS.out.below (B4.out.trans (BD.out.mono B4.out.size))) (HM.out.below (B4.out.trans (BD.out.mono B4.out.size)))).mono ?_
 rintro e wx ⟨⟨mJ, cmJ, cJ, ccJ, rfl, hle1, hle2, hsm, hsc, hbm, hbc, hzm, hzc⟩, bx⟩
 have BX := Lib.hid (BD.out.trans (bx.mono BD.out.size))
 have SM := Lib.hid hsm
 have SC := Lib.hid hsc
 have HL1 := Lib.hid hle1
 have HL2 := Lib.hid hle2
 have HBM := Lib.hid (show ∀ a, mJ = some a → w4.heap.size ≤ a.block ∧ a.block < wx.heap.size from fun a h => ⟨Nat.le_trans BD.out.size (hbm a h).1, (hbm a h).2⟩)
 have HBC := Lib.hid (show ∀ a, cJ = some a → w4.heap.size ≤ a.block ∧ a.block < wx.heap.size from fun a h => ⟨Nat.le_trans BD.out.size (hbc a h).1, (hbc a h).2⟩)
 have HZ := Lib.hid (And.intro hzm hzc)
 clear bx hle1 hle2 hsm hsc hbm hbc hzm hzc
 refine hK.out _ _ (KS.out _ BX.out) (fun hHeld => ?_)
 clear hK K'
 refine rdq 5 ⟨some 39, _, _, _, _, _⟩ (by kernel_rfl) rfl (fun K' hK => ?_)
 go_simp
 refine (trbad_any wx ea eb l ms mJ cJ nm cmJ n ccJ HN.out HL2.out HNM.out HL1.out HB.out (HF.out.below (B4.out.trans (BX.out.mono B4.out.size))) (HT.out.below (B4.out.trans (BX.out.mono B4.out.size))) SC.out SM.out HJ0.out).mono ?_
 rintro e wy ⟨rfl, by_⟩
 have BY := Lib.hid (BX.out.trans (by_.mono BX.out.size))
 clear by_
 rw [HE0.out]
 refine hK.out _ _ (KS.out _ BY.out) (fun hHeld => ?_)
 clear hK K'
 refine tkq 6 33 rfl (by kernel_rfl) (by rfl) hHeld (fun _ _ _ h => h) (by intro w' hSw; go_simp; try with_reducible rfl) ?_
 simp only [Act.put, spa, spb, spc]
 refine tkq 7 40 rfl (by kernel_rfl) (by rfl) hHeld (fun _ _ _ h => h) (by intro w' hSw; go_simp; try with_reducible rfl) ?_
 simp only [Act.put, spa, spb, spc]
 refine tkq 8 41 rfl (by kernel_rfl) (by rfl) hHeld (fun _ _ _ h => h) (by intro w' hSw; go_simp; try with_reducible rfl) ?_
 simp only [Act.put, spa, spb, spc]
 refine tkq 9 5 rfl (by kernel_rfl) (by rfl) hHeld (fun _ _ _ h => h) (by intro w' hSw; go_simp; try with_reducible rfl) ?_
 simp only [Act.put, spa, spb, spc]
 refine tkq 10 6 rfl (by kernel_rfl) (by rfl) hHeld (fun _ _ _ h => h) (by intro w' hSw; go_simp; try with_reducible rfl) ?_
 simp only [Act.put, spa, spb, spc]
 refine wpAnyH_done (by kernel_rfl) ?_ _
 clear hHeld KS hwd
 go_wp2_with fail
 go_ret
 exact ⟨by simp, B4.out.trans (BY.out.mono B4.out.size)⟩

end Go.Proofs.YtjcffmcafjineaaDoor.Tp
end
