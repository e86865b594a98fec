/-
  A module in new memory; do the layers run? Conditions: those of each theorem.
-/
import Derived.Test.YtikkmkomlajnfaaGreatDoorWm01
import Derived.Test.YtikkmkomlajnfaaGreatDoorWm30
import Derived.Test.YtikkmkomlajnfaaGreatDoorWm26
set_option linter.unusedVariables false
set_option linter.unusedSimpArgs false
section
namespace Go.Proofs.YtikkmkomlajnfaaGreatDoor.Wf
set_option maxRecDepth 100000
set_option maxHeartbeats 16000000
open Go.RowKit
open Go.Proofs.YtikkmkomlajnfaaGreatDoor.Op (InstV insc insVal inss ins0 ins_at inss_length inss_allone)
open Go.Proofs.YtikkmkomlajnfaaGreatDoor.En (keepS ints ints_length ints_one int_info inst_info own_none)

theorem own_none' {w : World} {base : Nat} {e : TypeId} {size n c : Nat} {A : Option Addr} {xs : List Value} (h : w.ownsRow base e size (.slice A n c) n xs) : A = none → n = 0 ∧ c = 0 := fun ha => by
 subst ha
 exact own_none h
theorem sl_tch2 {B : Nat → Prop} {w w' : World} {A : Option Addr} {xs : List Value} (h : Sl w A xs) (k : Tch B w w') (hn : ∀ a, A = some a → ¬ B a.block) : Sl w' A xs := En.sl_tch h k hn
theorem copied_any (w : World) (l : List InstV) (ms : List Int) (mA cA : Option Addr) (nm cm n c : Nat) (hn : n = l.length) (hnm : nm = ms.length) (hb1 : nm * 8 ≤ 140737488351232) (hb2 : n * 40 ≤ 140737488351232) (hs : Sl w cA (inss l)) (hm : Sl w mA (ints ms)) :
 Calls Tryz.prog 6 #[.agg #[.slice mA nm cm, .slice cA n c]] w fun e w' => (∃ mA' cm' cA' cc', e = .returned (.agg #[.slice mA' nm cm', .slice cA' n cc']) ∧ nm ≤ cm' ∧ n ≤ cc' ∧ Sl w' mA' (ints ms) ∧ Sl w' cA' (inss l) ∧ (∀ a, mA' = some a → w.heap.size ≤ a.block ∧ a.block < w'.heap.size) ∧ (∀ a, cA' = some a → w.heap.size ≤ a.block ∧ a.block < w'.heap.size) ∧
  (mA' = none → nm = 0 ∧ cm' = 0) ∧ (cA' = none → n = 0 ∧ cc' = 0)) ∧ Below w.heap.size w w' := by
 have HB1 := Lib.hid hb1
 have HB2 := Lib.hid hb2
 have HLI := Lib.hid (show (ints ms).length = nm * 1 by rw [ints_length, Nat.mul_one]; exact hnm.symm)
 have HLC := Lib.hid (show (inss l).length = n * 5 by rw [inss_length, hn])
 have HS := Lib.hid hs
 have HM := Lib.hid hm
 have B0 := Lib.hid (Below.refl w.heap.size w)
 obtain ⟨i1, hi1, hz1, hs1, hy1⟩ := info_parts int_info
 obtain ⟨i2, hi2, hz2, hs2, hy2⟩ := info_parts inst_info
 have HI1 := Lib.hid (And.intro hi1 (And.intro hz1 (And.intro hs1 hy1)))
 have HI2 := Lib.hid (And.intro hi2 (And.intro hz2 (And.intro hs2 hy2)))
 clear hn hnm hb1 hb2 hs hm hi1 hz1 hs1 hy1 hi2 hz2 hs2 hy2
 go_enter Tryz.func6, Tryz.ntmps6
 go_upto_region 1 with fail
 have O1 := Lib.hid (Ob.alloc (Ob.fresh w 25 [.slice mA nm cm, .slice cA n c]) (.cells #[.slice none 0 0, .slice none 0 0] 25))
 have O2 := Lib.hid (Ob.fresh (w.alloc (.cells #[.slice mA nm cm, .slice cA n c] 25)) 25 [.slice none 0 0, .slice none 0 0])
 rw [show (w.alloc (.cells #[.slice mA nm cm, .slice cA n c] 25)).heap.size = w.heap.size + 1 by simp] at O2
 have B1 := Lib.hid (below_alloc (below_alloc (B0.out) (.cells #[.slice mA nm cm, .slice cA n c] 25)) (.cells #[.slice none 0 0, .slice none 0 0] 25))
 have Hq1 := Lib.hid (show w.heap.size ≤ w.heap.size by have := B0.out.size; omega)
 have Hq2 := Lib.hid (show w.heap.size ≤ w.heap.size + 1 by have := B0.out.size; omega)
 have Nq1q2 := Lib.hid (show w.heap.size ≠ w.heap.size + 1 by omega)
 clear B0
 generalize ((w.alloc (.cells #[.slice mA nm cm, .slice cA n c] 25)).alloc (.cells #[.slice none 0 0, .slice none 0 0] 25)) = w1 at O1 O2 B1 ⊢
 obtain ⟨q2, hq2⟩ : ∃ q2, w.heap.size + 1 = q2 := ⟨_, rfl⟩
 rw [hq2] at O2 Hq2 Nq1q2 ⊢
 clear hq2
 obtain ⟨q1, hq1⟩ : ∃ q1, w.heap.size = q1 := ⟨_, rfl⟩
 have Hq1 := Lib.hid (Nat.le_of_eq hq1)
 rw [hq1] at O1 Nq1q2 ⊢
 clear hq1
 have N12 := Lib.hid Nq1q2.out
 have KS := Lib.hid (show ∀ w', Below w1.heap.size w1 w' → (w'.cell? ⟨q1, 0, none⟩ = some (.slice mA nm cm) ∧ w'.cell? ⟨q1, 1, none⟩ = some (.slice cA n c)) from fun w' hb => ⟨(O1.out.below hb O1.out.lt).cell 0, (O1.out.below hb O1.out.lt).cell 1⟩)
 obtain ⟨wd, hwd⟩ : ∃ wd, w1.drew = wd := ⟨_, rfl⟩
 have BD := Lib.hid (show Below w1.heap.size w1 wd from hwd ▸ below_drewN (Below.refl w1.heap.size w1) 1)
 refine wp_region_held_drew (S := fun w' => (w'.cell? ⟨q1, 0, none⟩ = some (.slice mA nm cm) ∧ w'.cell? ⟨q1, 1, none⟩ = some (.slice cA n c))) (by kernel_rfl) (hwd ▸ KS.out wd BD.out) (fun hHeld => ?_)
 refine tkq 1 4 rfl (by kernel_rfl) (by rfl) hHeld (fun _ _ _ h => h) (by intro w' hSw; go_simp; try with_reducible rfl) ?_
 simp only [Act.put, spa, spb, spc]
 refine tkq 2 5 rfl (by kernel_rfl) (by rfl) hHeld (fun _ _ _ h => h) (by intro w' hSw; go_simp; try with_reducible rfl) ?_
 simp only [Act.put, spa, spb, spc]
 refine tkq 5 8 rfl (by kernel_rfl) (by rfl) hHeld (fun _ _ _ h => h) (by intro w' hSw; go_simp; try with_reducible rfl) ?_
 simp only [Act.put, spa, spb, spc]
 refine tkq 6 9 rfl (by kernel_rfl) (by rfl) hHeld (fun _ _ _ h => h) (by intro w' hSw; go_simp; try with_reducible rfl) ?_
 simp only [Act.put, spa, spb, spc]
 refine wpAnyH_ready (rs := [0, 4]) (by kernel_rfl) (by simp) ?_
 refine AllReadyH.cons (o := ⟨some 3, _, _, _, _, _⟩) rfl (fun K' hK => ?_) ?_
 · go_simp
   refine hK.out _ _ (KS.out _ (below_alloc BD.out (.cells #[] 3))) (fun hHeld => ?_)
   clear hK K'
   clear hHeld
   have B11 := Lib.hid (below_alloc BD.out (.cells #[] 3))
   have OM1 := Lib.hid (own_empty BD.out 3 1)
   obtain ⟨gM, hgM⟩ : ∃ gq, wd.heap.size = gq := ⟨_, rfl⟩
   rw [hgM] at OM1 ⊢
   clear hgM
   generalize wd.alloc (.cells #[] 3) = u1 at B11 OM1 ⊢
   have hHeld := KS.out _ B11.out
   refine wpAnyH_ready (rs := [3, 4]) (by kernel_rfl) (by simp) ?_
   refine AllReadyH.cons (o := ⟨some 6, _, _, _, _, _⟩) rfl (fun K' hK => ?_) ?_
   · rw [if_pos (by rfl)]
     refine wp_append_sl u1 (.tmp 3) (.tmp 5) 22 rfl w1.heap.size 3 _ _ 1 8 Tryz.underlying22 HI1.out.1 HI1.out.2.1 HI1.out.2.2.1 HI1.out.2.2.2 rfl (by omega) (.slice (some ⟨gM, 0, none⟩) 0 0) 0 [] rfl OM1.out
      mA nm cm (ints ms) rfl HLI.out (HM.out.below (B1.out.trans (B11.out.mono B1.out.size))) (ints_one ms) (by have := HB1.out; simp only [maxLen]; omega) (by rw [Nat.zero_add]; have := HB1.out; omega) B11.out.size ?_
     intro v' u2 hrow hgr _
     rw [Nat.zero_add, List.nil_append] at hrow
     have B12 := Lib.hid (B11.out.grown hgr B11.out.size (fun k hk => (OM1.out.lt k hk).1))
     have OM2 := Lib.hid hrow
     clear hrow hgr
     obtain ⟨mA', cm', hvm, hle1, _, _, _⟩ := own_form OM2.out
     subst hvm
     have HLE1 := Lib.hid hle1
     clear hle1
     refine hK.out _ _ (KS.out _ B12.out) (fun hHeld => ?_)
     clear hK K'
     refine rdq 4 ⟨some 7, _, _, _, _, _⟩ (by kernel_rfl) rfl (fun K' hK => ?_)
     go_simp
     refine hK.out _ _ (KS.out _ (below_alloc B12.out (.cells #[] 59))) (fun hHeld => ?_)
     clear hK K'
     clear hHeld
     have B13 := Lib.hid (below_alloc B12.out (.cells #[] 59))
     have OC3 := Lib.hid (own_empty B12.out 59 5)
     have OM3 := Lib.hid (World.ownsRow.alloc OM2.out (.cells #[] 59))
     obtain ⟨gC, hgC⟩ : ∃ gq, u2.heap.size = gq := ⟨_, rfl⟩
     rw [hgC] at OC3 ⊢
     clear hgC
     generalize u2.alloc (.cells #[] 59) = u3 at B13 OC3 OM3 ⊢
     have hHeld := KS.out _ B13.out
     refine rdq 7 ⟨some 10, _, _, _, _, _⟩ (by kernel_rfl) rfl (fun K' hK => ?_)
     rw [if_pos (by rfl)]
     refine wp_append_sl u3 (.tmp 7) (.tmp 9) 23 rfl w1.heap.size 59 _ _ 5 40 Tryz.underlying23 HI2.out.1 HI2.out.2.1 HI2.out.2.2.1 HI2.out.2.2.2 rfl (by omega) (.slice (some ⟨gC, 0, none⟩) 0 0) 0 [] rfl OC3.out
      cA n c (inss l) rfl HLC.out (HS.out.below (B1.out.trans (B13.out.mono B1.out.size))) (inss_allone l) (by have := HB2.out; simp only [maxLen]; omega) (by rw [Nat.zero_add]; have := HB2.out; omega) B13.out.size ?_
     intro v' u4 hrow hgr _
     rw [Nat.zero_add, List.nil_append] at hrow
     have B14 := Lib.hid (B13.out.grown hgr B13.out.size (fun k hk => (OC3.out.lt k hk).1))
     have OC4 := Lib.hid hrow
     have OM4 := Lib.hid (own_tch OM3.out (Tch.of_grown hgr) (fun i hi e => own_apart OC3.out OM3.out (by decide) i e hi))
     clear hrow hgr
     obtain ⟨cA', cc', hvc, hle2, _, _, _⟩ := own_form OC4.out
     subst hvc
     have HLE2 := Lib.hid hle2
     clear hle2
     refine hK.out _ _ (KS.out _ B14.out) (fun hHeld => ?_)
     clear hK K'
     refine tkq 8 11 rfl (by kernel_rfl) (by rfl) hHeld (fun _ _ _ h => h) (by intro w' hSw; go_simp; try with_reducible rfl) ?_
     simp only [Act.put, spa, spb, spc]
     refine rdq 9 ⟨none, _, _, _, _, _⟩ (by kernel_rfl) rfl (fun K' hK => ?_)
     have QQ := Lib.hid (O2.out.below B14.out O2.out.lt)
     have e0 := QQ.out.c0
     have e1 := QQ.out.c1
     have ez := QQ.out.frozen
     go_simp
     have O1k := Lib.hid (((O1.out.below B14.out O1.out.lt).far (p := ⟨q2, 0, none⟩) N12.out (.slice mA' nm cm')).far (p := ⟨q2, 1, none⟩) N12.out (.slice cA' n cc'))
     refine hK.out _ _ ⟨O1k.out.cell 0, O1k.out.cell 1⟩ (fun hHeld => ?_)
     clear hK K'
     clear hHeld e0 e1 ez
     refine wpAnyH_done (by kernel_rfl) ?_ _
     go_wp2_with fail
     obtain ⟨_, _, hv1, _, _, hsl1, hb1⟩ := own_form OM4.out
     injection hv1 with a1 a2 a3
     subst a1 a3
     obtain ⟨_, _, hv2, _, _, hsl2, hb2⟩ := own_form OC4.out
     injection hv2 with a1 a2 a3
     subst a1 a3
     have NM1 := own_none' OM4.out
     have NC1 := own_none' OC4.out
     have QF := Lib.hid (show Ob ((u4.setCell ⟨q2, 0, none⟩ (.slice mA' nm cm')).setCell ⟨q2, 1, none⟩ (.slice cA' n cc')) q2 25 [.slice mA' nm cm', .slice cA' n cc'] from (QQ.out.set_ 0 _).set_ 1 _)
     have BF := Lib.hid (show Below w.heap.size w ((u4.setCell ⟨q2, 0, none⟩ (.slice mA' nm cm')).setCell ⟨q2, 1, none⟩ (.slice cA' n cc')) from (((B1.out.trans (B14.out.mono B1.out.size))).setCell (p := ⟨q2, 0, none⟩) Hq2.out (.slice mA' nm cm')).setCell (p := ⟨q2, 1, none⟩) Hq2.out (.slice cA' n cc'))
     have TF := Lib.hid (show Tch (fun k => k = q2) u4 ((u4.setCell ⟨q2, 0, none⟩ (.slice mA' nm cm')).setCell ⟨q2, 1, none⟩ (.slice cA' n cc')) from Tch.setCell (S := fun k => k = q2) (p := ⟨q2, 1, none⟩) (Tch.setCell (S := fun k => k = q2) (p := ⟨q2, 0, none⟩) (Tch.refl _ u4) rfl (.slice mA' nm cm')) rfl (.slice cA' n cc'))
     have hlt := QQ.out.lt
     have hq2 : q2 < w1.heap.size := O2.out.lt
     have hsz : ((u4.setCell ⟨q2, 0, none⟩ (.slice mA' nm cm')).setCell ⟨q2, 1, none⟩ (.slice cA' n cc')).heap.size = u4.heap.size := by simp [World.setCell]
     have s0 : ((u4.setCell ⟨q2, 0, none⟩ (.slice mA' nm cm')).setCell ⟨q2, 1, none⟩ (.slice cA' n cc')).cell? ⟨q2, 0, none⟩ = some (.slice mA' nm cm') := QF.out.cell 0
     have s1 : ((u4.setCell ⟨q2, 0, none⟩ (.slice mA' nm cm')).setCell ⟨q2, 1, none⟩ (.slice cA' n cc')).cell? ⟨q2, 1, none⟩ = some (.slice cA' n cc') := QF.out.cell 1
     have SM := sl_tch2 hsl1 TF.out (fun a ha e => by have := (hb1 a ha).1; omega)
     have SC := sl_tch2 hsl2 TF.out (fun a ha e => by have := (hb2 a ha).1; omega)
     have hw1 := B1.out.size
     rw [← hsz] at hb1 hb2
     clear hsz TF
     generalize ((u4.setCell ⟨q2, 0, none⟩ (.slice mA' nm cm')).setCell ⟨q2, 1, none⟩ (.slice cA' n cc')) = wf at QF BF s0 s1 SM SC hb1 hb2 ⊢
     exact bodyPost_ret (v := .agg #[.slice mA' nm cm', .slice cA' n cc']) (by simp [results, Tryz.results6, go_sem, s0, s1]) rfl ⟨⟨mA', cm', cA', cc', rfl, HLE1.out, HLE2.out, SM, SC, fun a ha => ⟨Nat.le_trans hw1 (hb1 a ha).1, (hb1 a ha).2⟩, fun a ha => ⟨Nat.le_trans hw1 (hb2 a ha).1, (hb2 a ha).2⟩, NM1, NC1⟩, BF.out⟩
   refine AllReadyH.cons (o := ⟨some 7, _, _, _, _, _⟩) rfl (fun K' hK => ?_) AllReadyH.nil
   go_simp
   refine hK.out _ _ (KS.out _ (below_alloc B11.out (.cells #[] 59))) (fun hHeld => ?_)
   clear hK K'
   clear hHeld
   have B12 := Lib.hid (below_alloc B11.out (.cells #[] 59))
   have OC2 := Lib.hid (own_empty B11.out 59 5)
   have OM2 := Lib.hid (World.ownsRow.alloc OM1.out (.cells #[] 59))
   obtain ⟨gC, hgC⟩ : ∃ gq, u1.heap.size = gq := ⟨_, rfl⟩
   rw [hgC] at OC2 ⊢
   clear hgC
   generalize u1.alloc (.cells #[] 59) = u2 at B12 OC2 OM2 ⊢
   have hHeld := KS.out _ B12.out
   refine rdq 3 ⟨some 6, _, _, _, _, _⟩ (by kernel_rfl) rfl (fun K' hK => ?_)
   rw [if_pos (by rfl)]
   refine wp_append_sl u2 (.tmp 3) (.tmp 5) 22 rfl w1.heap.size 3 _ _ 1 8 Tryz.underlying22 HI1.out.1 HI1.out.2.1 HI1.out.2.2.1 HI1.out.2.2.2 rfl (by omega) (.slice (some ⟨gM, 0, none⟩) 0 0) 0 [] rfl OM2.out
    mA nm cm (ints ms) rfl HLI.out (HM.out.below (B1.out.trans (B12.out.mono B1.out.size))) (ints_one ms) (by have := HB1.out; simp only [maxLen]; omega) (by rw [Nat.zero_add]; have := HB1.out; omega) B12.out.size ?_
   intro v' u3 hrow hgr _
   rw [Nat.zero_add, List.nil_append] at hrow
   have B13 := Lib.hid (B12.out.grown hgr B12.out.size (fun k hk => (OM2.out.lt k hk).1))
   have OM3 := Lib.hid hrow
   have OC3 := Lib.hid (own_tch OC2.out (Tch.of_grown hgr) (fun i hi e => own_apart OM2.out OC2.out (by decide) i e hi))
   clear hrow hgr
   obtain ⟨mA', cm', hvm, hle1, _, _, _⟩ := own_form OM3.out
   subst hvm
   have HLE1 := Lib.hid hle1
   clear hle1
   refine hK.out _ _ (KS.out _ B13.out) (fun hHeld => ?_)
   clear hK K'
   refine rdq 7 ⟨some 10, _, _, _, _, _⟩ (by kernel_rfl) rfl (fun K' hK => ?_)
   rw [if_pos (by rfl)]
   refine wp_append_sl u3 (.tmp 7) (.tmp 9) 23 rfl w1.heap.size 59 _ _ 5 40 Tryz.underlying23 HI2.out.1 HI2.out.2.1 HI2.out.2.2.1 HI2.out.2.2.2 rfl (by omega) (.slice (some ⟨gC, 0, none⟩) 0 0) 0 [] rfl OC3.out
    cA n c (inss l) rfl HLC.out (HS.out.below (B1.out.trans (B13.out.mono B1.out.size))) (inss_allone l) (by have := HB2.out; simp only [maxLen]; omega) (by rw [Nat.zero_add]; have := HB2.out; omega) B13.out.size ?_
   intro v' u4 hrow hgr _
   rw [Nat.zero_add, List.nil_append] at hrow
   have B14 := Lib.hid (B13.out.grown hgr B13.out.size (fun k hk => (OC3.out.lt k hk).1))
   have OC4 := Lib.hid hrow
   have OM4 := Lib.hid (own_tch OM3.out (Tch.of_grown hgr) (fun i hi e => own_apart OC3.out OM3.out (by decide) i e hi))
   clear hrow hgr
   obtain ⟨cA', cc', hvc, hle2, _, _, _⟩ := own_form OC4.out
   subst hvc
   have HLE2 := Lib.hid hle2
   clear hle2
   refine hK.out _ _ (KS.out _ B14.out) (fun hHeld => ?_)
   clear hK K'
   refine tkq 8 11 rfl (by kernel_rfl) (by rfl) hHeld (fun _ _ _ h => h) (by intro w' hSw; go_simp; try with_reducible rfl) ?_
   simp only [Act.put, spa, spb, spc]
   refine rdq 9 ⟨none, _, _, _, _, _⟩ (by kernel_rfl) rfl (fun K' hK => ?_)
   have QQ := Lib.hid (O2.out.below B14.out O2.out.lt)
   have e0 := QQ.out.c0
   have e1 := QQ.out.c1
   have ez := QQ.out.frozen
   go_simp
   have O1k := Lib.hid (((O1.out.below B14.out O1.out.lt).far (p := ⟨q2, 0, none⟩) N12.out (.slice mA' nm cm')).far (p := ⟨q2, 1, none⟩) N12.out (.slice cA' n cc'))
   refine hK.out _ _ ⟨O1k.out.cell 0, O1k.out.cell 1⟩ (fun hHeld => ?_)
   clear hK K'
   clear hHeld e0 e1 ez
   refine wpAnyH_done (by kernel_rfl) ?_ _
   go_wp2_with fail
   obtain ⟨_, _, hv1, _, _, hsl1, hb1⟩ := own_form OM4.out
   injection hv1 with a1 a2 a3
   subst a1 a3
   obtain ⟨_, _, hv2, _, _, hsl2, hb2⟩ := own_form OC4.out
   injection hv2 with a1 a2 a3
   subst a1 a3
   have NM1 := own_none' OM4.out
   have NC1 := own_none' OC4.out
   have QF := Lib.hid (show Ob ((u4.setCell ⟨q2, 0, none⟩ (.slice mA' nm cm')).setCell ⟨q2, 1, none⟩ (.slice cA' n cc')) q2 25 [.slice mA' nm cm', .slice cA' n cc'] from (QQ.out.set_ 0 _).set_ 1 _)
   have BF := Lib.hid (show Below w.heap.size w ((u4.setCell ⟨q2, 0, none⟩ (.slice mA' nm cm')).setCell ⟨q2, 1, none⟩ (.slice cA' n cc')) from (((B1.out.trans (B14.out.mono B1.out.size))).setCell (p := ⟨q2, 0, none⟩) Hq2.out (.slice mA' nm cm')).setCell (p := ⟨q2, 1, none⟩) Hq2.out (.slice cA' n cc'))
   have TF := Lib.hid (show Tch (fun k => k = q2) u4 ((u4.setCell ⟨q2, 0, none⟩ (.slice mA' nm cm')).setCell ⟨q2, 1, none⟩ (.slice cA' n cc')) from Tch.setCell (S := fun k => k = q2) (p := ⟨q2, 1, none⟩) (Tch.setCell (S := fun k => k = q2) (p := ⟨q2, 0, none⟩) (Tch.refl _ u4) rfl (.slice mA' nm cm')) rfl (.slice cA' n cc'))
   have hlt := QQ.out.lt
   have hq2 : q2 < w1.heap.size := O2.out.lt
   have hsz : ((u4.setCell ⟨q2, 0, none⟩ (.slice mA' nm cm')).setCell ⟨q2, 1, none⟩ (.slice cA' n cc')).heap.size = u4.heap.size := by simp [World.setCell]
   have s0 : ((u4.setCell ⟨q2, 0, none⟩ (.slice mA' nm cm')).setCell ⟨q2, 1, none⟩ (.slice cA' n cc')).cell? ⟨q2, 0, none⟩ = some (.slice mA' nm cm') := QF.out.cell 0
   have s1 : ((u4.setCell ⟨q2, 0, none⟩ (.slice mA' nm cm')).setCell ⟨q2, 1, none⟩ (.slice cA' n cc')).cell? ⟨q2, 1, none⟩ = some (.slice cA' n cc') := QF.out.cell 1
   have SM := sl_tch2 hsl1 TF.out (fun a ha e => by have := (hb1 a ha).1; omega)
   have SC := sl_tch2 hsl2 TF.out (fun a ha e => by have := (hb2 a ha).1; omega)
   have hw1 := B1.out.size
   rw [← hsz] at hb1 hb2
   clear hsz TF
   generalize ((u4.setCell ⟨q2, 0, none⟩ (.slice mA' nm cm')).setCell ⟨q2, 1, none⟩ (.slice cA' n cc')) = wf at QF BF s0 s1 SM SC hb1 hb2 ⊢
   exact bodyPost_ret (v := .agg #[.slice mA' nm cm', .slice cA' n cc']) (by simp [results, Tryz.results6, go_sem, s0, s1]) rfl ⟨⟨mA', cm', cA', cc', rfl, HLE1.out, HLE2.out, SM, SC, fun a ha => ⟨Nat.le_trans hw1 (hb1 a ha).1, (hb1 a ha).2⟩, fun a ha => ⟨Nat.le_trans hw1 (hb2 a ha).1, (hb2 a ha).2⟩, NM1, NC1⟩, BF.out⟩
 refine AllReadyH.cons (o := ⟨some 7, _, _, _, _, _⟩) rfl (fun K' hK => ?_) AllReadyH.nil
 go_simp
 refine hK.out _ _ (KS.out _ (below_alloc BD.out (.cells #[] 59))) (fun hHeld => ?_)
 clear hK K'
 clear hHeld
 have B11 := Lib.hid (below_alloc BD.out (.cells #[] 59))
 have OC1 := Lib.hid (own_empty BD.out 59 5)
 obtain ⟨gC, hgC⟩ : ∃ gq, wd.heap.size = gq := ⟨_, rfl⟩
 rw [hgC] at OC1 ⊢
 clear hgC
 generalize wd.alloc (.cells #[] 59) = u1 at B11 OC1 ⊢
 have hHeld := KS.out _ B11.out
 refine rdq 0 ⟨some 3, _, _, _, _, _⟩ (by kernel_rfl) rfl (fun K' hK => ?_)
 go_simp
 refine hK.out _ _ (KS.out _ (below_alloc B11.out (.cells #[] 3))) (fun hHeld => ?_)
 clear hK K'
 clear hHeld
 have B12 := Lib.hid (below_alloc B11.out (.cells #[] 3))
 have OM2 := Lib.hid (own_empty B11.out 3 1)
 have OC2 := Lib.hid (World.ownsRow.alloc OC1.out (.cells #[] 3))
 obtain ⟨gM, hgM⟩ : ∃ gq, u1.heap.size = gq := ⟨_, rfl⟩
 rw [hgM] at OM2 ⊢
 clear hgM
 generalize u1.alloc (.cells #[] 3) = u2 at B12 OM2 OC2 ⊢
 have hHeld := KS.out _ B12.out
 refine rdq 3 ⟨some 6, _, _, _, _, _⟩ (by kernel_rfl) rfl (fun K' hK => ?_)
 rw [if_pos (by rfl)]
 refine wp_append_sl u2 (.tmp 3) (.tmp 5) 22 rfl w1.heap.size 3 _ _ 1 8 Tryz.underlying22 HI1.out.1 HI1.out.2.1 HI1.out.2.2.1 HI1.out.2.2.2 rfl (by omega) (.slice (some ⟨gM, 0, none⟩) 0 0) 0 [] rfl OM2.out
  mA nm cm (ints ms) rfl HLI.out (HM.out.below (B1.out.trans (B12.out.mono B1.out.size))) (ints_one ms) (by have := HB1.out; simp only [maxLen]; omega) (by rw [Nat.zero_add]; have := HB1.out; omega) B12.out.size ?_
 intro v' u3 hrow hgr _
 rw [Nat.zero_add, List.nil_append] at hrow
 have B13 := Lib.hid (B12.out.grown hgr B12.out.size (fun k hk => (OM2.out.lt k hk).1))
 have OM3 := Lib.hid hrow
 have OC3 := Lib.hid (own_tch OC2.out (Tch.of_grown hgr) (fun i hi e => own_apart OM2.out OC2.out (by decide) i e hi))
 clear hrow hgr
 obtain ⟨mA', cm', hvm, hle1, _, _, _⟩ := own_form OM3.out
 subst hvm
 have HLE1 := Lib.hid hle1
 clear hle1
 refine hK.out _ _ (KS.out _ B13.out) (fun hHeld => ?_)
 clear hK K'
 refine rdq 7 ⟨some 10, _, _, _, _, _⟩ (by kernel_rfl) rfl (fun K' hK => ?_)
 rw [if_pos (by rfl)]
 refine wp_append_sl u3 (.tmp 7) (.tmp 9) 23 rfl w1.heap.size 59 _ _ 5 40 Tryz.underlying23 HI2.out.1 HI2.out.2.1 HI2.out.2.2.1 HI2.out.2.2.2 rfl (by omega) (.slice (some ⟨gC, 0, none⟩) 0 0) 0 [] rfl OC3.out
  cA n c (inss l) rfl HLC.out (HS.out.below (B1.out.trans (B13.out.mono B1.out.size))) (inss_allone l) (by have := HB2.out; simp only [maxLen]; omega) (by rw [Nat.zero_add]; have := HB2.out; omega) B13.out.size ?_
 intro v' u4 hrow hgr _
 rw [Nat.zero_add, List.nil_append] at hrow
 have B14 := Lib.hid (B13.out.grown hgr B13.out.size (fun k hk => (OC3.out.lt k hk).1))
 have OC4 := Lib.hid hrow
 have OM4 := Lib.hid (own_tch OM3.out (Tch.of_grown hgr) (fun i hi e => own_apart OC3.out OM3.out (by decide) i e hi))
 clear hrow hgr
 obtain ⟨cA', cc', hvc, hle2, _, _, _⟩ := own_form OC4.out
 subst hvc
 have HLE2 := Lib.hid hle2
 clear hle2
 refine hK.out _ _ (KS.out _ B14.out) (fun hHeld => ?_)
 clear hK K'
 refine tkq 8 11 rfl (by kernel_rfl) (by rfl) hHeld (fun _ _ _ h => h) (by intro w' hSw; go_simp; try with_reducible rfl) ?_
 simp only [Act.put, spa, spb, spc]
 refine rdq 9 ⟨none, _, _, _, _, _⟩ (by kernel_rfl) rfl (fun K' hK => ?_)
 have QQ := Lib.hid (O2.out.below B14.out O2.out.lt)
 have e0 := QQ.out.c0
 have e1 := QQ.out.c1
 have ez := QQ.out.frozen
 go_simp
 have O1k := Lib.hid (((O1.out.below B14.out O1.out.lt).far (p := ⟨q2, 0, none⟩) N12.out (.slice mA' nm cm')).far (p := ⟨q2, 1, none⟩) N12.out (.slice cA' n cc'))
 refine hK.out _ _ ⟨O1k.out.cell 0, O1k.out.cell 1⟩ (fun hHeld => ?_)
 clear hK K'
 clear hHeld e0 e1 ez
 refine wpAnyH_done (by kernel_rfl) ?_ _
 go_wp2_with fail
 obtain ⟨_, _, hv1, _, _, hsl1, hb1⟩ := own_form OM4.out
 injection hv1 with a1 a2 a3
 subst a1 a3
 obtain ⟨_, _, hv2, _, _, hsl2, hb2⟩ := own_form OC4.out
 injection hv2 with a1 a2 a3
 subst a1 a3
 have NM1 := own_none' OM4.out
 have NC1 := own_none' OC4.out
 have QF := Lib.hid (show Ob ((u4.setCell ⟨q2, 0, none⟩ (.slice mA' nm cm')).setCell ⟨q2, 1, none⟩ (.slice cA' n cc')) q2 25 [.slice mA' nm cm', .slice cA' n cc'] from (QQ.out.set_ 0 _).set_ 1 _)
 have BF := Lib.hid (show Below w.heap.size w ((u4.setCell ⟨q2, 0, none⟩ (.slice mA' nm cm')).setCell ⟨q2, 1, none⟩ (.slice cA' n cc')) from (((B1.out.trans (B14.out.mono B1.out.size))).setCell (p := ⟨q2, 0, none⟩) Hq2.out (.slice mA' nm cm')).setCell (p := ⟨q2, 1, none⟩) Hq2.out (.slice cA' n cc'))
 have TF := Lib.hid (show Tch (fun k => k = q2) u4 ((u4.setCell ⟨q2, 0, none⟩ (.slice mA' nm cm')).setCell ⟨q2, 1, none⟩ (.slice cA' n cc')) from Tch.setCell (S := fun k => k = q2) (p := ⟨q2, 1, none⟩) (Tch.setCell (S := fun k => k = q2) (p := ⟨q2, 0, none⟩) (Tch.refl _ u4) rfl (.slice mA' nm cm')) rfl (.slice cA' n cc'))
 have hlt := QQ.out.lt
 have hq2 : q2 < w1.heap.size := O2.out.lt
 have hsz : ((u4.setCell ⟨q2, 0, none⟩ (.slice mA' nm cm')).setCell ⟨q2, 1, none⟩ (.slice cA' n cc')).heap.size = u4.heap.size := by simp [World.setCell]
 have s0 : ((u4.setCell ⟨q2, 0, none⟩ (.slice mA' nm cm')).setCell ⟨q2, 1, none⟩ (.slice cA' n cc')).cell? ⟨q2, 0, none⟩ = some (.slice mA' nm cm') := QF.out.cell 0
 have s1 : ((u4.setCell ⟨q2, 0, none⟩ (.slice mA' nm cm')).setCell ⟨q2, 1, none⟩ (.slice cA' n cc')).cell? ⟨q2, 1, none⟩ = some (.slice cA' n cc') := QF.out.cell 1
 have SM := sl_tch2 hsl1 TF.out (fun a ha e => by have := (hb1 a ha).1; omega)
 have SC := sl_tch2 hsl2 TF.out (fun a ha e => by have := (hb2 a ha).1; omega)
 have hw1 := B1.out.size
 rw [← hsz] at hb1 hb2
 clear hsz TF
 generalize ((u4.setCell ⟨q2, 0, none⟩ (.slice mA' nm cm')).setCell ⟨q2, 1, none⟩ (.slice cA' n cc')) = wf at QF BF s0 s1 SM SC hb1 hb2 ⊢
 exact bodyPost_ret (v := .agg #[.slice mA' nm cm', .slice cA' n cc']) (by simp [results, Tryz.results6, go_sem, s0, s1]) rfl ⟨⟨mA', cm', cA', cc', rfl, HLE1.out, HLE2.out, SM, SC, fun a ha => ⟨Nat.le_trans hw1 (hb1 a ha).1, (hb1 a ha).2⟩, fun a ha => ⟨Nat.le_trans hw1 (hb2 a ha).1, (hb2 a ha).2⟩, NM1, NC1⟩, BF.out⟩



/-- the module that runs asks for -/
def rl : List InstV := [⟨13, 3, 0, 0, 1⟩, ⟨22, 0, 3, 0, 0⟩]
theorem rl_judged : (Jd.judV [] rl).2 = 0 := by kernel_rfl
def rA0 : En.ActV := ⟨1, 0, 0, 0, 0#64, 0#64, 0#64⟩
def rA1 : En.ActV := ⟨4, 1, 0, 0, 0#64, 0#64, 7#64⟩
theorem rl_trace : traceV [] rl 6#64 7#64 (Op.costV rl).toNat (En.st0 Sc.zz) [] = [rA0, rA1] := by kernel_rfl
theorem trok_any (w : World) (cA : Option Addr) (c : Nat) (hc2 : 2 ≤ c) (hf : Op.Frm w) (ht : Sg.Tab w) (hs : Sl w cA (inss rl)) (hc0 : cA ≠ none) (hcs : ∀ a, cA = some a → a.block < w.heap.size) :
 Calls Tryz.prog 12 #[.agg #[.slice none 0 0, .slice cA 2 c], .agg #[.int .u64 6, .int .u64 7], .slice none 0 0] w fun e w' => (∃ v, e = .returned (.tuple #[v, .int .i64 0]) ∧ w'.ownsRow w.heap.size 55 7 v 2 (accs [rA0, rA1])) ∧ Below w.heap.size w w' := by
 have h := trace_any w 6#64 7#64 rl [] [] none cA none 0 0 2 c 0 0 rfl hc2 rfl (Nat.le_refl _) (by decide) rfl (Nat.le_refl _) hf ht hs (Sl.nil w none) (Sl.nil w none) (fun r hr => by cases hr) (fun e => absurd e hc0) (fun _ => ⟨rfl, rfl⟩) hcs (fun a e => by cases e) rl_judged
 rw [rl_trace] at h
 exact h

theorem runs_any (w : World) (hf : Op.Frm w) (ht : Sg.Tab w) : Calls Tryz.prog 4 #[] w fun e w' => e = .returned (.bool true) ∧ Below w.heap.size w w' := by
 have hb := below_alloc (Below.refl w.heap.size w) (.cells #[.int .i64 13, .int .i64 3, .int .i64 0, .int .i64 0, .int .i64 1, .int .i64 22, .int .i64 0, .int .i64 3, .int .i64 0, .int .i64 0] 59)
 have hsz : (w.alloc (.cells #[.int .i64 13, .int .i64 3, .int .i64 0, .int .i64 0, .int .i64 1, .int .i64 22, .int .i64 0, .int .i64 3, .int .i64 0, .int .i64 0] 59)).heap.size = w.heap.size + 1 := by simp
 have HTR := Lib.hid (trok_any (w.alloc (.cells #[.int .i64 13, .int .i64 3, .int .i64 0, .int .i64 0, .int .i64 1, .int .i64 22, .int .i64 0, .int .i64 3, .int .i64 0, .int .i64 0] 59)) (some ⟨w.heap.size, 0, none⟩) 2 (Nat.le_refl _) (hf.below hb) (ht.below hb) (Sl.fresh w #[.int .i64 13, .int .i64 3, .int .i64 0, .int .i64 0, .int .i64 1, .int .i64 22, .int .i64 0, .int .i64 3, .int .i64 0, .int .i64 0] 59 (0, 0)) (fun h => by cases h) (fun a h => by injection h with h; subst h; rw [hsz]; exact Nat.lt_succ_self _))
 have B1 := Lib.hid hb
 clear hf ht hb hsz
 go_enter Tryz.func4, Tryz.ntmps4
 go_wp2_with fail
 refine HTR.out.mono ?_
 rintro e w2 ⟨⟨v, rfl, hown⟩, b2⟩
 obtain ⟨A, c, rfl, hc2, _, hsl, _⟩ := own_form hown
 obtain ⟨b, o, rfl, hc⟩ := hsl (by decide)
 have B2 := Lib.hid (B1.out.trans (b2.mono B1.out.size))
 have c0 : w2.cell? ⟨b, o + 7, none⟩ = some (.int .i64 4) := hc 7 (by decide)
 have c1 : w2.cell? ⟨b, o + 7 + 1, none⟩ = some (.int .i64 1) := hc 8 (by decide)
 have c2 : w2.cell? ⟨b, o + 7 + 2, none⟩ = some (.int .i64 0) := hc 9 (by decide)
 have c3 : w2.cell? ⟨b, o + 7 + 3, none⟩ = some (.int .i64 0) := hc 10 (by decide)
 have c4 : w2.cell? ⟨b, o + 7 + 4, none⟩ = some (.int .u64 0) := hc 11 (by decide)
 have c5 : w2.cell? ⟨b, o + 7 + 5, none⟩ = some (.int .u64 0) := hc 12 (by decide)
 have c6 : w2.cell? ⟨b, o + 7 + 6, none⟩ = some (.int .u64 7) := hc 13 (by decide)
 clear hown hsl hc b2 B1 HTR hc2
 go_wp2_with fail
 go_ret
 exact ⟨rfl, B2.out⟩
end Go.Proofs.YtikkmkomlajnfaaGreatDoor.Wf
end
