/-
  A module in new memory. Conditions: those of each theorem.
  What the law's loop goes over: two machines, the marks' numbers, what stands. Conditions: those of each theorem.
  What a turn of the law's loop makes of the run. Plain.
-/
import Derived.Test.YtjcffmcafjineaaDoorWm01
import Derived.Test.YtjcffmcafjineaaDoorWm26
import Derived.Test.YtjcffmcafjineaaDoorWm25
set_option linter.unusedVariables false
set_option linter.unusedSimpArgs false
section
namespace Go.Proofs.YtjcffmcafjineaaDoor.Tp
open Go.RowKit
open Go.Proofs.YtjcffmcafjineaaDoor.Op (InstV insc insVal inss ins0 ins_at inss_length inss_allone)
open Go.Proofs.YtjcffmcafjineaaDoor.En (keepS ints ints_length ints_one int_info inst_info own_none)

theorem own_none' {w : World} {base : Nat} {e : TypeId} {size n c : Nat} {A : Option Addr} {xs : List Value} (h : w.ownsRow base e size (.slice A n c) n xs) : A = none → n = 0 ∧ c = 0 := fun ha => by
 subst ha
 exact own_none h
theorem sl_tch2 {B : Nat → Prop} {w w' : World} {A : Option Addr} {xs : List Value} (h : Sl w A xs) (k : Tch B w w') (hn : ∀ a, A = some a → ¬ B a.block) : Sl w' A xs := En.sl_tch h k hn
set_option maxRecDepth 100000 in
set_option maxHeartbeats 16000000 in
theorem copied_any (w : World) (l : List InstV) (ms : List Int) (mA cA : Option Addr) (nm cm n c : Nat) (hn : n = l.length) (hnm : nm = ms.length) (hb1 : nm * 8 ≤ 140737488351232) (hb2 : n * 40 ≤ 140737488351232) (hs : Sl w cA (inss l)) (hm : Sl w mA (ints ms)) :
 Calls Tryd.prog 6 #[.agg #[.slice mA nm cm, .slice cA n c]] w fun e w' => (∃ mA' cm' cA' cc', e = .returned (.agg #[.slice mA' nm cm', .slice cA' n cc']) ∧ nm ≤ cm' ∧ n ≤ cc' ∧ Sl w' mA' (ints ms) ∧ Sl w' cA' (inss l) ∧ (∀ a, mA' = some a → w.heap.size ≤ a.block ∧ a.block < w'.heap.size) ∧ (∀ a, cA' = some a → w.heap.size ≤ a.block ∧ a.block < w'.heap.size) ∧
  (mA' = none → nm = 0 ∧ cm' = 0) ∧ (cA' = none → n = 0 ∧ cc' = 0)) ∧ Below w.heap.size w w' := by
 have HB1 := Lib.hid hb1
 have HB2 := Lib.hid hb2
 have HLI := Lib.hid (show (ints ms).length = nm * 1 by rw [ints_length, Nat.mul_one]; exact hnm.symm)
 have HLC := Lib.hid (show (inss l).length = n * 5 by rw [inss_length, hn])
 have HS := Lib.hid hs
 have HM := Lib.hid hm
 have B0 := Lib.hid (Below.refl w.heap.size w)
 obtain ⟨i1, hi1, hz1, hs1, hy1⟩ := info_parts int_info
 obtain ⟨i2, hi2, hz2, hs2, hy2⟩ := info_parts inst_info
 have HI1 := Lib.hid (And.intro hi1 (And.intro hz1 (And.intro hs1 hy1)))
 have HI2 := Lib.hid (And.intro hi2 (And.intro hz2 (And.intro hs2 hy2)))
 clear hn hnm hb1 hb2 hs hm hi1 hz1 hs1 hy1 hi2 hz2 hs2 hy2
 go_enter Tryd.func6, Tryd.ntmps6
 go_upto_region 1 with fail
 have O1 := Lib.hid (Ob.alloc (Ob.fresh w 25 [.slice mA nm cm, .slice cA n c]) (.cells #[.slice none 0 0, .slice none 0 0] 25))
 have O2 := Lib.hid (Ob.fresh (w.alloc (.cells #[.slice mA nm cm, .slice cA n c] 25)) 25 [.slice none 0 0, .slice none 0 0])
 rw [show (w.alloc (.cells #[.slice mA nm cm, .slice cA n c] 25)).heap.size = w.heap.size + 1 by simp] at O2
 have B1 := Lib.hid (below_alloc (below_alloc (B0.out) (.cells #[.slice mA nm cm, .slice cA n c] 25)) (.cells #[.slice none 0 0, .slice none 0 0] 25))
 have Hq1 := Lib.hid (show w.heap.size ≤ w.heap.size by have := B0.out.size; omega)
 have Hq2 := Lib.hid (show w.heap.size ≤ w.heap.size + 1 by have := B0.out.size; omega)
 have Nq1q2 := Lib.hid (show w.heap.size ≠ w.heap.size + 1 by omega)
 clear B0
 generalize ((w.alloc (.cells #[.slice mA nm cm, .slice cA n c] 25)).alloc (.cells #[.slice none 0 0, .slice none 0 0] 25)) = w1 at O1 O2 B1 ⊢
 obtain ⟨q2, hq2⟩ : ∃ q2, w.heap.size + 1 = q2 := ⟨_, rfl⟩
 rw [hq2] at O2 Hq2 Nq1q2 ⊢
 clear hq2
 obtain ⟨q1, hq1⟩ : ∃ q1, w.heap.size = q1 := ⟨_, rfl⟩
 have Hq1 := Lib.hid (Nat.le_of_eq hq1)
 rw [hq1] at O1 Nq1q2 ⊢
 clear hq1
 have N12 := Lib.hid Nq1q2.out
 have KS := Lib.hid (show ∀ w', Below w1.heap.size w1 w' → (w'.cell? ⟨q1, 0, none⟩ = some (.slice mA nm cm) ∧ w'.cell? ⟨q1, 1, none⟩ = some (.slice cA n c)) from fun w' hb => ⟨(O1.out.below hb O1.out.lt).cell 0, (O1.out.below hb O1.out.lt).cell 1⟩)
 obtain ⟨wd, hwd⟩ : ∃ wd, w1.drew = wd := ⟨_, rfl⟩
 have BD := Lib.hid (show Below w1.heap.size w1 wd from hwd ▸ below_drewN (Below.refl w1.heap.size w1) 1)
 refine wp_region_held_drew (S := fun w' => (w'.cell? ⟨q1, 0, none⟩ = some (.slice mA nm cm) ∧ w'.cell? ⟨q1, 1, none⟩ = some (.slice cA n c))) (by kernel_rfl) (hwd ▸ KS.out wd BD.out) (fun hHeld => ?_)
 refine tkq 1 4 rfl (by kernel_rfl) (by rfl) hHeld (fun _ _ _ h => h) (by intro w' hSw; go_simp; try with_reducible rfl) ?_
 simp only [Act.put, spa, spb, spc]
 refine tkq 2 5 rfl (by kernel_rfl) (by rfl) hHeld (fun _ _ _ h => h) (by intro w' hSw; go_simp; try with_reducible rfl) ?_
 simp only [Act.put, spa, spb, spc]
 refine tkq 5 8 rfl (by kernel_rfl) (by rfl) hHeld (fun _ _ _ h => h) (by intro w' hSw; go_simp; try with_reducible rfl) ?_
 simp only [Act.put, spa, spb, spc]
 refine tkq 6 9 rfl (by kernel_rfl) (by rfl) hHeld (fun _ _ _ h => h) (by intro w' hSw; go_simp; try with_reducible rfl) ?_
 simp only [Act.put, spa, spb, spc]
 refine wpAnyH_ready (rs := [0, 4]) (by kernel_rfl) (by simp) ?_
 refine AllReadyH.cons (o := ⟨some 3, _, _, _, _, _⟩) rfl (fun K' hK => ?_) ?_
 · go_simp
   refine hK.out _ _ (KS.out _ (below_alloc BD.out (.cells #[] 3))) (fun hHeld => ?_)
   clear hK K'
   clear hHeld
   have B11 := Lib.hid (below_alloc BD.out (.cells #[] 3))
   have OM1 := Lib.hid (own_empty BD.out 3 1)
   obtain ⟨gM, hgM⟩ : ∃ gq, wd.heap.size = gq := ⟨_, rfl⟩
   rw [hgM] at OM1 ⊢
   clear hgM
   generalize wd.alloc (.cells #[] 3) = u1 at B11 OM1 ⊢
   have hHeld := KS.out _ B11.out
   refine wpAnyH_ready (rs := [3, 4]) (by kernel_rfl) (by simp) ?_
   refine AllReadyH.cons (o := ⟨some 6, _, _, _, _, _⟩) rfl (fun K' hK => ?_) ?_
   · rw [if_pos (by rfl)]
     refine wp_append_sl u1 (.tmp 3) (.tmp 5) 22 rfl w1.heap.size 3 _ _ 1 8 Tryd.underlying22 HI1.out.1 HI1.out.2.1 HI1.out.2.2.1 HI1.out.2.2.2 rfl (by omega) (.slice (some ⟨gM, 0, none⟩) 0 0) 0 [] rfl OM1.out
      mA nm cm (ints ms) rfl HLI.out (HM.out.below (B1.out.trans (B11.out.mono B1.out.size))) (ints_one ms) (by have := HB1.out; simp only [maxLen]; omega) (by rw [Nat.zero_add]; have := HB1.out; omega) B11.out.size ?_
     intro v' u2 hrow hgr _
     rw [Nat.zero_add, List.nil_append] at hrow
     have B12 := Lib.hid (B11.out.grown hgr B11.out.size (fun k hk => (OM1.out.lt k hk).1))
     have OM2 := Lib.hid hrow
     clear hrow hgr
     obtain ⟨mA', cm', hvm, hle1, _, _, _⟩ := own_form OM2.out
     subst hvm
     have HLE1 := Lib.hid hle1
     clear hle1
     refine hK.out _ _ (KS.out _ B12.out) (fun hHeld => ?_)
     clear hK K'
     refine rdq 4 ⟨some 7, _, _, _, _, _⟩ (by kernel_rfl) rfl (fun K' hK => ?_)
     go_simp
     refine hK.out _ _ (KS.out _ (below_alloc B12.out (.cells #[] 70))) (fun hHeld => ?_)
     clear hK K'
     clear hHeld
     have B13 := Lib.hid (below_alloc B12.out (.cells #[] 70))
     have OC3 := Lib.hid (own_empty B12.out 70 5)
     have OM3 := Lib.hid (World.ownsRow.alloc OM2.out (.cells #[] 70))
     obtain ⟨gC, hgC⟩ : ∃ gq, u2.heap.size = gq := ⟨_, rfl⟩
     rw [hgC] at OC3 ⊢
     clear hgC
     generalize u2.alloc (.cells #[] 70) = u3 at B13 OC3 OM3 ⊢
     have hHeld := KS.out _ B13.out
     refine rdq 7 ⟨some 10, _, _, _, _, _⟩ (by kernel_rfl) rfl (fun K' hK => ?_)
     rw [if_pos (by rfl)]
     refine wp_append_sl u3 (.tmp 7) (.tmp 9) 23 rfl w1.heap.size 70 _ _ 5 40 Tryd.underlying23 HI2.out.1 HI2.out.2.1 HI2.out.2.2.1 HI2.out.2.2.2 rfl (by omega) (.slice (some ⟨gC, 0, none⟩) 0 0) 0 [] rfl OC3.out
      cA n c (inss l) rfl HLC.out (HS.out.below (B1.out.trans (B13.out.mono B1.out.size))) (inss_allone l) (by have := HB2.out; simp only [maxLen]; omega) (by rw [Nat.zero_add]; have := HB2.out; omega) B13.out.size ?_
     intro v' u4 hrow hgr _
     rw [Nat.zero_add, List.nil_append] at hrow
     have B14 := Lib.hid (B13.out.grown hgr B13.out.size (fun k hk => (OC3.out.lt k hk).1))
     have OC4 := Lib.hid hrow
     have OM4 := Lib.hid (own_tch OM3.out (Tch.of_grown hgr) (fun i hi e => own_apart OC3.out OM3.out (by decide) i e hi))
     clear hrow hgr
     obtain ⟨cA', cc', hvc, hle2, _, _, _⟩ := own_form OC4.out
     subst hvc
     have HLE2 := Lib.hid hle2
     clear hle2
     refine hK.out _ _ (KS.out _ B14.out) (fun hHeld => ?_)
     clear hK K'
     refine tkq 8 11 rfl (by kernel_rfl) (by rfl) hHeld (fun _ _ _ h => h) (by intro w' hSw; go_simp; try with_reducible rfl) ?_
     simp only [Act.put, spa, spb, spc]
     refine rdq 9 ⟨none, _, _, _, _, _⟩ (by kernel_rfl) rfl (fun K' hK => ?_)
     have QQ := Lib.hid (O2.out.below B14.out O2.out.lt)
     have e0 := QQ.out.c0
     have e1 := QQ.out.c1
     have ez : ∀ x, u4.frozen? ⟨q2, x, none⟩ = false := QQ.out.frozen
     go_simp
     have O1k := Lib.hid (((O1.out.below B14.out O1.out.lt).far (p := ⟨q2, 0, none⟩) N12.out (.slice mA' nm cm')).far (p := ⟨q2, 1, none⟩) N12.out (.slice cA' n cc'))
     refine hK.out _ _ ⟨O1k.out.cell 0, O1k.out.cell 1⟩ (fun hHeld => ?_)
     clear hK K'
     clear hHeld e0 e1 ez
     refine wpAnyH_done (by kernel_rfl) ?_ _
     go_wp2_with fail
     obtain ⟨_, _, hv1, _, _, hsl1, hb1⟩ := own_form OM4.out
     injection hv1 with a1 a2 a3
     subst a1 a3
     obtain ⟨_, _, hv2, _, _, hsl2, hb2⟩ := own_form OC4.out
     injection hv2 with a1 a2 a3
     subst a1 a3
     have NM1 := own_none' OM4.out
     have NC1 := own_none' OC4.out
     have QF := Lib.hid (show Ob ((u4.setCell ⟨q2, 0, none⟩ (.slice mA' nm cm')).setCell ⟨q2, 1, none⟩ (.slice cA' n cc')) q2 25 [.slice mA' nm cm', .slice cA' n cc'] from (QQ.out.set_ 0 _).set_ 1 _)
     have BF := Lib.hid (show Below w.heap.size w ((u4.setCell ⟨q2, 0, none⟩ (.slice mA' nm cm')).setCell ⟨q2, 1, none⟩ (.slice cA' n cc')) from (((B1.out.trans (B14.out.mono B1.out.size))).setCell (p := ⟨q2, 0, none⟩) Hq2.out (.slice mA' nm cm')).setCell (p := ⟨q2, 1, none⟩) Hq2.out (.slice cA' n cc'))
     have TF := Lib.hid (show Tch (fun k => k = q2) u4 ((u4.setCell ⟨q2, 0, none⟩ (.slice mA' nm cm')).setCell ⟨q2, 1, none⟩ (.slice cA' n cc')) from Tch.setCell (S := fun k => k = q2) (p := ⟨q2, 1, none⟩) (Tch.setCell (S := fun k => k = q2) (p := ⟨q2, 0, none⟩) (Tch.refl _ u4) rfl (.slice mA' nm cm')) rfl (.slice cA' n cc'))
     have hlt := QQ.out.lt
     have hq2 : q2 < w1.heap.size := O2.out.lt
     have hsz : ((u4.setCell ⟨q2, 0, none⟩ (.slice mA' nm cm')).setCell ⟨q2, 1, none⟩ (.slice cA' n cc')).heap.size = u4.heap.size := by simp [World.setCell]
     have s0 : ((u4.setCell ⟨q2, 0, none⟩ (.slice mA' nm cm')).setCell ⟨q2, 1, none⟩ (.slice cA' n cc')).cell? ⟨q2, 0, none⟩ = some (.slice mA' nm cm') := QF.out.cell 0
     have s1 : ((u4.setCell ⟨q2, 0, none⟩ (.slice mA' nm cm')).setCell ⟨q2, 1, none⟩ (.slice cA' n cc')).cell? ⟨q2, 1, none⟩ = some (.slice cA' n cc') := QF.out.cell 1
     have SM := sl_tch2 hsl1 TF.out (fun a ha e => by have := (hb1 a ha).1; omega)
     have SC := sl_tch2 hsl2 TF.out (fun a ha e => by have := (hb2 a ha).1; omega)
     have hw1 := B1.out.size
     rw [← hsz] at hb1 hb2
     clear hsz TF
     generalize ((u4.setCell ⟨q2, 0, none⟩ (.slice mA' nm cm')).setCell ⟨q2, 1, none⟩ (.slice cA' n cc')) = wf at QF BF s0 s1 SM SC hb1 hb2 ⊢
     exact bodyPost_ret (v := .agg #[.slice mA' nm cm', .slice cA' n cc']) (by simp [results, Tryd.results6, go_sem, s0, s1]) rfl ⟨⟨mA', cm', cA', cc', rfl, HLE1.out, HLE2.out, SM, SC, fun a ha => ⟨Nat.le_trans hw1 (hb1 a ha).1, (hb1 a ha).2⟩, fun a ha => ⟨Nat.le_trans hw1 (hb2 a ha).1, (hb2 a ha).2⟩, NM1, NC1⟩, BF.out⟩
   refine AllReadyH.cons (o := ⟨some 7, _, _, _, _, _⟩) rfl (fun K' hK => ?_) AllReadyH.nil
   go_simp
   refine hK.out _ _ (KS.out _ (below_alloc B11.out (.cells #[] 70))) (fun hHeld => ?_)
   clear hK K'
   clear hHeld
   have B12 := Lib.hid (below_alloc B11.out (.cells #[] 70))
   have OC2 := Lib.hid (own_empty B11.out 70 5)
   have OM2 := Lib.hid (World.ownsRow.alloc OM1.out (.cells #[] 70))
   obtain ⟨gC, hgC⟩ : ∃ gq, u1.heap.size = gq := ⟨_, rfl⟩
   rw [hgC] at OC2 ⊢
   clear hgC
   generalize u1.alloc (.cells #[] 70) = u2 at B12 OC2 OM2 ⊢
   have hHeld := KS.out _ B12.out
   refine rdq 3 ⟨some 6, _, _, _, _, _⟩ (by kernel_rfl) rfl (fun K' hK => ?_)
   rw [if_pos (by rfl)]
   refine wp_append_sl u2 (.tmp 3) (.tmp 5) 22 rfl w1.heap.size 3 _ _ 1 8 Tryd.underlying22 HI1.out.1 HI1.out.2.1 HI1.out.2.2.1 HI1.out.2.2.2 rfl (by omega) (.slice (some ⟨gM, 0, none⟩) 0 0) 0 [] rfl OM2.out
    mA nm cm (ints ms) rfl HLI.out (HM.out.below (B1.out.trans (B12.out.mono B1.out.size))) (ints_one ms) (by have := HB1.out; simp only [maxLen]; omega) (by rw [Nat.zero_add]; have := HB1.out; omega) B12.out.size ?_
   intro v' u3 hrow hgr _
   rw [Nat.zero_add, List.nil_append] at hrow
   have B13 := Lib.hid (B12.out.grown hgr B12.out.size (fun k hk => (OM2.out.lt k hk).1))
   have OM3 := Lib.hid hrow
   have OC3 := Lib.hid (own_tch OC2.out (Tch.of_grown hgr) (fun i hi e => own_apart OM2.out OC2.out (by decide) i e hi))
   clear hrow hgr
   obtain ⟨mA', cm', hvm, hle1, _, _, _⟩ := own_form OM3.out
   subst hvm
   have HLE1 := Lib.hid hle1
   clear hle1
   refine hK.out _ _ (KS.out _ B13.out) (fun hHeld => ?_)
   clear hK K'
   refine rdq 7 ⟨some 10, _, _, _, _, _⟩ (by kernel_rfl) rfl (fun K' hK => ?_)
   rw [if_pos (by rfl)]
   refine wp_append_sl u3 (.tmp 7) (.tmp 9) 23 rfl w1.heap.size 70 _ _ 5 40 Tryd.underlying23 HI2.out.1 HI2.out.2.1 HI2.out.2.2.1 HI2.out.2.2.2 rfl (by omega) (.slice (some ⟨gC, 0, none⟩) 0 0) 0 [] rfl OC3.out
    cA n c (inss l) rfl HLC.out (HS.out.below (B1.out.trans (B13.out.mono B1.out.size))) (inss_allone l) (by have := HB2.out; simp only [maxLen]; omega) (by rw [Nat.zero_add]; have := HB2.out; omega) B13.out.size ?_
   intro v' u4 hrow hgr _
   rw [Nat.zero_add, List.nil_append] at hrow
   have B14 := Lib.hid (B13.out.grown hgr B13.out.size (fun k hk => (OC3.out.lt k hk).1))
   have OC4 := Lib.hid hrow
   have OM4 := Lib.hid (own_tch OM3.out (Tch.of_grown hgr) (fun i hi e => own_apart OC3.out OM3.out (by decide) i e hi))
   clear hrow hgr
   obtain ⟨cA', cc', hvc, hle2, _, _, _⟩ := own_form OC4.out
   subst hvc
   have HLE2 := Lib.hid hle2
   clear hle2
   refine hK.out _ _ (KS.out _ B14.out) (fun hHeld => ?_)
   clear hK K'
   refine tkq 8 11 rfl (by kernel_rfl) (by rfl) hHeld (fun _ _ _ h => h) (by intro w' hSw; go_simp; try with_reducible rfl) ?_
   simp only [Act.put, spa, spb, spc]
   refine rdq 9 ⟨none, _, _, _, _, _⟩ (by kernel_rfl) rfl (fun K' hK => ?_)
   have QQ := Lib.hid (O2.out.below B14.out O2.out.lt)
   have e0 := QQ.out.c0
   have e1 := QQ.out.c1
   have ez : ∀ x, u4.frozen? ⟨q2, x, none⟩ = false := QQ.out.frozen
   go_simp
   have O1k := Lib.hid (((O1.out.below B14.out O1.out.lt).far (p := ⟨q2, 0, none⟩) N12.out (.slice mA' nm cm')).far (p := ⟨q2, 1, none⟩) N12.out (.slice cA' n cc'))
   refine hK.out _ _ ⟨O1k.out.cell 0, O1k.out.cell 1⟩ (fun hHeld => ?_)
   clear hK K'
   clear hHeld e0 e1 ez
   refine wpAnyH_done (by kernel_rfl) ?_ _
   go_wp2_with fail
   obtain ⟨_, _, hv1, _, _, hsl1, hb1⟩ := own_form OM4.out
   injection hv1 with a1 a2 a3
   subst a1 a3
   obtain ⟨_, _, hv2, _, _, hsl2, hb2⟩ := own_form OC4.out
   injection hv2 with a1 a2 a3
   subst a1 a3
   have NM1 := own_none' OM4.out
   have NC1 := own_none' OC4.out
   have QF := Lib.hid (show Ob ((u4.setCell ⟨q2, 0, none⟩ (.slice mA' nm cm')).setCell ⟨q2, 1, none⟩ (.slice cA' n cc')) q2 25 [.slice mA' nm cm', .slice cA' n cc'] from (QQ.out.set_ 0 _).set_ 1 _)
   have BF := Lib.hid (show Below w.heap.size w ((u4.setCell ⟨q2, 0, none⟩ (.slice mA' nm cm')).setCell ⟨q2, 1, none⟩ (.slice cA' n cc')) from (((B1.out.trans (B14.out.mono B1.out.size))).setCell (p := ⟨q2, 0, none⟩) Hq2.out (.slice mA' nm cm')).setCell (p := ⟨q2, 1, none⟩) Hq2.out (.slice cA' n cc'))
   have TF := Lib.hid (show Tch (fun k => k = q2) u4 ((u4.setCell ⟨q2, 0, none⟩ (.slice mA' nm cm')).setCell ⟨q2, 1, none⟩ (.slice cA' n cc')) from Tch.setCell (S := fun k => k = q2) (p := ⟨q2, 1, none⟩) (Tch.setCell (S := fun k => k = q2) (p := ⟨q2, 0, none⟩) (Tch.refl _ u4) rfl (.slice mA' nm cm')) rfl (.slice cA' n cc'))
   have hlt := QQ.out.lt
   have hq2 : q2 < w1.heap.size := O2.out.lt
   have hsz : ((u4.setCell ⟨q2, 0, none⟩ (.slice mA' nm cm')).setCell ⟨q2, 1, none⟩ (.slice cA' n cc')).heap.size = u4.heap.size := by simp [World.setCell]
   have s0 : ((u4.setCell ⟨q2, 0, none⟩ (.slice mA' nm cm')).setCell ⟨q2, 1, none⟩ (.slice cA' n cc')).cell? ⟨q2, 0, none⟩ = some (.slice mA' nm cm') := QF.out.cell 0
   have s1 : ((u4.setCell ⟨q2, 0, none⟩ (.slice mA' nm cm')).setCell ⟨q2, 1, none⟩ (.slice cA' n cc')).cell? ⟨q2, 1, none⟩ = some (.slice cA' n cc') := QF.out.cell 1
   have SM := sl_tch2 hsl1 TF.out (fun a ha e => by have := (hb1 a ha).1; omega)
   have SC := sl_tch2 hsl2 TF.out (fun a ha e => by have := (hb2 a ha).1; omega)
   have hw1 := B1.out.size
   rw [← hsz] at hb1 hb2
   clear hsz TF
   generalize ((u4.setCell ⟨q2, 0, none⟩ (.slice mA' nm cm')).setCell ⟨q2, 1, none⟩ (.slice cA' n cc')) = wf at QF BF s0 s1 SM SC hb1 hb2 ⊢
   exact bodyPost_ret (v := .agg #[.slice mA' nm cm', .slice cA' n cc']) (by simp [results, Tryd.results6, go_sem, s0, s1]) rfl ⟨⟨mA', cm', cA', cc', rfl, HLE1.out, HLE2.out, SM, SC, fun a ha => ⟨Nat.le_trans hw1 (hb1 a ha).1, (hb1 a ha).2⟩, fun a ha => ⟨Nat.le_trans hw1 (hb2 a ha).1, (hb2 a ha).2⟩, NM1, NC1⟩, BF.out⟩
 refine AllReadyH.cons (o := ⟨some 7, _, _, _, _, _⟩) rfl (fun K' hK => ?_) AllReadyH.nil
 go_simp
 refine hK.out _ _ (KS.out _ (below_alloc BD.out (.cells #[] 70))) (fun hHeld => ?_)
 clear hK K'
 clear hHeld
 have B11 := Lib.hid (below_alloc BD.out (.cells #[] 70))
 have OC1 := Lib.hid (own_empty BD.out 70 5)
 obtain ⟨gC, hgC⟩ : ∃ gq, wd.heap.size = gq := ⟨_, rfl⟩
 rw [hgC] at OC1 ⊢
 clear hgC
 generalize wd.alloc (.cells #[] 70) = u1 at B11 OC1 ⊢
 have hHeld := KS.out _ B11.out
 refine rdq 0 ⟨some 3, _, _, _, _, _⟩ (by kernel_rfl) rfl (fun K' hK => ?_)
 go_simp
 refine hK.out _ _ (KS.out _ (below_alloc B11.out (.cells #[] 3))) (fun hHeld => ?_)
 clear hK K'
 clear hHeld
 have B12 := Lib.hid (below_alloc B11.out (.cells #[] 3))
 have OM2 := Lib.hid (own_empty B11.out 3 1)
 have OC2 := Lib.hid (World.ownsRow.alloc OC1.out (.cells #[] 3))
 obtain ⟨gM, hgM⟩ : ∃ gq, u1.heap.size = gq := ⟨_, rfl⟩
 rw [hgM] at OM2 ⊢
 clear hgM
 generalize u1.alloc (.cells #[] 3) = u2 at B12 OM2 OC2 ⊢
 have hHeld := KS.out _ B12.out
 refine rdq 3 ⟨some 6, _, _, _, _, _⟩ (by kernel_rfl) rfl (fun K' hK => ?_)
 rw [if_pos (by rfl)]
 refine wp_append_sl u2 (.tmp 3) (.tmp 5) 22 rfl w1.heap.size 3 _ _ 1 8 Tryd.underlying22 HI1.out.1 HI1.out.2.1 HI1.out.2.2.1 HI1.out.2.2.2 rfl (by omega) (.slice (some ⟨gM, 0, none⟩) 0 0) 0 [] rfl OM2.out
  mA nm cm (ints ms) rfl HLI.out (HM.out.below (B1.out.trans (B12.out.mono B1.out.size))) (ints_one ms) (by have := HB1.out; simp only [maxLen]; omega) (by rw [Nat.zero_add]; have := HB1.out; omega) B12.out.size ?_
 intro v' u3 hrow hgr _
 rw [Nat.zero_add, List.nil_append] at hrow
 have B13 := Lib.hid (B12.out.grown hgr B12.out.size (fun k hk => (OM2.out.lt k hk).1))
 have OM3 := Lib.hid hrow
 have OC3 := Lib.hid (own_tch OC2.out (Tch.of_grown hgr) (fun i hi e => own_apart OM2.out OC2.out (by decide) i e hi))
 clear hrow hgr
 obtain ⟨mA', cm', hvm, hle1, _, _, _⟩ := own_form OM3.out
 subst hvm
 have HLE1 := Lib.hid hle1
 clear hle1
 refine hK.out _ _ (KS.out _ B13.out) (fun hHeld => ?_)
 clear hK K'
 refine rdq 7 ⟨some 10, _, _, _, _, _⟩ (by kernel_rfl) rfl (fun K' hK => ?_)
 rw [if_pos (by rfl)]
 refine wp_append_sl u3 (.tmp 7) (.tmp 9) 23 rfl w1.heap.size 70 _ _ 5 40 Tryd.underlying23 HI2.out.1 HI2.out.2.1 HI2.out.2.2.1 HI2.out.2.2.2 rfl (by omega) (.slice (some ⟨gC, 0, none⟩) 0 0) 0 [] rfl OC3.out
  cA n c (inss l) rfl HLC.out (HS.out.below (B1.out.trans (B13.out.mono B1.out.size))) (inss_allone l) (by have := HB2.out; simp only [maxLen]; omega) (by rw [Nat.zero_add]; have := HB2.out; omega) B13.out.size ?_
 intro v' u4 hrow hgr _
 rw [Nat.zero_add, List.nil_append] at hrow
 have B14 := Lib.hid (B13.out.grown hgr B13.out.size (fun k hk => (OC3.out.lt k hk).1))
 have OC4 := Lib.hid hrow
 have OM4 := Lib.hid (own_tch OM3.out (Tch.of_grown hgr) (fun i hi e => own_apart OC3.out OM3.out (by decide) i e hi))
 clear hrow hgr
 obtain ⟨cA', cc', hvc, hle2, _, _, _⟩ := own_form OC4.out
 subst hvc
 have HLE2 := Lib.hid hle2
 clear hle2
 refine hK.out _ _ (KS.out _ B14.out) (fun hHeld => ?_)
 clear hK K'
 refine tkq 8 11 rfl (by kernel_rfl) (by rfl) hHeld (fun _ _ _ h => h) (by intro w' hSw; go_simp; try with_reducible rfl) ?_
 simp only [Act.put, spa, spb, spc]
 refine rdq 9 ⟨none, _, _, _, _, _⟩ (by kernel_rfl) rfl (fun K' hK => ?_)
 have QQ := Lib.hid (O2.out.below B14.out O2.out.lt)
 have e0 := QQ.out.c0
 have e1 := QQ.out.c1
 have ez : ∀ x, u4.frozen? ⟨q2, x, none⟩ = false := QQ.out.frozen
 go_simp
 have O1k := Lib.hid (((O1.out.below B14.out O1.out.lt).far (p := ⟨q2, 0, none⟩) N12.out (.slice mA' nm cm')).far (p := ⟨q2, 1, none⟩) N12.out (.slice cA' n cc'))
 refine hK.out _ _ ⟨O1k.out.cell 0, O1k.out.cell 1⟩ (fun hHeld => ?_)
 clear hK K'
 clear hHeld e0 e1 ez
 refine wpAnyH_done (by kernel_rfl) ?_ _
 go_wp2_with fail
 obtain ⟨_, _, hv1, _, _, hsl1, hb1⟩ := own_form OM4.out
 injection hv1 with a1 a2 a3
 subst a1 a3
 obtain ⟨_, _, hv2, _, _, hsl2, hb2⟩ := own_form OC4.out
 injection hv2 with a1 a2 a3
 subst a1 a3
 have NM1 := own_none' OM4.out
 have NC1 := own_none' OC4.out
 have QF := Lib.hid (show Ob ((u4.setCell ⟨q2, 0, none⟩ (.slice mA' nm cm')).setCell ⟨q2, 1, none⟩ (.slice cA' n cc')) q2 25 [.slice mA' nm cm', .slice cA' n cc'] from (QQ.out.set_ 0 _).set_ 1 _)
 have BF := Lib.hid (show Below w.heap.size w ((u4.setCell ⟨q2, 0, none⟩ (.slice mA' nm cm')).setCell ⟨q2, 1, none⟩ (.slice cA' n cc')) from (((B1.out.trans (B14.out.mono B1.out.size))).setCell (p := ⟨q2, 0, none⟩) Hq2.out (.slice mA' nm cm')).setCell (p := ⟨q2, 1, none⟩) Hq2.out (.slice cA' n cc'))
 have TF := Lib.hid (show Tch (fun k => k = q2) u4 ((u4.setCell ⟨q2, 0, none⟩ (.slice mA' nm cm')).setCell ⟨q2, 1, none⟩ (.slice cA' n cc')) from Tch.setCell (S := fun k => k = q2) (p := ⟨q2, 1, none⟩) (Tch.setCell (S := fun k => k = q2) (p := ⟨q2, 0, none⟩) (Tch.refl _ u4) rfl (.slice mA' nm cm')) rfl (.slice cA' n cc'))
 have hlt := QQ.out.lt
 have hq2 : q2 < w1.heap.size := O2.out.lt
 have hsz : ((u4.setCell ⟨q2, 0, none⟩ (.slice mA' nm cm')).setCell ⟨q2, 1, none⟩ (.slice cA' n cc')).heap.size = u4.heap.size := by simp [World.setCell]
 have s0 : ((u4.setCell ⟨q2, 0, none⟩ (.slice mA' nm cm')).setCell ⟨q2, 1, none⟩ (.slice cA' n cc')).cell? ⟨q2, 0, none⟩ = some (.slice mA' nm cm') := QF.out.cell 0
 have s1 : ((u4.setCell ⟨q2, 0, none⟩ (.slice mA' nm cm')).setCell ⟨q2, 1, none⟩ (.slice cA' n cc')).cell? ⟨q2, 1, none⟩ = some (.slice cA' n cc') := QF.out.cell 1
 have SM := sl_tch2 hsl1 TF.out (fun a ha e => by have := (hb1 a ha).1; omega)
 have SC := sl_tch2 hsl2 TF.out (fun a ha e => by have := (hb2 a ha).1; omega)
 have hw1 := B1.out.size
 rw [← hsz] at hb1 hb2
 clear hsz TF
 generalize ((u4.setCell ⟨q2, 0, none⟩ (.slice mA' nm cm')).setCell ⟨q2, 1, none⟩ (.slice cA' n cc')) = wf at QF BF s0 s1 SM SC hb1 hb2 ⊢
 exact bodyPost_ret (v := .agg #[.slice mA' nm cm', .slice cA' n cc']) (by simp [results, Tryd.results6, go_sem, s0, s1]) rfl ⟨⟨mA', cm', cA', cc', rfl, HLE1.out, HLE2.out, SM, SC, fun a ha => ⟨Nat.le_trans hw1 (hb1 a ha).1, (hb1 a ha).2⟩, fun a ha => ⟨Nat.le_trans hw1 (hb2 a ha).1, (hb2 a ha).2⟩, NM1, NC1⟩, BF.out⟩

end Go.Proofs.YtjcffmcafjineaaDoor.Tp
end

section
namespace Go.Proofs.YtjcffmcafjineaaDoor.Tp
open Go.RowKit
open Go.Proofs.YtjcffmcafjineaaDoor.Op (InstV insc insVal inss ins0 ins_at rightV right_is RightI)
open Go.Proofs.YtjcffmcafjineaaDoor.En (StV rg rg_length rg_get rg_set rg_ext updI MAt Tg mcell st0 ActV acc acVal ac0 ofI srcU runS runD stepS stepA callS callA okI okC keepS sl_tch cell_tch ints ansS ResOk)
open Go.Proofs.YtjcffmcafjineaaDoor.Sg (ResV rec_ reVal)

def re0 : ResV := ⟨0, false, 0, false, 0, 0⟩
def recs (rs : List ResV) : List Value := rs.flatMap rec_
theorem recs_length (rs : List ResV) : (recs rs).length = rs.length * 6 := flat_length rec_ 6 (fun _ => rfl) rs
theorem rec_at {w : World} {A : Option Addr} {l : List ResV} (h : Sl w A (recs l)) (hn : 0 < l.length) :
 ∃ b o, A = some ⟨b, o, none⟩ ∧ ∀ k, k < l.length → w.cell? ⟨b, o + k * 6, none⟩ = some (.int .i64 (l.getD k re0).e) ∧ w.cell? ⟨b, o + k * 6 + 1, none⟩ = some (.bool (l.getD k re0).found) ∧
  w.cell? ⟨b, o + k * 6 + 2, none⟩ = some (.int .u64 (l.getD k re0).val) ∧ w.cell? ⟨b, o + k * 6 + 3, none⟩ = some (.bool (l.getD k re0).isOut) ∧ w.cell? ⟨b, o + k * 6 + 4, none⟩ = some (.int .u64 (l.getD k re0).ok) ∧ w.cell? ⟨b, o + k * 6 + 5, none⟩ = some (.int .u64 (l.getD k re0).ov) := by
 obtain ⟨b, o, e, hc⟩ := h (by rw [recs_length]; omega)
 rw [recs_length] at hc
 have key : ∀ k j, k < l.length → j < 6 → w.cell? ⟨b, o + k * 6 + j, none⟩ = some ((rec_ (l.getD k re0)).getD j undef) := fun k j hk hj => by
  have h1 := hc (k * 6 + j) (by omega)
  have h2 : (recs l)[k * 6 + j]? = (rec_ (l.getD k re0))[j]? := flat_get re0 rec_ 6 (fun _ => rfl) l k j hk hj
  rw [← Nat.add_assoc] at h1
  rw [h1, List.getD_eq_getElem?_getD (l := recs l), h2, ← List.getD_eq_getElem?_getD (l := rec_ (l.getD k re0))]
 exact ⟨b, o, e, fun k hk => ⟨key k 0 hk (by omega), key k 1 hk (by omega), key k 2 hk (by omega), key k 3 hk (by omega), key k 4 hk (by omega), key k 5 hk (by omega)⟩⟩

/-- the four blocks that a turn may touch -/
def Tq (gx gy gs gk : Nat) : Nat → Prop := fun i => i = gx ∨ i = gy ∨ i = gs ∨ i = gk
/-- what stands -/
structure WEnv (w : World) (gx gy gs gk q1 : Nat) (mX cX mY cY rA : Option Addr) (ms : List Int) (l : List InstV) (rs : List ResV) (R : List Value) : Prop where
 tab : Sg.Tab w
 sx : Sl w mX (ints ms)
 cx : Sl w cX (inss l)
 sy : Sl w mY (ints ms)
 cy : Sl w cY (inss l)
 sr : Sl w rA (recs rs)
 o1 : Ob w q1 31 R
 nt : ¬ Tq gx gy gs gk 0
 n1 : ¬ Tq gx gy gs gk q1
 nsx : ∀ a, mX = some a → ¬ Tq gx gy gs gk a.block
 ncx : ∀ a, cX = some a → ¬ Tq gx gy gs gk a.block
 nsy : ∀ a, mY = some a → ¬ Tq gx gy gs gk a.block
 ncy : ∀ a, cY = some a → ¬ Tq gx gy gs gk a.block
 nsr : 0 < rs.length → ∀ a, rA = some a → ¬ Tq gx gy gs gk a.block
section
variable {w0 w w' : World} {gx gy gs gk q1 : Nat} {mX cX mY cY rA : Option Addr} {ms : List Int} {l : List InstV} {rs : List ResV} {R : List Value}
theorem WEnv.tch (h : WEnv w gx gy gs gk q1 mX cX mY cY rA ms l rs R) (k : Tch (Tq gx gy gs gk) w w') : WEnv w' gx gy gs gk q1 mX cX mY cY rA ms l rs R :=
 ⟨Sg.Tab.tch h.tab k h.nt, sl_tch h.sx k h.nsx, sl_tch h.cx k h.ncx, sl_tch h.sy k h.nsy, sl_tch h.cy k h.ncy, (by
  rcases Nat.eq_zero_or_pos rs.length with e | e
  · have e2 := List.length_eq_zero_iff.1 e
    subst e2
    exact Sl.nil _ _
  exact sl_tch h.sr k (h.nsr e)), h.o1.tch k h.n1, h.nt, h.n1, h.nsx, h.ncx, h.nsy, h.ncy, h.nsr⟩
theorem Tq.g {gx gy gs gk i : Nat} (h : Tg gy gs i) : Tq gx gy gs gk i := by rcases h with h | h; exact .inr (.inl h); exact .inr (.inr (.inl h))
end
/-- the two machines and the marks' numbers -/
structure WSt (w0 w : World) (gx gy gs gk : Nat) (mX cX mY cY : Value) (ea eb : BitVec 64) (SX SM : StV) (ks : Nat → BitVec 64) : Prop where
 X : XAt w gx mX cX ea eb SX
 M : MAt w gy gs ea eb mY cY SM
 C : Ob w gk 43 (arr 16 ks)
 t : Tch (Tq gx gy gs gk) w0 w
section
variable {w0 w w' : World} {gx gy gs gk : Nat} {mX cX mY cY : Value} {ea eb : BitVec 64} {SX SM S' : StV} {ks : Nat → BitVec 64}
theorem WSt.nxy (h : WSt w0 w gx gy gs gk mX cX mY cY ea eb SX SM ks) : gx ≠ gy := Ob.ne_ h.X h.M.o (by decide)
theorem WSt.nxs (h : WSt w0 w gx gy gs gk mX cX mY cY ea eb SX SM ks) : gx ≠ gs := Ob.ne_ h.X h.M.s (by decide)
theorem WSt.nxk (h : WSt w0 w gx gy gs gk mX cX mY cY ea eb SX SM ks) : gx ≠ gk := Ob.ne_ h.X h.C (by decide)
theorem WSt.nyk (h : WSt w0 w gx gy gs gk mX cX mY cY ea eb SX SM ks) : gy ≠ gk := h.M.o.ne_ h.C (by decide)
theorem WSt.nsk (h : WSt w0 w gx gy gs gk mX cX mY cY ea eb SX SM ks) : gs ≠ gk := h.M.s.ne_ h.C (by decide)
theorem WSt.below (h : WSt w0 w gx gy gs gk mX cX mY cY ea eb SX SM ks) (hb : Below w.heap.size w w') : WSt w0 w' gx gy gs gk mX cX mY cY ea eb SX SM ks :=
 ⟨h.X.below hb, h.M.below hb, h.C.below hb h.C.lt, h.t.trans (Tch.of_below hb)⟩
theorem WSt.alloc (h : WSt w0 w gx gy gs gk mX cX mY cY ea eb SX SM ks) (o : Obj) : WSt w0 (w.alloc o) gx gy gs gk mX cX mY cY ea eb SX SM ks := h.below (below_alloc (Below.refl _ _) o)
theorem WSt.stepX (h : WSt w0 w gx gy gs gk mX cX mY cY ea eb SX SM ks) (hX : XAt w' gx mX cX ea eb S') (k : Tch (fun i => i = gx) w w') : WSt w0 w' gx gy gs gk mX cX mY cY ea eb S' SM ks :=
 ⟨hX, h.M.tch k h.nxy.symm h.nxs.symm, h.C.tch k h.nxk.symm, h.t.trans (k.mono fun _ e => .inl e)⟩
theorem WSt.stepM (h : WSt w0 w gx gy gs gk mX cX mY cY ea eb SX SM ks) (hM : MAt w' gy gs ea eb mY cY S') (k : Tch (Tg gy gs) w w') : WSt w0 w' gx gy gs gk mX cX mY cY ea eb SX S' ks :=
 ⟨h.X.tch k (fun e => by rcases e with e | e; exact h.nxy e; exact h.nxs e), hM, h.C.tch k (fun e => by rcases e with e | e; exact h.nyk e.symm; exact h.nsk e.symm), h.t.trans (k.mono fun _ e => Tq.g e)⟩
theorem WSt.ext {SX' SM' : StV} {ks' : Nat → BitVec 64} (h : WSt w0 w gx gy gs gk mX cX mY cY ea eb SX SM ks) (h1 : SX = SX') (h2 : SM = SM') (h3 : ks = ks') : WSt w0 w gx gy gs gk mX cX mY cY ea eb SX' SM' ks' := by subst h1; subst h2; subst h3; exact h
/-- a block that was made meanwhile is written -/
theorem WSt.away (h : WSt w0 w gx gy gs gk mX cX mY cY ea eb SX SM ks) {q : Nat} (hq : ¬ (q = gx ∨ q = gy ∨ q = gs ∨ q = gk) ∧ w0.heap.size ≤ q) {p : Addr} (hp : p.block = q) (v : Value) : WSt w0 (w.setCell p v) gx gy gs gk mX cX mY cY ea eb SX SM ks :=
 ⟨Ob.far h.X (by rw [hp]; omega) _, ⟨h.M.o.far (by rw [hp]; omega) _, h.M.s.far (by rw [hp]; omega) _⟩, h.C.far (by rw [hp]; omega) _, En.tch_fresh h.t (by rw [hp]; exact hq.2) _⟩
theorem WSt.count (h : WSt w0 w gx gy gs gk mX cX mY cY ea eb SX SM ks) {j : Nat} (hj : j < 16) : w.cell? ⟨gk, j, none⟩ = some (.int .u64 (uv (ks j))) := by rw [h.C.cell, arr_get 16 ks j hj]
theorem WSt.setC (h : WSt w0 w gx gy gs gk mX cX mY cY ea eb SX SM ks) (j : Nat) (v : BitVec 64) : WSt w0 (w.setCell ⟨gk, j, none⟩ (.int .u64 (uv v))) gx gy gs gk mX cX mY cY ea eb SX SM (upd ks j v) :=
 ⟨Ob.far h.X (p := ⟨gk, j, none⟩) h.nxk _, ⟨h.M.o.far (p := ⟨gk, j, none⟩) h.nyk _, h.M.s.far (p := ⟨gk, j, none⟩) h.nsk _⟩, by rw [← arr_set]; exact h.C.set_ j _, h.t.setCell (p := ⟨gk, j, none⟩) (.inr (.inr (.inr rfl))) _⟩
end
end Go.Proofs.YtjcffmcafjineaaDoor.Tp
end

section
namespace Go.Proofs.YtjcffmcafjineaaDoor.Tp
open Go.RowKit
open Go.Proofs.YtjcffmcafjineaaDoor.Op (InstV ins0 rightV right_is RightI CheckI)
open Go.Proofs.YtjcffmcafjineaaDoor.En (StV updI ActV acc acVal srcU runS runD stepS stepA callS callA okI okC ansS ResOk)
open Go.Proofs.YtjcffmcafjineaaDoor.Sg (ResV)
open Go.Proofs.YtjcffmcafjineaaDoor.Lw (Inv TypedV pot step_ok step_keeps call_keeps ans_keeps)

theorem run_rest {ea eb : BitVec 64} {i : InstV} {S : StV} : (runS ea eb i S).st = S.st ∧ (runS ea eb i S).steps = S.steps ∧ (runS ea eb i S).counts = S.counts := by
 unfold runS
 repeat' split
 all_goals exact ⟨rfl, rfl, rfl⟩
/-- it goes on -/
structure OnF (ms : List Int) (l : List InstV) (T : Nat → Nat → Jd.JT) (M : Nat → Bool) (ea eb : BitVec 64) (S : StV) (b : Bool) (ks : Nat → BitVec 64) : Prop where
 mkV : markV (l.getD S.pc ins0) = b
 k4 : ((stepA ms (l.getD S.pc ins0) S).k == 4) = false
 k2 : ((stepA ms (l.getD S.pc ins0) S).k == 2) = false
 st : (stepS ea eb (l.getD S.pc ins0) S).st = 0
 ss : (stepS ea eb (l.getD S.pc ins0) S).steps = S.steps + 1
 ks : (stepS ea eb (l.getD S.pc ins0) S).counts = ks
 iv : Inv ms.length l T M (stepS ea eb (l.getD S.pc ins0) S)
 po : pot l (stepS ea eb (l.getD S.pc ins0) S) + 1 ≤ pot l S
section
variable {ms : List Int} {l : List InstV} {T : Nat → Nat → Jd.JT} {M : Nat → Bool} {S : StV} (ea eb : BitVec 64)
theorem mark_not {i : InstV} (h : ¬ (i.op = 21 ∧ i.m = 5)) : markV i = false := by
 unfold markV
 rw [← Bool.decide_and]
 exact decide_eq_false h
theorem on_run (hc : CheckI l) (ht : TypedV ms.length l T M) (h : Inv ms.length l T M S) (h0 : S.st = 0) (h22 : (l.getD S.pc ins0).op ≠ 22) (h21 : (l.getD S.pc ins0).op ≠ 21) : OnF ms l T M ea eb S false S.counts := by
 have k := step_keeps (ea := ea) (eb := eb) hc ht h h22 h21
 have e := run_rest (ea := ea) (eb := eb) (i := l.getD S.pc ins0) (S := { S with steps := S.steps + 1 })
 have a : (stepA ms (l.getD S.pc ins0) S).k = 1 := by unfold stepA; rw [if_neg h21, if_neg h22]
 refine ⟨mark_not fun x => h21 x.1, by rw [a]; rfl, by rw [a]; rfl, ?_, ?_, ?_, k.1, k.2⟩
 all_goals
  unfold stepS
  rw [if_neg h21, if_neg h22]
  dsimp only
 · exact e.1.trans h0
 · exact e.2.1
 exact e.2.2
theorem on_note (hc : CheckI l) (ht : TypedV ms.length l T M) (h : Inv ms.length l T M S) (h0 : S.st = 0) (h21 : (l.getD S.pc ins0).op = 21) (h5 : ¬ (l.getD S.pc ins0).m < 5) (h6 : (l.getD S.pc ins0).m ≠ 5) : OnF ms l T M ea eb S false S.counts := by
 have k := call_keeps (ea := ea) (eb := eb) hc ht h h21 h5
 have a : (stepA ms (l.getD S.pc ins0) S).k = 3 := by unfold stepA callA; rw [if_pos h21, if_neg h5, if_neg h6]
 refine ⟨mark_not fun x => h6 x.2, by rw [a]; rfl, by rw [a]; rfl, ?_, ?_, ?_, k.1, k.2⟩
 all_goals
  unfold stepS callS
  rw [if_pos h21, if_neg h5, if_neg h6]
 exact h0
theorem on_mark (hc : CheckI l) (ht : TypedV ms.length l T M) (h : Inv ms.length l T M S) (h0 : S.st = 0) (h21 : (l.getD S.pc ins0).op = 21) (h5 : (l.getD S.pc ins0).m = 5) : OnF ms l T M ea eb S true (upd S.counts (S.regs 1).toNat (S.counts (S.regs 1).toNat + 1#64)) := by
 have h5' : ¬ (l.getD S.pc ins0).m < 5 := by omega
 have k := call_keeps (ea := ea) (eb := eb) hc ht h h21 h5'
 have a : (stepA ms (l.getD S.pc ins0) S).k = 1 := by unfold stepA callA; rw [if_pos h21, if_neg h5', if_pos h5]
 refine ⟨by unfold markV; rw [decide_eq_true h21, decide_eq_true h5]; rfl, by rw [a]; rfl, by rw [a]; rfl, ?_, ?_, ?_, k.1, k.2⟩
 all_goals
  unfold stepS callS
  rw [if_pos h21, if_neg h5', if_pos h5]
 exact h0
/-- it asks -/
structure AskF (ms : List Int) (l : List InstV) (T : Nat → Nat → Jd.JT) (M : Nat → Bool) (ea eb : BitVec 64) (S : StV) : Prop where
 mkV : markV (l.getD S.pc ins0) = false
 k2 : (stepA ms (l.getD S.pc ins0) S).k = 2
 st : (stepS ea eb (l.getD S.pc ins0) S).st = 1
 pc : (stepS ea eb (l.getD S.pc ins0) S).pc = S.pc
 m0 : 0 ≤ (l.getD S.pc ins0).m
 m5 : (l.getD S.pc ins0).m < 5
 ss : ∀ r, (ansS (l.getD S.pc ins0) r (stepS ea eb (l.getD S.pc ins0) S)).steps = S.steps + 1
 ks : ∀ r, (ansS (l.getD S.pc ins0) r (stepS ea eb (l.getD S.pc ins0) S)).counts = S.counts
 iv : ∀ r, Inv ms.length l T M (ansS (l.getD S.pc ins0) r (stepS ea eb (l.getD S.pc ins0) S))
 po : ∀ r, pot l (ansS (l.getD S.pc ins0) r (stepS ea eb (l.getD S.pc ins0) S)) + 1 ≤ pot l S
theorem ask_run (hc : CheckI l) (ht : TypedV ms.length l T M) (h : Inv ms.length l T M S) (h21 : (l.getD S.pc ins0).op = 21) (h5 : (l.getD S.pc ins0).m < 5) : AskF ms l T M ea eb S := by
 have k := fun r => ans_keeps (ea := ea) (eb := eb) (r := r) hc ht h h21 h5
 have m := (right_is (Jd.place_of hc h.pc).2.2.2).c h21
 have es : stepS ea eb (l.getD S.pc ins0) S = { S with steps := S.steps + 1, st := 1 } := by
  unfold stepS callS
  rw [if_pos h21, if_pos h5]
 refine ⟨mark_not fun x => by omega, by unfold stepA callA; rw [if_pos h21, if_pos h5], by rw [es], by rw [es], m.1, h5, fun r => ?_, fun r => ?_, fun r => (k r).1, fun r => (k r).2⟩
 all_goals rw [es]; rfl
/-- it ends -/
structure EndF (ms : List Int) (l : List InstV) (ea eb : BitVec 64) (S : StV) : Prop where
 mkV : markV (l.getD S.pc ins0) = false
 k4 : (stepA ms (l.getD S.pc ins0) S).k = 4
 v : (stepA ms (l.getD S.pc ins0) S).v = S.regs (l.getD S.pc ins0).a.toNat
 st : (stepS ea eb (l.getD S.pc ins0) S).st = 2
 pc : (stepS ea eb (l.getD S.pc ins0) S).pc = S.pc
 ss : (stepS ea eb (l.getD S.pc ins0) S).steps = S.steps + 1
 rg : (stepS ea eb (l.getD S.pc ins0) S).regs = S.regs
 a : 0 ≤ (l.getD S.pc ins0).a ∧ (l.getD S.pc ins0).a < 8
theorem end_run (hc : CheckI l) (h : S.pc < l.length) (h22 : (l.getD S.pc ins0).op = 22) : EndF ms l ea eb S := by
 have r := right_is (Jd.place_of hc h).2.2.2
 have es : stepS ea eb (l.getD S.pc ins0) S = { S with steps := S.steps + 1, st := 2 } := by
  unfold stepS
  rw [if_neg (show ¬ (l.getD S.pc ins0).op = 21 by omega), if_pos h22]
 have ea_ : stepA ms (l.getD S.pc ins0) S = ⟨4, S.pc, 0, 0, 0#64, 0#64, S.regs (l.getD S.pc ins0).a.toNat⟩ := by
  unfold stepA
  rw [if_neg (show ¬ (l.getD S.pc ins0).op = 21 by omega), if_pos h22]
 exact ⟨mark_not fun x => by omega, by rw [ea_], by rw [ea_], by rw [es], by rw [es], by rw [es], by rw [es], r.a0, r.a1⟩
end
end Go.Proofs.YtjcffmcafjineaaDoor.Tp
end
