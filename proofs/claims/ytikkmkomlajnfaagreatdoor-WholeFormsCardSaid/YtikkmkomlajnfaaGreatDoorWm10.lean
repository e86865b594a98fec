/-
  Layer 11: a machine's step. Conditions: those of each theorem.
-/
import Derived.Test.YtikkmkomlajnfaaGreatDoorWm01
import Derived.Test.YtikkmkomlajnfaaGreatDoorWm09
set_option linter.unusedVariables false
set_option linter.unusedSimpArgs false
section
namespace Go.Proofs.YtikkmkomlajnfaaGreatDoor.En
set_option maxRecDepth 100000
set_option maxHeartbeats 16000000
open Go.RowKit
open Go.Proofs.YtikkmkomlajnfaaGreatDoor.Op (InstV insc insVal inss ins0 ins_at rightV right_is RightI Frm goesV writesV sourceV)

theorem runD_le {i : InstV} (hr : rightV i = true) (S : StV) : -63 ≤ runD i S ∧ runD i S ≤ 64 := by
 have r := right_is hr
 have h0 := r.d0
 have h1 := r.d1
 unfold runD
 by_cases c1 : i.op = 15
 · rw [if_pos c1]; omega
 rw [if_neg c1]
 by_cases c2 : i.op = 20
 · rw [if_pos c2]
   by_cases c3 : S.regs i.a.toNat ≠ 0#64 ∧ S.turns S.pc < i.m
   · rw [if_pos c3]; omega
   rw [if_neg c3]; omega
 rw [if_neg c2]
 by_cases c3 : AM.doOk i.op = true
 · rw [if_pos c3]; omega
 rw [if_neg c3]
 by_cases c4 : AM.hdV i.op (S.regs i.a.toNat) (srcU i S.regs) = true
 · rw [if_pos c4]; omega
 rw [if_neg c4]; omega
theorem runS_pc (ea eb : BitVec 64) (i : InstV) (S : StV) : (runS ea eb i S).pc = S.pc := by
 unfold runS
 repeat' split
 all_goals rfl
/-- the state of a step -/
structure PSt (w0 w : World) (g gs q2 q3 : Nat) (ea eb : BitVec 64) (mV cV : Value) (S : StV) (i : InstV) : Prop where
 M : MAt w g gs ea eb mV cV S
 o2 : Ob w q2 55 (acc ac0)
 o3 : Ob w q3 59 (insc i)
 t : Tch (Tg g gs) w0 w
 l2 : w0.heap.size ≤ q2
 l3 : w0.heap.size ≤ q3
section
variable {w0 w w' : World} {g gs q2 q3 : Nat} {ea eb : BitVec 64} {mV cV : Value} {S S' : StV} {i : InstV}
theorem PSt.g2 (h : PSt w0 w g gs q2 q3 ea eb mV cV S i) : g ≠ q2 := h.M.o.ne_ h.o2 (by decide)
theorem PSt.g3 (h : PSt w0 w g gs q2 q3 ea eb mV cV S i) : g ≠ q3 := h.M.o.ne_ h.o3 (by decide)
theorem PSt.s2 (h : PSt w0 w g gs q2 q3 ea eb mV cV S i) : gs ≠ q2 := h.M.s.ne_ h.o2 (by decide)
theorem PSt.s3 (h : PSt w0 w g gs q2 q3 ea eb mV cV S i) : gs ≠ q3 := h.M.s.ne_ h.o3 (by decide)
theorem PSt.below (h : PSt w0 w g gs q2 q3 ea eb mV cV S i) (hb : Below w.heap.size w w') : PSt w0 w' g gs q2 q3 ea eb mV cV S i :=
 ⟨h.M.below hb, h.o2.below hb h.o2.lt, h.o3.below hb h.o3.lt, h.t.trans (Tch.of_below hb), h.l2, h.l3⟩
theorem PSt.drew (h : PSt w0 w g gs q2 q3 ea eb mV cV S i) : PSt w0 w.drew g gs q2 q3 ea eb mV cV S i := h.below (below_drewN (Below.refl _ _) 1)
theorem PSt.tch (h : PSt w0 w g gs q2 q3 ea eb mV cV S i) (k : Tch (Tg g gs) w w') (hM : MAt w' g gs ea eb mV cV S') : PSt w0 w' g gs q2 q3 ea eb mV cV S' i :=
 ⟨hM, h.o2.tch k (fun e => by rcases e with e | e; exact h.g2 e.symm; exact h.s2 e.symm), h.o3.tch k (fun e => by rcases e with e | e; exact h.g3 e.symm; exact h.s3 e.symm), h.t.trans k, h.l2, h.l3⟩
theorem PSt.mach (h : PSt w0 w g gs q2 q3 ea eb mV cV S i) {p : Addr} {v : Value} (hp : p.block = g) (hM : MAt (w.setCell p v) g gs ea eb mV cV S') : PSt w0 (w.setCell p v) g gs q2 q3 ea eb mV cV S' i :=
 h.tch (Tch.setCell (Tch.refl _ _) (Or.inl hp) v) hM
theorem PSt.setSt (h : PSt w0 w g gs q2 q3 ea eb mV cV S i) (v : Int) : PSt w0 (w.setCell ⟨g, 79, none⟩ (.int .i64 v)) g gs q2 q3 ea eb mV cV { S with st := v } i := h.mach (p := ⟨g, 79, none⟩) rfl (h.M.setSt v)
theorem PSt.setPc (h : PSt w0 w g gs q2 q3 ea eb mV cV S i) (v : Nat) : PSt w0 (w.setCell ⟨g, 77, none⟩ (.int .i64 v)) g gs q2 q3 ea eb mV cV { S with pc := v } i := h.mach (p := ⟨g, 77, none⟩) rfl (h.M.setPc v)
end

theorem step_any (w : World) (g gs : Nat) (ea eb : BitVec 64) (mA cA : Option Addr) (nm cm n c : Nat) (S : StV) (ms : List Int) (l : List InstV) (hn : n = l.length) (hm : n ≤ 64) (hnm : nm = ms.length) (hst : S.st = 0) (hpc : S.pc < n) (hss : 0 ≤ S.steps ∧ S.steps ≤ 1000000)
 (hr : rightV (l.getD S.pc ins0) = true) (hok : okI (l.getD S.pc ins0) S) (hoc : (l.getD S.pc ins0).op = 21 → okC ms (l.getD S.pc ins0).m S) (hto : (l.getD S.pc ins0).op ≠ 21 → (l.getD S.pc ins0).op ≠ 22 → 0 ≤ (S.pc : Int) + runD (l.getD S.pc ins0) S)
 (hts : ∀ p, p < 64 → 0 ≤ S.turns p) (ht : Sg.Tab w) (hgt : ¬ Tg g gs 5) (hs : Sl w mA (ints ms)) (hap : ∀ a, mA = some a → ¬ Tg g gs a.block) (hc : Sl w cA (inss l)) (hcp : ∀ a, cA = some a → ¬ Tg g gs a.block)
 (hM : MAt w g gs ea eb (.slice mA nm cm) (.slice cA n c) S) :
 Calls Tryz.prog 32 #[.pointer (some ⟨g, 0, none⟩)] w fun e w' => e = .returned (acVal (stepA ms (l.getD S.pc ins0) S)) ∧ MAt w' g gs ea eb (.slice mA nm cm) (.slice cA n c) (stepS ea eb (l.getD S.pc ins0) S) ∧ Tch (Tg g gs) w w' := by
 have hcc := (ins_at hc (by omega))
 obtain ⟨bc, oc, hcA, _, hcc⟩ := hcc
 have HC := Lib.hid (hcc S.pc (by omega))
 have HNB := Lib.hid (hcp _ hcA)
 subst hcA
 generalize l.getD S.pc ins0 = i at hr hok hoc hto HC ⊢
 obtain ⟨A, hA⟩ : ∃ A, stepA ms i S = A := ⟨_, rfl⟩
 obtain ⟨S', hS'⟩ : ∃ S', stepS ea eb i S = S' := ⟨_, rfl⟩
 rw [hA, hS']
 have HA := Lib.hid hA
 have HS := Lib.hid hS'
 have HI := Lib.hid (right_is hr)
 have HR := Lib.hid hr
 have HOK := Lib.hid hok
 have HOC := Lib.hid hoc
 have HTO := Lib.hid hto
 have HTS := Lib.hid hts
 have HPC := Lib.hid (show S.pc < n ∧ n ≤ 64 from ⟨hpc, hm⟩)
 have HNM := Lib.hid hnm
 have HSS := Lib.hid hss
 have HST := Lib.hid hst
 have HT := Lib.hid ht
 have HMS := Lib.hid hs
 have HGT := Lib.hid hgt
 have HAP := Lib.hid hap
 have HM := Lib.hid hM
 have B0 := Lib.hid (Below.refl w.heap.size w)
 have gp1 : (S.pc : Int) < (n : Int) := by omega
 have gp0 : (0 : Int) ≤ (S.pc : Int) := by omega
 clear hA hS' hok hoc hto hts hpc hm hn hnm hss hst ht hgt hs hap hc hcp hM hr hcc
 obtain ⟨op, d, a, b, m⟩ := i
 go_enter Tryz.func32, Tryz.ntmps32
 go_upto_region 1 with fail
 have O2 := Lib.hid (Ob.fresh w 55 [.int .i64 0, .int .i64 0, .int .i64 0, .int .i64 0, .int .u64 0, .int .u64 0, .int .u64 0])
 have B1 := Lib.hid (below_alloc (B0.out) (.cells #[.int .i64 0, .int .i64 0, .int .i64 0, .int .i64 0, .int .u64 0, .int .u64 0, .int .u64 0] 55))
 have Hq2 := Lib.hid (show w.heap.size ≤ w.heap.size by have := B0.out.size; omega)
 clear B0
 generalize (w.alloc (.cells #[.int .i64 0, .int .i64 0, .int .i64 0, .int .i64 0, .int .u64 0, .int .u64 0, .int .u64 0] 55)) = w1 at O2 B1 ⊢
 obtain ⟨q2, hq2⟩ : ∃ q2, w.heap.size = q2 := ⟨_, rfl⟩
 have Hq2 := Lib.hid (Nat.le_of_eq hq2)
 rw [hq2] at O2 ⊢
 clear hq2
 have M1 := Lib.hid (HM.out.below B1.out)
 have y79 : w1.cell? ⟨g, 79, none⟩ = some (.int .i64 0) := by rw [← HST.out]; exact M1.out.st_
 have y78 : w1.cell? ⟨g, 78, none⟩ = some (.int .i64 S.steps) := M1.out.steps_
 have zg := M1.out.o.frozen
 have gst : wrap64 (S.steps + 1) = S.steps + 1 := by have := HSS.out; unfold wrap64; omega
 go_upto_region 7 with fail
 clear y79 y78 zg
 have M2 := Lib.hid (M1.out.setSteps (S.steps + 1))
 have T2 := Lib.hid (Tch.setCell (S := Tg g gs) (p := ⟨g, 78, none⟩) (Tch.of_below B1.out) (Or.inl rfl) (.int .i64 (S.steps + 1)))
 have O3 := Lib.hid (O2.out.far (p := ⟨g, 78, none⟩) (O2.out.ne_ M1.out.o (by decide)) (.int .i64 (S.steps + 1)))
 generalize w1.setCell ⟨g, 78, none⟩ (.int .i64 (S.steps + 1)) = w2 at M2 T2 O3 ⊢
 clear M1 O2 B1
 obtain ⟨c0, c1, c2, c3, c4⟩ := HC.out
 have HC0 := Lib.hid c0
 have HC1 := Lib.hid c1
 have HC2 := Lib.hid c2
 have HC3 := Lib.hid c3
 have HC4 := Lib.hid c4
 dsimp only at HC0 HC1 HC2 HC3 HC4
 clear c0 c1 c2 c3 c4
 obtain ⟨wd, hwd⟩ : ∃ wd, w2.drew = wd := ⟨_, rfl⟩
 have MD := Lib.hid (hwd ▸ M2.out.drew)
 have TD := Lib.hid (hwd ▸ T2.out.drew)
 have OD := Lib.hid (hwd ▸ O3.out.drew)
 have BD := Lib.hid (Below.refl wd.heap.size wd)
 clear M2 T2 O3
 refine wp_region_held_drew (S := fun w' => (w'.cell? ⟨g, 3, none⟩ = some (.slice (some ⟨bc, oc, none⟩) n c) ∧ w'.cell? ⟨g, 77, none⟩ = some (.int .i64 S.pc) ∧ w'.cell? ⟨bc, oc + S.pc * 5, none⟩ = some (.int .i64 op) ∧ w'.cell? ⟨bc, oc + S.pc * 5 + 1, none⟩ = some (.int .i64 d) ∧ w'.cell? ⟨bc, oc + S.pc * 5 + 2, none⟩ = some (.int .i64 a) ∧ w'.cell? ⟨bc, oc + S.pc * 5 + 3, none⟩ = some (.int .i64 b) ∧ w'.cell? ⟨bc, oc + S.pc * 5 + 4, none⟩ = some (.int .i64 m))) (by kernel_rfl) (by rw [hwd]; exact ⟨MD.out.cs, MD.out.pc_, cell_tch TD.out HC0.out HNB.out, cell_tch TD.out HC1.out HNB.out, cell_tch TD.out HC2.out HNB.out, cell_tch TD.out HC3.out HNB.out, cell_tch TD.out HC4.out HNB.out⟩) (fun hHeld => ?_)
 refine tkq 0 47 rfl (by kernel_rfl) (by rfl) hHeld (fun _ _ _ h => h) (by intro w' hSw; go_simp; try with_reducible rfl) ?_
 simp only [Act.put, spa, spb, spc]
 refine tkq 1 48 rfl (by kernel_rfl) (by rfl) hHeld (fun _ _ _ h => h) (by intro w' hSw; go_simp; try with_reducible rfl) ?_
 simp only [Act.put, spa, spb, spc]
 refine tkq 2 49 rfl (by kernel_rfl) (by rfl) hHeld (fun _ _ _ h => h) (by intro w' hSw; go_simp; try with_reducible rfl) ?_
 simp only [Act.put, spa, spb, spc]
 refine tkq 3 50 rfl (by kernel_rfl) (by rfl) hHeld (fun _ _ _ h => h) (by intro w' hSw; go_simp; try with_reducible rfl) ?_
 simp only [Act.put, spa, spb, spc]
 refine tkq 4 51 rfl (by kernel_rfl) (by rfl) hHeld (fun _ _ _ h => h) (by intro w' hSw; go_simp; try with_reducible rfl) ?_
 simp only [Act.put, spa, spb, spc]
 refine tkq 5 52 rfl (by kernel_rfl) (by rfl) hHeld (fun _ _ _ h => h) (by intro w' hSw; go_simp; try with_reducible rfl) ?_
 simp only [Act.put, spa, spb, spc]
 refine tkq 6 53 rfl (by kernel_rfl) (by rfl) hHeld (fun _ _ _ h => h) (by intro w' hSw; go_simp; try with_reducible rfl) ?_
 simp only [Act.put, spa, spb, spc]
 refine tkq 7 54 rfl (by kernel_rfl) (by rfl) hHeld (fun _ _ _ h => h) (by intro w' hSw; go_simp; try with_reducible rfl) ?_
 simp only [Act.put, spa, spb, spc]
 refine tkq 8 55 rfl (by kernel_rfl) (by rfl) hHeld (fun _ _ _ h => h) (by intro w' hSw; go_simp; try with_reducible rfl) ?_
 simp only [Act.put, spa, spb, spc]
 refine tkq 9 56 rfl (by kernel_rfl) (by rfl) hHeld (fun _ _ _ h => h) (by intro w' hSw; go_simp; try with_reducible rfl) ?_
 simp only [Act.put, spa, spb, spc]
 refine tkq 10 57 rfl (by kernel_rfl) (by rfl) hHeld (fun _ _ _ h => h) (by intro w' hSw; go_simp; try with_reducible rfl) ?_
 simp only [Act.put, spa, spb, spc]
 refine rdq 11 ⟨some 3, _, _, _, _, _⟩ (by kernel_rfl) rfl (fun K' hK => ?_)
 go_simp
 refine hK.out _ _ ⟨(MD.out.below (below_alloc BD.out (.cells #[.int .i64 0, .int .i64 0, .int .i64 0, .int .i64 0, .int .i64 0] 59))).cs, (MD.out.below (below_alloc BD.out (.cells #[.int .i64 0, .int .i64 0, .int .i64 0, .int .i64 0, .int .i64 0] 59))).pc_, cell_tch (TD.out.trans (Tch.of_below (below_alloc BD.out (.cells #[.int .i64 0, .int .i64 0, .int .i64 0, .int .i64 0, .int .i64 0] 59)))) HC0.out HNB.out, cell_tch (TD.out.trans (Tch.of_below (below_alloc BD.out (.cells #[.int .i64 0, .int .i64 0, .int .i64 0, .int .i64 0, .int .i64 0] 59)))) HC1.out HNB.out, cell_tch (TD.out.trans (Tch.of_below (below_alloc BD.out (.cells #[.int .i64 0, .int .i64 0, .int .i64 0, .int .i64 0, .int .i64 0] 59)))) HC2.out HNB.out, cell_tch (TD.out.trans (Tch.of_below (below_alloc BD.out (.cells #[.int .i64 0, .int .i64 0, .int .i64 0, .int .i64 0, .int .i64 0] 59)))) HC3.out HNB.out, cell_tch (TD.out.trans (Tch.of_below (below_alloc BD.out (.cells #[.int .i64 0, .int .i64 0, .int .i64 0, .int .i64 0, .int .i64 0] 59)))) HC4.out HNB.out⟩ (fun hHeld => ?_)
 clear hK K'
 clear hHeld
 have NI := Lib.hid (Ob.fresh wd 59 [.int .i64 0, .int .i64 0, .int .i64 0, .int .i64 0, .int .i64 0])
 have BA := Lib.hid (below_alloc (BD.out) (.cells #[.int .i64 0, .int .i64 0, .int .i64 0, .int .i64 0, .int .i64 0] 59))
 have Hq3 := Lib.hid (show wd.heap.size ≤ wd.heap.size by have := BD.out.size; omega)
 clear BD
 generalize (wd.alloc (.cells #[.int .i64 0, .int .i64 0, .int .i64 0, .int .i64 0, .int .i64 0] 59)) = wa at NI BA ⊢
 obtain ⟨q3, hq3⟩ : ∃ q3, wd.heap.size = q3 := ⟨_, rfl⟩
 have Hq3 := Lib.hid (Nat.le_of_eq hq3)
 rw [hq3] at NI ⊢
 clear hq3
 have MA := Lib.hid (MD.out.below BA.out)
 have TA := Lib.hid (TD.out.trans (Tch.of_below BA.out))
 have hHeld := (show (wa.cell? ⟨g, 3, none⟩ = some (.slice (some ⟨bc, oc, none⟩) n c) ∧ wa.cell? ⟨g, 77, none⟩ = some (.int .i64 S.pc) ∧ wa.cell? ⟨bc, oc + S.pc * 5, none⟩ = some (.int .i64 op) ∧ wa.cell? ⟨bc, oc + S.pc * 5 + 1, none⟩ = some (.int .i64 d) ∧ wa.cell? ⟨bc, oc + S.pc * 5 + 2, none⟩ = some (.int .i64 a) ∧ wa.cell? ⟨bc, oc + S.pc * 5 + 3, none⟩ = some (.int .i64 b) ∧ wa.cell? ⟨bc, oc + S.pc * 5 + 4, none⟩ = some (.int .i64 m)) from ⟨MA.out.cs, MA.out.pc_, cell_tch TA.out HC0.out HNB.out, cell_tch TA.out HC1.out HNB.out, cell_tch TA.out HC2.out HNB.out, cell_tch TA.out HC3.out HNB.out, cell_tch TA.out HC4.out HNB.out⟩)
 refine rdq 12 ⟨none, _, _, _, _, _⟩ (by kernel_rfl) rfl (fun K' hK => ?_)
 have z0 := NI.out.c0
 have z1 := NI.out.c1
 have z2 := NI.out.c2
 have z3 := NI.out.c3
 have z4 := NI.out.c4
 have zf := NI.out.frozen
 go_simp
 have L3 := Lib.hid (show w.heap.size ≤ q3 from Nat.le_trans TD.out.size Hq3.out)
 have NG := Lib.hid (MA.out.o.ne_ NI.out (by decide))
 have NS := Lib.hid (MA.out.s.ne_ NI.out (by decide))
 have NO := Lib.hid ((OD.out.below BA.out OD.out.lt).ne_ NI.out (by decide))
 have MF := Lib.hid (show MAt (((((wa.setCell ⟨q3, 0, none⟩ (.int .i64 op)).setCell ⟨q3, 1, none⟩ (.int .i64 d)).setCell ⟨q3, 2, none⟩ (.int .i64 a)).setCell ⟨q3, 3, none⟩ (.int .i64 b)).setCell ⟨q3, 4, none⟩ (.int .i64 m)) g gs ea eb _ _ _ from ⟨(((((MA.out.o.far (p := ⟨q3, 0, none⟩) NG.out _).far (p := ⟨q3, 1, none⟩) NG.out _).far (p := ⟨q3, 2, none⟩) NG.out _).far (p := ⟨q3, 3, none⟩) NG.out _).far (p := ⟨q3, 4, none⟩) NG.out _), (((((MA.out.s.far (p := ⟨q3, 0, none⟩) NS.out _).far (p := ⟨q3, 1, none⟩) NS.out _).far (p := ⟨q3, 2, none⟩) NS.out _).far (p := ⟨q3, 3, none⟩) NS.out _).far (p := ⟨q3, 4, none⟩) NS.out _)⟩)
 have TF := Lib.hid (show Tch (Tg g gs) w (((((wa.setCell ⟨q3, 0, none⟩ (.int .i64 op)).setCell ⟨q3, 1, none⟩ (.int .i64 d)).setCell ⟨q3, 2, none⟩ (.int .i64 a)).setCell ⟨q3, 3, none⟩ (.int .i64 b)).setCell ⟨q3, 4, none⟩ (.int .i64 m)) from (tch_fresh (tch_fresh (tch_fresh (tch_fresh (tch_fresh TA.out (p := ⟨q3, 0, none⟩) L3.out _) (p := ⟨q3, 1, none⟩) L3.out _) (p := ⟨q3, 2, none⟩) L3.out _) (p := ⟨q3, 3, none⟩) L3.out _) (p := ⟨q3, 4, none⟩) L3.out _))
 have OF := Lib.hid (show Ob (((((wa.setCell ⟨q3, 0, none⟩ (.int .i64 op)).setCell ⟨q3, 1, none⟩ (.int .i64 d)).setCell ⟨q3, 2, none⟩ (.int .i64 a)).setCell ⟨q3, 3, none⟩ (.int .i64 b)).setCell ⟨q3, 4, none⟩ (.int .i64 m)) q2 _ _ from ((((((OD.out.below BA.out OD.out.lt).far (p := ⟨q3, 0, none⟩) NO.out _).far (p := ⟨q3, 1, none⟩) NO.out _).far (p := ⟨q3, 2, none⟩) NO.out _).far (p := ⟨q3, 3, none⟩) NO.out _).far (p := ⟨q3, 4, none⟩) NO.out _))
 have IF := Lib.hid (show Ob (((((wa.setCell ⟨q3, 0, none⟩ (.int .i64 op)).setCell ⟨q3, 1, none⟩ (.int .i64 d)).setCell ⟨q3, 2, none⟩ (.int .i64 a)).setCell ⟨q3, 3, none⟩ (.int .i64 b)).setCell ⟨q3, 4, none⟩ (.int .i64 m)) q3 59 [.int .i64 op, .int .i64 d, .int .i64 a, .int .i64 b, .int .i64 m] from (((((NI.out.set_ 0 _).set_ 1 _).set_ 2 _).set_ 3 _).set_ 4 _))
 refine hK.out _ _ ⟨MF.out.cs, MF.out.pc_, cell_tch TF.out HC0.out HNB.out, cell_tch TF.out HC1.out HNB.out, cell_tch TF.out HC2.out HNB.out, cell_tch TF.out HC3.out HNB.out, cell_tch TF.out HC4.out HNB.out⟩ (fun hHeld => ?_)
 clear hK K'
 clear hHeld z0 z1 z2 z3 z4 zf
 refine wpAnyH_done (by kernel_rfl) ?_ _
 have P3 := Lib.hid (show PSt w (((((wa.setCell ⟨q3, 0, none⟩ (.int .i64 op)).setCell ⟨q3, 1, none⟩ (.int .i64 d)).setCell ⟨q3, 2, none⟩ (.int .i64 a)).setCell ⟨q3, 3, none⟩ (.int .i64 b)).setCell ⟨q3, 4, none⟩ (.int .i64 m)) g gs q2 q3 ea eb (.slice mA nm cm) (.slice (some ⟨bc, oc, none⟩) n c) { S with steps := S.steps + 1 } ⟨op, d, a, b, m⟩ from ⟨MF.out, OF.out, IF.out, TF.out, Hq2.out, L3.out⟩)
 clear MF OF IF TF MA TA NI MD TD OD hwd NG NS NO L3 BA Hq3
 generalize (((((wa.setCell ⟨q3, 0, none⟩ (.int .i64 op)).setCell ⟨q3, 1, none⟩ (.int .i64 d)).setCell ⟨q3, 2, none⟩ (.int .i64 a)).setCell ⟨q3, 3, none⟩ (.int .i64 b)).setCell ⟨q3, 4, none⟩ (.int .i64 m)) = w3 at P3 ⊢
 clear gp1 gp0
 have hop : op = 21 ∨ op = 22 ∨ (op ≠ 21 ∧ op ≠ 22) := by omega
 rcases hop with rfl | rfl | hop
 · obtain ⟨h, rfl⟩ : ∃ h : Nat, m = h := ⟨m.toNat, by have := (HI.out.c rfl).1; dsimp only at this; omega⟩
   have HH := Lib.hid (show h < 7 by have := (HI.out.c rfl).2; dsimp only at this; omega)
   have HCL := Lib.hid (call_any w3 g gs ea eb mA nm cm (.slice (some ⟨bc, oc, none⟩) n c) { S with steps := S.steps + 1 } ms h HH.out HNM.out (Nat.lt_of_lt_of_le HPC.out.1 HPC.out.2) (HOC.out rfl) (Sg.Tab.tch HT.out P3.out.t HGT.out) HGT.out (sl_tch HMS.out P3.out.t HAP.out) HAP.out P3.out.M)
   have HS2 := Lib.hid (show callS h { S with steps := S.steps + 1 } = S' from by rw [← HS.out]; rfl)
   have HA1 := Lib.hid (show callA ms h { S with steps := S.steps + 1 } = A from by rw [← HA.out]; rfl)
   clear HA HS
   rw [HA1.out] at HCL
   obtain ⟨ak, ap, am, ao, ae, al, av⟩ := A
   unfold acVal at HCL
   dsimp only at HCL
   have i0 : w3.cell? ⟨q3, 0, none⟩ = some (.int .i64 21) := P3.out.o3.cell 0
   have i1 : w3.cell? ⟨q3, 1, none⟩ = some (.int .i64 d) := P3.out.o3.cell 1
   have i2 : w3.cell? ⟨q3, 2, none⟩ = some (.int .i64 a) := P3.out.o3.cell 2
   have i3 : w3.cell? ⟨q3, 3, none⟩ = some (.int .i64 b) := P3.out.o3.cell 3
   have i4 : w3.cell? ⟨q3, 4, none⟩ = some (.int .i64 (h : Int)) := P3.out.o3.cell 4
   go_wp2_with fail
   refine HCL.out.mono ?_
   rintro e w4 ⟨rfl, m4, t4⟩
   have P4 := Lib.hid (P3.out.tch t4 m4)
   clear m4 t4 P3 HCL i0 i1 i2 i3 i4
   have x0 : w4.cell? ⟨q2, 0, none⟩ = some (.int .i64 0) := P4.out.o2.cell 0
   have x1 : w4.cell? ⟨q2, 1, none⟩ = some (.int .i64 0) := P4.out.o2.cell 1
   have x2 : w4.cell? ⟨q2, 2, none⟩ = some (.int .i64 0) := P4.out.o2.cell 2
   have x3 : w4.cell? ⟨q2, 3, none⟩ = some (.int .i64 0) := P4.out.o2.cell 3
   have x4 : w4.cell? ⟨q2, 4, none⟩ = some (.int .u64 0) := P4.out.o2.cell 4
   have x5 : w4.cell? ⟨q2, 5, none⟩ = some (.int .u64 0) := P4.out.o2.cell 5
   have x6 : w4.cell? ⟨q2, 6, none⟩ = some (.int .u64 0) := P4.out.o2.cell 6
   have z2 := P4.out.o2.frozen
   go_wp2_with fail
   have OF := Lib.hid (show Ob (((((((w4.setCell ⟨q2, 0, none⟩ (.int .i64 ak)).setCell ⟨q2, 1, none⟩ (.int .i64 ap)).setCell ⟨q2, 2, none⟩ (.int .i64 am)).setCell ⟨q2, 3, none⟩ (.int .i64 ao)).setCell ⟨q2, 4, none⟩ (.int .u64 (uv ae))).setCell ⟨q2, 5, none⟩ (.int .u64 (uv al))).setCell ⟨q2, 6, none⟩ (.int .u64 (uv av))) q2 55 (acc ⟨ak, ap, am, ao, ae, al, av⟩) from (((((((P4.out.o2.set_ 0 _).set_ 1 _).set_ 2 _).set_ 3 _).set_ 4 _).set_ 5 _).set_ 6 _))
   have MF := Lib.hid (show MAt (((((((w4.setCell ⟨q2, 0, none⟩ (.int .i64 ak)).setCell ⟨q2, 1, none⟩ (.int .i64 ap)).setCell ⟨q2, 2, none⟩ (.int .i64 am)).setCell ⟨q2, 3, none⟩ (.int .i64 ao)).setCell ⟨q2, 4, none⟩ (.int .u64 (uv ae))).setCell ⟨q2, 5, none⟩ (.int .u64 (uv al))).setCell ⟨q2, 6, none⟩ (.int .u64 (uv av))) g gs ea eb _ _ _ from ⟨(((((((P4.out.M.o.far (p := ⟨q2, 0, none⟩) P4.out.g2 _).far (p := ⟨q2, 1, none⟩) P4.out.g2 _).far (p := ⟨q2, 2, none⟩) P4.out.g2 _).far (p := ⟨q2, 3, none⟩) P4.out.g2 _).far (p := ⟨q2, 4, none⟩) P4.out.g2 _).far (p := ⟨q2, 5, none⟩) P4.out.g2 _).far (p := ⟨q2, 6, none⟩) P4.out.g2 _), (((((((P4.out.M.s.far (p := ⟨q2, 0, none⟩) P4.out.s2 _).far (p := ⟨q2, 1, none⟩) P4.out.s2 _).far (p := ⟨q2, 2, none⟩) P4.out.s2 _).far (p := ⟨q2, 3, none⟩) P4.out.s2 _).far (p := ⟨q2, 4, none⟩) P4.out.s2 _).far (p := ⟨q2, 5, none⟩) P4.out.s2 _).far (p := ⟨q2, 6, none⟩) P4.out.s2 _)⟩)
   have TF := Lib.hid (show Tch (Tg g gs) w (((((((w4.setCell ⟨q2, 0, none⟩ (.int .i64 ak)).setCell ⟨q2, 1, none⟩ (.int .i64 ap)).setCell ⟨q2, 2, none⟩ (.int .i64 am)).setCell ⟨q2, 3, none⟩ (.int .i64 ao)).setCell ⟨q2, 4, none⟩ (.int .u64 (uv ae))).setCell ⟨q2, 5, none⟩ (.int .u64 (uv al))).setCell ⟨q2, 6, none⟩ (.int .u64 (uv av))) from (tch_fresh (tch_fresh (tch_fresh (tch_fresh (tch_fresh (tch_fresh (tch_fresh P4.out.t (p := ⟨q2, 0, none⟩) P4.out.l2 _) (p := ⟨q2, 1, none⟩) P4.out.l2 _) (p := ⟨q2, 2, none⟩) P4.out.l2 _) (p := ⟨q2, 3, none⟩) P4.out.l2 _) (p := ⟨q2, 4, none⟩) P4.out.l2 _) (p := ⟨q2, 5, none⟩) P4.out.l2 _) (p := ⟨q2, 6, none⟩) P4.out.l2 _))
   try simp only [uv_zero] at OF MF TF
   generalize (((((((w4.setCell ⟨q2, 0, none⟩ (.int .i64 ak)).setCell ⟨q2, 1, none⟩ (.int .i64 ap)).setCell ⟨q2, 2, none⟩ (.int .i64 am)).setCell ⟨q2, 3, none⟩ (.int .i64 ao)).setCell ⟨q2, 4, none⟩ (.int .u64 (uv ae))).setCell ⟨q2, 5, none⟩ (.int .u64 (uv al))).setCell ⟨q2, 6, none⟩ (.int .u64 (uv av))) = wf at OF MF TF ⊢
   have LR : (loadVar 55 ⟨q2, 0, none⟩).run Tryz.prog wf = .ok (acVal ⟨ak, ap, am, ao, ae, al, av⟩) wf := act_load OF.out
   exact bodyPost_ret (v := acVal ⟨ak, ap, am, ao, ae, al, av⟩) (results_cell Tryz.results32 rfl LR) rfl ⟨rfl, by rw [← HS2.out]; exact MF.out, TF.out⟩
 · obtain ⟨ra, rfl⟩ : ∃ ra : Nat, a = ra := ⟨a.toNat, by have := HI.out.a0; dsimp only at this; omega⟩
   have HRA := Lib.hid (show ra < 8 by have := HI.out.a1; dsimp only at this; omega)
   have g3 : (ra : Int) < 8 := by have := HRA.out; omega
   have g4 : (0 : Int) ≤ (ra : Int) := by omega
   have HA2 := Lib.hid (show (⟨4, S.pc, 0, 0, 0#64, 0#64, S.regs ra⟩ : ActV) = A from by rw [← HA.out]; rfl)
   have HS2 := Lib.hid (show ({ S with steps := S.steps + 1, st := 2 } : StV) = S' from by rw [← HS.out]; rfl)
   clear HA HS
   have y79 : w3.cell? ⟨g, 79, none⟩ = some (.int .i64 S.st) := P3.out.M.st_
   have zg := P3.out.M.o.frozen
   have i0 : w3.cell? ⟨q3, 0, none⟩ = some (.int .i64 22) := P3.out.o3.cell 0
   have i1 : w3.cell? ⟨q3, 1, none⟩ = some (.int .i64 d) := P3.out.o3.cell 1
   have i2 : w3.cell? ⟨q3, 2, none⟩ = some (.int .i64 (ra : Int)) := P3.out.o3.cell 2
   have i3 : w3.cell? ⟨q3, 3, none⟩ = some (.int .i64 b) := P3.out.o3.cell 3
   have i4 : w3.cell? ⟨q3, 4, none⟩ = some (.int .i64 m) := P3.out.o3.cell 4
   go_upto_region 13 with fail
   clear y79 zg i0 i1 i2 i3 i4
   have P4 := Lib.hid (P3.out.setSt 2)
   generalize w3.setCell ⟨g, 79, none⟩ (.int .i64 2) = w4 at P4 ⊢
   obtain ⟨wd, hwd⟩ : ∃ wd, w4.drew = wd := ⟨_, rfl⟩
   have PD := Lib.hid (hwd ▸ P4.out.drew)
   clear P3 P4
   refine wp_region_held_drew (S := fun w' => (w'.cell? ⟨g, 77, none⟩ = some (.int .i64 S.pc) ∧ w'.cell? ⟨q3, 2, none⟩ = some (.int .i64 (ra : Int)) ∧ w'.cell? ⟨g, 5 + ra, none⟩ = some (.int .u64 (uv (S.regs ra))))) (by kernel_rfl) (by rw [hwd]; exact ⟨PD.out.M.pc_, PD.out.o3.cell 2, PD.out.M.reg HRA.out⟩) (fun hHeld => ?_)
   refine tkq 0 71 rfl (by kernel_rfl) (by rfl) hHeld (fun _ _ _ h => h) (by intro w' hSw; go_simp; try with_reducible rfl) ?_
   simp only [Act.put, spa, spb, spc]
   refine tkq 1 72 rfl (by kernel_rfl) (by rfl) hHeld (fun _ _ _ h => h) (by intro w' hSw; go_simp; try with_reducible rfl) ?_
   simp only [Act.put, spa, spb, spc]
   refine tkq 2 73 rfl (by kernel_rfl) (by rfl) hHeld (fun _ _ _ h => h) (by intro w' hSw; go_simp; try with_reducible rfl) ?_
   simp only [Act.put, spa, spb, spc]
   refine tkq 3 74 rfl (by kernel_rfl) (by rfl) hHeld (fun _ _ _ h => h) (by intro w' hSw; go_simp; try with_reducible rfl) ?_
   simp only [Act.put, spa, spb, spc]
   refine tkq 4 75 rfl (by kernel_rfl) (by rfl) hHeld (fun _ _ _ h => h) (by intro w' hSw; go_simp; try with_reducible rfl) ?_
   simp only [Act.put, spa, spb, spc]
   refine tkq 5 76 rfl (by kernel_rfl) (by rfl) hHeld (fun _ _ _ h => h) (by intro w' hSw; go_simp; try with_reducible rfl) ?_
   simp only [Act.put, spa, spb, spc]
   refine tkq 6 77 rfl (by kernel_rfl) (by rfl) hHeld (fun _ _ _ h => h) (by intro w' hSw; go_simp; try with_reducible rfl) ?_
   simp only [Act.put, spa, spb, spc]
   refine tkq 7 78 rfl (by kernel_rfl) (by rfl) hHeld (fun _ _ _ h => h) (by intro w' hSw; go_simp; try with_reducible rfl) ?_
   simp only [Act.put, spa, spb, spc]
   refine tkq 8 79 rfl (by kernel_rfl) (by rfl) hHeld (fun _ _ _ h => h) (by intro w' hSw; go_simp; try with_reducible rfl) ?_
   simp only [Act.put, spa, spb, spc]
   refine tkq 9 80 rfl (by kernel_rfl) (by rfl) hHeld (fun _ _ _ h => h) (by intro w' hSw; go_simp; try with_reducible rfl) ?_
   simp only [Act.put, spa, spb, spc]
   refine tkq 10 81 rfl (by kernel_rfl) (by rfl) hHeld (fun _ _ _ h => h) (by intro w' hSw; go_simp; try with_reducible rfl) ?_
   simp only [Act.put, spa, spb, spc]
   refine tkq 11 82 rfl (by kernel_rfl) (by rfl) hHeld (fun _ _ _ h => h) (by intro w' hSw; go_simp; try with_reducible rfl) ?_
   simp only [Act.put, spa, spb, spc]
   refine rdq 12 ⟨none, _, _, _, _, _⟩ (by kernel_rfl) rfl (fun K' hK => ?_)
   have x0 : wd.cell? ⟨q2, 0, none⟩ = some (.int .i64 0) := PD.out.o2.cell 0
   have x1 : wd.cell? ⟨q2, 1, none⟩ = some (.int .i64 0) := PD.out.o2.cell 1
   have x2 : wd.cell? ⟨q2, 2, none⟩ = some (.int .i64 0) := PD.out.o2.cell 2
   have x3 : wd.cell? ⟨q2, 3, none⟩ = some (.int .i64 0) := PD.out.o2.cell 3
   have x4 : wd.cell? ⟨q2, 4, none⟩ = some (.int .u64 0) := PD.out.o2.cell 4
   have x5 : wd.cell? ⟨q2, 5, none⟩ = some (.int .u64 0) := PD.out.o2.cell 5
   have x6 : wd.cell? ⟨q2, 6, none⟩ = some (.int .u64 0) := PD.out.o2.cell 6
   have z2 := PD.out.o2.frozen
   go_simp
   have MX := Lib.hid (show MAt (((((((wd.setCell ⟨q2, 0, none⟩ (.int .i64 4)).setCell ⟨q2, 1, none⟩ (.int .i64 S.pc)).setCell ⟨q2, 2, none⟩ (.int .i64 0)).setCell ⟨q2, 3, none⟩ (.int .i64 0)).setCell ⟨q2, 4, none⟩ (.int .u64 (uv 0#64))).setCell ⟨q2, 5, none⟩ (.int .u64 (uv 0#64))).setCell ⟨q2, 6, none⟩ (.int .u64 (uv (S.regs ra)))) g gs ea eb _ _ _ from ⟨(((((((PD.out.M.o.far (p := ⟨q2, 0, none⟩) PD.out.g2 _).far (p := ⟨q2, 1, none⟩) PD.out.g2 _).far (p := ⟨q2, 2, none⟩) PD.out.g2 _).far (p := ⟨q2, 3, none⟩) PD.out.g2 _).far (p := ⟨q2, 4, none⟩) PD.out.g2 _).far (p := ⟨q2, 5, none⟩) PD.out.g2 _).far (p := ⟨q2, 6, none⟩) PD.out.g2 _), (((((((PD.out.M.s.far (p := ⟨q2, 0, none⟩) PD.out.s2 _).far (p := ⟨q2, 1, none⟩) PD.out.s2 _).far (p := ⟨q2, 2, none⟩) PD.out.s2 _).far (p := ⟨q2, 3, none⟩) PD.out.s2 _).far (p := ⟨q2, 4, none⟩) PD.out.s2 _).far (p := ⟨q2, 5, none⟩) PD.out.s2 _).far (p := ⟨q2, 6, none⟩) PD.out.s2 _)⟩)
   have OX := Lib.hid (show Ob (((((((wd.setCell ⟨q2, 0, none⟩ (.int .i64 4)).setCell ⟨q2, 1, none⟩ (.int .i64 S.pc)).setCell ⟨q2, 2, none⟩ (.int .i64 0)).setCell ⟨q2, 3, none⟩ (.int .i64 0)).setCell ⟨q2, 4, none⟩ (.int .u64 (uv 0#64))).setCell ⟨q2, 5, none⟩ (.int .u64 (uv 0#64))).setCell ⟨q2, 6, none⟩ (.int .u64 (uv (S.regs ra)))) q3 _ _ from (((((((PD.out.o3.far (p := ⟨q2, 0, none⟩) (PD.out.o3.ne_ PD.out.o2 (by decide)) _).far (p := ⟨q2, 1, none⟩) (PD.out.o3.ne_ PD.out.o2 (by decide)) _).far (p := ⟨q2, 2, none⟩) (PD.out.o3.ne_ PD.out.o2 (by decide)) _).far (p := ⟨q2, 3, none⟩) (PD.out.o3.ne_ PD.out.o2 (by decide)) _).far (p := ⟨q2, 4, none⟩) (PD.out.o3.ne_ PD.out.o2 (by decide)) _).far (p := ⟨q2, 5, none⟩) (PD.out.o3.ne_ PD.out.o2 (by decide)) _).far (p := ⟨q2, 6, none⟩) (PD.out.o3.ne_ PD.out.o2 (by decide)) _))
   try simp only [uv_zero] at MX OX
   refine hK.out _ _ ⟨MX.out.pc_, OX.out.cell 2, MX.out.reg HRA.out⟩ (fun hHeld => ?_)
   clear hK K'
   clear hHeld x0 x1 x2 x3 x4 x5 x6 z2
   refine wpAnyH_done (by kernel_rfl) ?_ _
   go_wp2_with fail
   have OF := Lib.hid (show Ob (((((((wd.setCell ⟨q2, 0, none⟩ (.int .i64 4)).setCell ⟨q2, 1, none⟩ (.int .i64 S.pc)).setCell ⟨q2, 2, none⟩ (.int .i64 0)).setCell ⟨q2, 3, none⟩ (.int .i64 0)).setCell ⟨q2, 4, none⟩ (.int .u64 (uv 0#64))).setCell ⟨q2, 5, none⟩ (.int .u64 (uv 0#64))).setCell ⟨q2, 6, none⟩ (.int .u64 (uv (S.regs ra)))) q2 55 (acc ⟨4, S.pc, 0, 0, 0#64, 0#64, (S.regs ra)⟩) from (((((((PD.out.o2.set_ 0 _).set_ 1 _).set_ 2 _).set_ 3 _).set_ 4 _).set_ 5 _).set_ 6 _))
   have MF := Lib.hid (show MAt (((((((wd.setCell ⟨q2, 0, none⟩ (.int .i64 4)).setCell ⟨q2, 1, none⟩ (.int .i64 S.pc)).setCell ⟨q2, 2, none⟩ (.int .i64 0)).setCell ⟨q2, 3, none⟩ (.int .i64 0)).setCell ⟨q2, 4, none⟩ (.int .u64 (uv 0#64))).setCell ⟨q2, 5, none⟩ (.int .u64 (uv 0#64))).setCell ⟨q2, 6, none⟩ (.int .u64 (uv (S.regs ra)))) g gs ea eb _ _ _ from ⟨(((((((PD.out.M.o.far (p := ⟨q2, 0, none⟩) PD.out.g2 _).far (p := ⟨q2, 1, none⟩) PD.out.g2 _).far (p := ⟨q2, 2, none⟩) PD.out.g2 _).far (p := ⟨q2, 3, none⟩) PD.out.g2 _).far (p := ⟨q2, 4, none⟩) PD.out.g2 _).far (p := ⟨q2, 5, none⟩) PD.out.g2 _).far (p := ⟨q2, 6, none⟩) PD.out.g2 _), (((((((PD.out.M.s.far (p := ⟨q2, 0, none⟩) PD.out.s2 _).far (p := ⟨q2, 1, none⟩) PD.out.s2 _).far (p := ⟨q2, 2, none⟩) PD.out.s2 _).far (p := ⟨q2, 3, none⟩) PD.out.s2 _).far (p := ⟨q2, 4, none⟩) PD.out.s2 _).far (p := ⟨q2, 5, none⟩) PD.out.s2 _).far (p := ⟨q2, 6, none⟩) PD.out.s2 _)⟩)
   have TF := Lib.hid (show Tch (Tg g gs) w (((((((wd.setCell ⟨q2, 0, none⟩ (.int .i64 4)).setCell ⟨q2, 1, none⟩ (.int .i64 S.pc)).setCell ⟨q2, 2, none⟩ (.int .i64 0)).setCell ⟨q2, 3, none⟩ (.int .i64 0)).setCell ⟨q2, 4, none⟩ (.int .u64 (uv 0#64))).setCell ⟨q2, 5, none⟩ (.int .u64 (uv 0#64))).setCell ⟨q2, 6, none⟩ (.int .u64 (uv (S.regs ra)))) from (tch_fresh (tch_fresh (tch_fresh (tch_fresh (tch_fresh (tch_fresh (tch_fresh PD.out.t (p := ⟨q2, 0, none⟩) PD.out.l2 _) (p := ⟨q2, 1, none⟩) PD.out.l2 _) (p := ⟨q2, 2, none⟩) PD.out.l2 _) (p := ⟨q2, 3, none⟩) PD.out.l2 _) (p := ⟨q2, 4, none⟩) PD.out.l2 _) (p := ⟨q2, 5, none⟩) PD.out.l2 _) (p := ⟨q2, 6, none⟩) PD.out.l2 _))
   try simp only [uv_zero] at OF MF TF
   generalize (((((((wd.setCell ⟨q2, 0, none⟩ (.int .i64 4)).setCell ⟨q2, 1, none⟩ (.int .i64 S.pc)).setCell ⟨q2, 2, none⟩ (.int .i64 0)).setCell ⟨q2, 3, none⟩ (.int .i64 0)).setCell ⟨q2, 4, none⟩ (.int .u64 0)).setCell ⟨q2, 5, none⟩ (.int .u64 0)).setCell ⟨q2, 6, none⟩ (.int .u64 (uv (S.regs ra)))) = wf at OF MF TF ⊢
   have LR : (loadVar 55 ⟨q2, 0, none⟩).run Tryz.prog wf = .ok (acVal ⟨4, S.pc, 0, 0, 0#64, 0#64, (S.regs ra)⟩) wf := act_load OF.out
   exact bodyPost_ret (v := acVal ⟨4, S.pc, 0, 0, 0#64, 0#64, (S.regs ra)⟩) (results_cell Tryz.results32 rfl LR) rfl ⟨by rw [← HA2.out], by rw [← HS2.out]; exact MF.out, TF.out⟩
 have HD0 := Lib.hid (HTO.out hop.1 hop.2)
 have HRN := Lib.hid (fun w hM => run_any w g gs ea eb (.slice mA nm cm) (.slice (some ⟨bc, oc, none⟩) n c) { S with steps := S.steps + 1 } ⟨op, d, a, b, m⟩ HR.out hop.1 hop.2 (Nat.lt_of_lt_of_le HPC.out.1 HPC.out.2) HOK.out HTS.out hM)
 have HDB := Lib.hid (runD_le HR.out S)
 have HA2 := Lib.hid (show (⟨1, S.pc, 0, 0, 0#64, 0#64, 0#64⟩ : ActV) = A from by rw [← HA.out]; exact ((if_neg hop.1).trans (if_neg hop.2)).symm)
 have HSQ := Lib.hid (show ({ runS ea eb ⟨op, d, a, b, m⟩ { S with steps := S.steps + 1 } with pc := (S.pc + runD ⟨op, d, a, b, m⟩ S).toNat } : StV) = S' from by rw [← HS.out]; exact ((if_neg hop.1).trans (if_neg hop.2)).symm)
 have HDE := Lib.hid (show runD ⟨op, d, a, b, m⟩ { S with steps := S.steps + 1 } = runD ⟨op, d, a, b, m⟩ S from rfl)
 rw [HDE.out] at HRN
 generalize runD ⟨op, d, a, b, m⟩ S = D at HD0 HDB HSQ HRN HDE
 have HSRP := Lib.hid (runS_pc ea eb ⟨op, d, a, b, m⟩ { S with steps := S.steps + 1 })
 generalize runS ea eb ⟨op, d, a, b, m⟩ { S with steps := S.steps + 1 } = SR at HSQ HRN HSRP
 unfold insVal at HRN
 dsimp only at HRN
 have n21 : (op == 21) = false := by rw [beq_eq_false_iff_ne]; exact hop.1
 have n22 : (op == 22) = false := by rw [beq_eq_false_iff_ne]; exact hop.2
 clear HA HS hop HDE
 have y77 : w3.cell? ⟨g, 77, none⟩ = some (.int .i64 S.pc) := P3.out.M.pc_
 have B3 := Lib.hid (Below.refl w3.heap.size w3)
 have i0 : w3.cell? ⟨q3, 0, none⟩ = some (.int .i64 op) := P3.out.o3.cell 0
 have i1 : w3.cell? ⟨q3, 1, none⟩ = some (.int .i64 d) := P3.out.o3.cell 1
 have i2 : w3.cell? ⟨q3, 2, none⟩ = some (.int .i64 a) := P3.out.o3.cell 2
 have i3 : w3.cell? ⟨q3, 3, none⟩ = some (.int .i64 b) := P3.out.o3.cell 3
 have i4 : w3.cell? ⟨q3, 4, none⟩ = some (.int .i64 m) := P3.out.o3.cell 4
 go_upto_region 15 with fail
 clear y77 i0 i1 i2 i3 i4 n21 n22
 have hn24 := Lib.hid (show q2 ≠ w3.heap.size from Nat.ne_of_lt P3.out.o2.lt)
 have O4 := Lib.hid (Ob.fresh w3 55 [.int .i64 1, .int .i64 S.pc, .int .i64 0, .int .i64 0, .int .u64 0, .int .u64 0, .int .u64 0])
 have B4 := Lib.hid (below_alloc (B3.out) (.cells #[.int .i64 1, .int .i64 S.pc, .int .i64 0, .int .i64 0, .int .u64 0, .int .u64 0, .int .u64 0] 55))
 have Hq4 := Lib.hid (show w3.heap.size ≤ w3.heap.size by have := B3.out.size; omega)
 clear B3
 generalize (w3.alloc (.cells #[.int .i64 1, .int .i64 S.pc, .int .i64 0, .int .i64 0, .int .u64 0, .int .u64 0, .int .u64 0] 55)) = w4 at O4 B4 ⊢
 obtain ⟨q4, hq4⟩ : ∃ q4, w3.heap.size = q4 := ⟨_, rfl⟩
 have Hq4 := Lib.hid (Nat.le_of_eq hq4)
 rw [hq4] at O4 hn24 ⊢
 clear hq4
 have P4 := Lib.hid (P3.out.below B4.out)
 clear P3 B4 Hq4
 obtain ⟨wd, hwd⟩ : ∃ wd, w4.drew = wd := ⟨_, rfl⟩
 have PD := Lib.hid (hwd ▸ P4.out.drew)
 have OD := Lib.hid (hwd ▸ O4.out.drew)
 clear P4 O4
 have gw : IntKind.i64.wrap ((S.pc : Int) + D) = (((S.pc : Int) + D).toNat : Int) := by have h1 := HD0.out; have h2 := HDB.out; have h3 := HPC.out; rw [IntKind.wrap_i64]; omega
 obtain ⟨np, hnp⟩ : ∃ np, ((S.pc : Int) + D).toNat = np := ⟨_, rfl⟩
 rw [hnp] at gw HSQ
 clear hnp
 have HPX := Lib.hid (show SR.pc = S.pc from HSRP.out)
 refine wp_region_held_drew (S := fun w' => (w'.cell? ⟨q3, 0, none⟩ = some (.int .i64 op) ∧ w'.cell? ⟨q3, 1, none⟩ = some (.int .i64 d) ∧ w'.cell? ⟨q3, 2, none⟩ = some (.int .i64 a) ∧ w'.cell? ⟨q3, 3, none⟩ = some (.int .i64 b) ∧ w'.cell? ⟨q3, 4, none⟩ = some (.int .i64 m))) (by kernel_rfl) (by rw [hwd]; exact ⟨PD.out.o3.cell 0, PD.out.o3.cell 1, PD.out.o3.cell 2, PD.out.o3.cell 3, PD.out.o3.cell 4⟩) (fun hHeld => ?_)
 refine tkq 0 88 rfl (by kernel_rfl) (by rfl) hHeld (fun _ _ _ h => h) (by intro w' hSw; go_simp; try with_reducible rfl) ?_
 simp only [Act.put, spa, spb, spc]
 refine tkq 1 89 rfl (by kernel_rfl) (by rfl) hHeld (fun _ _ _ h => h) (by intro w' hSw; go_simp; try with_reducible rfl) ?_
 simp only [Act.put, spa, spb, spc]
 refine tkq 2 90 rfl (by kernel_rfl) (by rfl) hHeld (fun _ _ _ h => h) (by intro w' hSw; go_simp; try with_reducible rfl) ?_
 simp only [Act.put, spa, spb, spc]
 refine tkq 4 92 rfl (by kernel_rfl) (by rfl) hHeld (fun _ _ _ h => h) (by intro w' hSw; go_simp; try with_reducible rfl) ?_
 simp only [Act.put, spa, spb, spc]
 refine tkq 5 93 rfl (by kernel_rfl) (by rfl) hHeld (fun _ _ _ h => h) (by intro w' hSw; go_simp; try with_reducible rfl) ?_
 simp only [Act.put, spa, spb, spc]
 refine wpAnyH_ready (rs := [3, 6]) (by kernel_rfl) (by simp) ?_
 refine AllReadyH.cons (o := ⟨some 91, _, _, _, _, _⟩) rfl (fun K' hK => ?_) ?_
 · have y77 : wd.cell? ⟨g, 77, none⟩ = some (.int .i64 S.pc) := PD.out.M.pc_
   go_simp
   refine hK.out _ _ ⟨PD.out.o3.cell 0, PD.out.o3.cell 1, PD.out.o3.cell 2, PD.out.o3.cell 3, PD.out.o3.cell 4⟩ (fun hHeld => ?_)
   clear hK K'
   clear y77
   refine rdq 6 ⟨some 94, _, _, _, _, _⟩ (by kernel_rfl) rfl (fun K' hK => ?_)
   go_simp
   refine (HRN.out _ PD.out.M).mono ?_
   rintro e wx ⟨rfl, mx, tx⟩
   have PX := Lib.hid (PD.out.tch tx mx)
   have OX := Lib.hid (OD.out.tch tx (fun e => by rcases e with e | e; exact (PD.out.M.o.ne_ OD.out (by decide)) e.symm; exact (PD.out.M.s.ne_ OD.out (by decide)) e.symm))
   clear mx tx
   refine hK.out _ _ ⟨PX.out.o3.cell 0, PX.out.o3.cell 1, PX.out.o3.cell 2, PX.out.o3.cell 3, PX.out.o3.cell 4⟩ (fun hHeld => ?_)
   clear hK K'
   refine tkq 7 95 rfl (by kernel_rfl) (by rfl) hHeld (fun _ _ _ h => h) (by intro w' hSw; go_simp; try with_reducible rfl) ?_
   simp only [Act.put, spa, spb, spc]
   refine tkq 8 96 rfl (by kernel_rfl) (by rfl) hHeld (fun _ _ _ h => h) (by intro w' hSw; go_simp; try with_reducible rfl) ?_
   simp only [Act.put, spa, spb, spc]
   refine tkq 9 97 rfl (by kernel_rfl) (by rfl) hHeld (fun _ _ _ h => h) (by intro w' hSw; go_simp; try with_reducible rfl) ?_
   simp only [Act.put, spa, spb, spc]
   refine rdq 10 ⟨none, _, _, _, _, _⟩ (by kernel_rfl) rfl (fun K' hK => ?_)
   have y77 := PX.out.M.pc_
   have zg := PX.out.M.o.frozen
   go_simp
   have PY := Lib.hid (PX.out.setPc np)
   have OY := Lib.hid (OX.out.far (p := ⟨g, 77, none⟩) (OX.out.ne_ PX.out.M.o (by decide)) (.int .i64 np))
   refine hK.out _ _ ⟨PY.out.o3.cell 0, PY.out.o3.cell 1, PY.out.o3.cell 2, PY.out.o3.cell 3, PY.out.o3.cell 4⟩ (fun hHeld => ?_)
   clear hK K'
   clear hHeld y77 zg
   refine wpAnyH_done (by kernel_rfl) ?_ _
   clear PX OX PD OD hwd
   generalize wx.setCell ⟨g, 77, none⟩ (.int .i64 np) = w6 at PY OY ⊢
   have HS2 := Lib.hid (show ({ SR with pc := np } : StV) = S' from HSQ.out)
   have v0 := OY.out.c0
   have v1 := OY.out.c1
   have v2 := OY.out.c2
   have v3 := OY.out.c3
   have v4 := OY.out.c4
   have v5 := OY.out.c5
   have v6 := OY.out.c6
   have x0 : w6.cell? ⟨q2, 0, none⟩ = some (.int .i64 0) := PY.out.o2.cell 0
   have x1 : w6.cell? ⟨q2, 1, none⟩ = some (.int .i64 0) := PY.out.o2.cell 1
   have x2 : w6.cell? ⟨q2, 2, none⟩ = some (.int .i64 0) := PY.out.o2.cell 2
   have x3 : w6.cell? ⟨q2, 3, none⟩ = some (.int .i64 0) := PY.out.o2.cell 3
   have x4 : w6.cell? ⟨q2, 4, none⟩ = some (.int .u64 0) := PY.out.o2.cell 4
   have x5 : w6.cell? ⟨q2, 5, none⟩ = some (.int .u64 0) := PY.out.o2.cell 5
   have x6 : w6.cell? ⟨q2, 6, none⟩ = some (.int .u64 0) := PY.out.o2.cell 6
   have z2 := PY.out.o2.frozen
   go_wp2_with fail
   have OF := Lib.hid (show Ob (((((((w6.setCell ⟨q2, 0, none⟩ (.int .i64 1)).setCell ⟨q2, 1, none⟩ (.int .i64 S.pc)).setCell ⟨q2, 2, none⟩ (.int .i64 0)).setCell ⟨q2, 3, none⟩ (.int .i64 0)).setCell ⟨q2, 4, none⟩ (.int .u64 (uv 0#64))).setCell ⟨q2, 5, none⟩ (.int .u64 (uv 0#64))).setCell ⟨q2, 6, none⟩ (.int .u64 (uv 0#64))) q2 55 (acc ⟨1, S.pc, 0, 0, 0#64, 0#64, 0#64⟩) from (((((((PY.out.o2.set_ 0 _).set_ 1 _).set_ 2 _).set_ 3 _).set_ 4 _).set_ 5 _).set_ 6 _))
   have MF := Lib.hid (show MAt (((((((w6.setCell ⟨q2, 0, none⟩ (.int .i64 1)).setCell ⟨q2, 1, none⟩ (.int .i64 S.pc)).setCell ⟨q2, 2, none⟩ (.int .i64 0)).setCell ⟨q2, 3, none⟩ (.int .i64 0)).setCell ⟨q2, 4, none⟩ (.int .u64 (uv 0#64))).setCell ⟨q2, 5, none⟩ (.int .u64 (uv 0#64))).setCell ⟨q2, 6, none⟩ (.int .u64 (uv 0#64))) g gs ea eb _ _ _ from ⟨(((((((PY.out.M.o.far (p := ⟨q2, 0, none⟩) PY.out.g2 _).far (p := ⟨q2, 1, none⟩) PY.out.g2 _).far (p := ⟨q2, 2, none⟩) PY.out.g2 _).far (p := ⟨q2, 3, none⟩) PY.out.g2 _).far (p := ⟨q2, 4, none⟩) PY.out.g2 _).far (p := ⟨q2, 5, none⟩) PY.out.g2 _).far (p := ⟨q2, 6, none⟩) PY.out.g2 _), (((((((PY.out.M.s.far (p := ⟨q2, 0, none⟩) PY.out.s2 _).far (p := ⟨q2, 1, none⟩) PY.out.s2 _).far (p := ⟨q2, 2, none⟩) PY.out.s2 _).far (p := ⟨q2, 3, none⟩) PY.out.s2 _).far (p := ⟨q2, 4, none⟩) PY.out.s2 _).far (p := ⟨q2, 5, none⟩) PY.out.s2 _).far (p := ⟨q2, 6, none⟩) PY.out.s2 _)⟩)
   have TF := Lib.hid (show Tch (Tg g gs) w (((((((w6.setCell ⟨q2, 0, none⟩ (.int .i64 1)).setCell ⟨q2, 1, none⟩ (.int .i64 S.pc)).setCell ⟨q2, 2, none⟩ (.int .i64 0)).setCell ⟨q2, 3, none⟩ (.int .i64 0)).setCell ⟨q2, 4, none⟩ (.int .u64 (uv 0#64))).setCell ⟨q2, 5, none⟩ (.int .u64 (uv 0#64))).setCell ⟨q2, 6, none⟩ (.int .u64 (uv 0#64))) from (tch_fresh (tch_fresh (tch_fresh (tch_fresh (tch_fresh (tch_fresh (tch_fresh PY.out.t (p := ⟨q2, 0, none⟩) PY.out.l2 _) (p := ⟨q2, 1, none⟩) PY.out.l2 _) (p := ⟨q2, 2, none⟩) PY.out.l2 _) (p := ⟨q2, 3, none⟩) PY.out.l2 _) (p := ⟨q2, 4, none⟩) PY.out.l2 _) (p := ⟨q2, 5, none⟩) PY.out.l2 _) (p := ⟨q2, 6, none⟩) PY.out.l2 _))
   try simp only [uv_zero] at OF MF TF
   generalize (((((((w6.setCell ⟨q2, 0, none⟩ (.int .i64 1)).setCell ⟨q2, 1, none⟩ (.int .i64 S.pc)).setCell ⟨q2, 2, none⟩ (.int .i64 0)).setCell ⟨q2, 3, none⟩ (.int .i64 0)).setCell ⟨q2, 4, none⟩ (.int .u64 0)).setCell ⟨q2, 5, none⟩ (.int .u64 0)).setCell ⟨q2, 6, none⟩ (.int .u64 0)) = wf at OF MF TF ⊢
   have LR : (loadVar 55 ⟨q2, 0, none⟩).run Tryz.prog wf = .ok (acVal ⟨1, S.pc, 0, 0, 0#64, 0#64, 0#64⟩) wf := act_load OF.out
   exact bodyPost_ret (v := acVal ⟨1, S.pc, 0, 0, 0#64, 0#64, 0#64⟩) (results_cell Tryz.results32 rfl LR) rfl ⟨by rw [← HA2.out], by rw [← HS2.out]; exact MF.out, TF.out⟩
 refine AllReadyH.cons (o := ⟨some 94, _, _, _, _, _⟩) rfl (fun K' hK => ?_) AllReadyH.nil
 go_simp
 refine (HRN.out _ PD.out.M).mono ?_
 rintro e wx ⟨rfl, mx, tx⟩
 have PX := Lib.hid (PD.out.tch tx mx)
 have OX := Lib.hid (OD.out.tch tx (fun e => by rcases e with e | e; exact (PD.out.M.o.ne_ OD.out (by decide)) e.symm; exact (PD.out.M.s.ne_ OD.out (by decide)) e.symm))
 clear mx tx
 refine hK.out _ _ ⟨PX.out.o3.cell 0, PX.out.o3.cell 1, PX.out.o3.cell 2, PX.out.o3.cell 3, PX.out.o3.cell 4⟩ (fun hHeld => ?_)
 clear hK K'
 refine rdq 3 ⟨some 91, _, _, _, _, _⟩ (by kernel_rfl) rfl (fun K' hK => ?_)
 have y77 : wx.cell? ⟨g, 77, none⟩ = some (.int .i64 S.pc) := by have := PX.out.M.pc_; rw [HPX.out] at this; exact this
 go_simp
 refine hK.out _ _ ⟨PX.out.o3.cell 0, PX.out.o3.cell 1, PX.out.o3.cell 2, PX.out.o3.cell 3, PX.out.o3.cell 4⟩ (fun hHeld => ?_)
 clear hK K'
 clear y77
 refine tkq 7 95 rfl (by kernel_rfl) (by rfl) hHeld (fun _ _ _ h => h) (by intro w' hSw; go_simp; try with_reducible rfl) ?_
 simp only [Act.put, spa, spb, spc]
 refine tkq 8 96 rfl (by kernel_rfl) (by rfl) hHeld (fun _ _ _ h => h) (by intro w' hSw; go_simp; try with_reducible rfl) ?_
 simp only [Act.put, spa, spb, spc]
 refine tkq 9 97 rfl (by kernel_rfl) (by rfl) hHeld (fun _ _ _ h => h) (by intro w' hSw; go_simp; try with_reducible rfl) ?_
 simp only [Act.put, spa, spb, spc]
 refine rdq 10 ⟨none, _, _, _, _, _⟩ (by kernel_rfl) rfl (fun K' hK => ?_)
 have y77 := PX.out.M.pc_
 have zg := PX.out.M.o.frozen
 go_simp
 have PY := Lib.hid (PX.out.setPc np)
 have OY := Lib.hid (OX.out.far (p := ⟨g, 77, none⟩) (OX.out.ne_ PX.out.M.o (by decide)) (.int .i64 np))
 refine hK.out _ _ ⟨PY.out.o3.cell 0, PY.out.o3.cell 1, PY.out.o3.cell 2, PY.out.o3.cell 3, PY.out.o3.cell 4⟩ (fun hHeld => ?_)
 clear hK K'
 clear hHeld y77 zg
 refine wpAnyH_done (by kernel_rfl) ?_ _
 clear PX OX PD OD hwd
 generalize wx.setCell ⟨g, 77, none⟩ (.int .i64 np) = w6 at PY OY ⊢
 have HS2 := Lib.hid (show ({ SR with pc := np } : StV) = S' from HSQ.out)
 have v0 := OY.out.c0
 have v1 := OY.out.c1
 have v2 := OY.out.c2
 have v3 := OY.out.c3
 have v4 := OY.out.c4
 have v5 := OY.out.c5
 have v6 := OY.out.c6
 have x0 : w6.cell? ⟨q2, 0, none⟩ = some (.int .i64 0) := PY.out.o2.cell 0
 have x1 : w6.cell? ⟨q2, 1, none⟩ = some (.int .i64 0) := PY.out.o2.cell 1
 have x2 : w6.cell? ⟨q2, 2, none⟩ = some (.int .i64 0) := PY.out.o2.cell 2
 have x3 : w6.cell? ⟨q2, 3, none⟩ = some (.int .i64 0) := PY.out.o2.cell 3
 have x4 : w6.cell? ⟨q2, 4, none⟩ = some (.int .u64 0) := PY.out.o2.cell 4
 have x5 : w6.cell? ⟨q2, 5, none⟩ = some (.int .u64 0) := PY.out.o2.cell 5
 have x6 : w6.cell? ⟨q2, 6, none⟩ = some (.int .u64 0) := PY.out.o2.cell 6
 have z2 := PY.out.o2.frozen
 go_wp2_with fail
 have OF := Lib.hid (show Ob (((((((w6.setCell ⟨q2, 0, none⟩ (.int .i64 1)).setCell ⟨q2, 1, none⟩ (.int .i64 S.pc)).setCell ⟨q2, 2, none⟩ (.int .i64 0)).setCell ⟨q2, 3, none⟩ (.int .i64 0)).setCell ⟨q2, 4, none⟩ (.int .u64 (uv 0#64))).setCell ⟨q2, 5, none⟩ (.int .u64 (uv 0#64))).setCell ⟨q2, 6, none⟩ (.int .u64 (uv 0#64))) q2 55 (acc ⟨1, S.pc, 0, 0, 0#64, 0#64, 0#64⟩) from (((((((PY.out.o2.set_ 0 _).set_ 1 _).set_ 2 _).set_ 3 _).set_ 4 _).set_ 5 _).set_ 6 _))
 have MF := Lib.hid (show MAt (((((((w6.setCell ⟨q2, 0, none⟩ (.int .i64 1)).setCell ⟨q2, 1, none⟩ (.int .i64 S.pc)).setCell ⟨q2, 2, none⟩ (.int .i64 0)).setCell ⟨q2, 3, none⟩ (.int .i64 0)).setCell ⟨q2, 4, none⟩ (.int .u64 (uv 0#64))).setCell ⟨q2, 5, none⟩ (.int .u64 (uv 0#64))).setCell ⟨q2, 6, none⟩ (.int .u64 (uv 0#64))) g gs ea eb _ _ _ from ⟨(((((((PY.out.M.o.far (p := ⟨q2, 0, none⟩) PY.out.g2 _).far (p := ⟨q2, 1, none⟩) PY.out.g2 _).far (p := ⟨q2, 2, none⟩) PY.out.g2 _).far (p := ⟨q2, 3, none⟩) PY.out.g2 _).far (p := ⟨q2, 4, none⟩) PY.out.g2 _).far (p := ⟨q2, 5, none⟩) PY.out.g2 _).far (p := ⟨q2, 6, none⟩) PY.out.g2 _), (((((((PY.out.M.s.far (p := ⟨q2, 0, none⟩) PY.out.s2 _).far (p := ⟨q2, 1, none⟩) PY.out.s2 _).far (p := ⟨q2, 2, none⟩) PY.out.s2 _).far (p := ⟨q2, 3, none⟩) PY.out.s2 _).far (p := ⟨q2, 4, none⟩) PY.out.s2 _).far (p := ⟨q2, 5, none⟩) PY.out.s2 _).far (p := ⟨q2, 6, none⟩) PY.out.s2 _)⟩)
 have TF := Lib.hid (show Tch (Tg g gs) w (((((((w6.setCell ⟨q2, 0, none⟩ (.int .i64 1)).setCell ⟨q2, 1, none⟩ (.int .i64 S.pc)).setCell ⟨q2, 2, none⟩ (.int .i64 0)).setCell ⟨q2, 3, none⟩ (.int .i64 0)).setCell ⟨q2, 4, none⟩ (.int .u64 (uv 0#64))).setCell ⟨q2, 5, none⟩ (.int .u64 (uv 0#64))).setCell ⟨q2, 6, none⟩ (.int .u64 (uv 0#64))) from (tch_fresh (tch_fresh (tch_fresh (tch_fresh (tch_fresh (tch_fresh (tch_fresh PY.out.t (p := ⟨q2, 0, none⟩) PY.out.l2 _) (p := ⟨q2, 1, none⟩) PY.out.l2 _) (p := ⟨q2, 2, none⟩) PY.out.l2 _) (p := ⟨q2, 3, none⟩) PY.out.l2 _) (p := ⟨q2, 4, none⟩) PY.out.l2 _) (p := ⟨q2, 5, none⟩) PY.out.l2 _) (p := ⟨q2, 6, none⟩) PY.out.l2 _))
 try simp only [uv_zero] at OF MF TF
 generalize (((((((w6.setCell ⟨q2, 0, none⟩ (.int .i64 1)).setCell ⟨q2, 1, none⟩ (.int .i64 S.pc)).setCell ⟨q2, 2, none⟩ (.int .i64 0)).setCell ⟨q2, 3, none⟩ (.int .i64 0)).setCell ⟨q2, 4, none⟩ (.int .u64 0)).setCell ⟨q2, 5, none⟩ (.int .u64 0)).setCell ⟨q2, 6, none⟩ (.int .u64 0)) = wf at OF MF TF ⊢
 have LR : (loadVar 55 ⟨q2, 0, none⟩).run Tryz.prog wf = .ok (acVal ⟨1, S.pc, 0, 0, 0#64, 0#64, 0#64⟩) wf := act_load OF.out
 exact bodyPost_ret (v := acVal ⟨1, S.pc, 0, 0, 0#64, 0#64, 0#64⟩) (results_cell Tryz.results32 rfl LR) rfl ⟨by rw [← HA2.out], by rw [← HS2.out]; exact MF.out, TF.out⟩

end Go.Proofs.YtikkmkomlajnfaaGreatDoor.En
end
