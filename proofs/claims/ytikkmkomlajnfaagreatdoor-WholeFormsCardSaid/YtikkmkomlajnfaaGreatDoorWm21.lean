/-
  Layer 9: the walk of one. Conditions: those of each theorem.
-/
import Derived.Test.YtikkmkomlajnfaaGreatDoorWm01
import Derived.Test.YtikkmkomlajnfaaGreatDoorWm20
import Derived.Test.YtikkmkomlajnfaaGreatDoorWm07
import Derived.Deep.DeepCutAuto
set_option linter.unusedVariables false
set_option linter.unusedSimpArgs false
section
namespace Go.Proofs.YtikkmkomlajnfaaGreatDoor.Jd
set_option maxRecDepth 100000
set_option maxHeartbeats 16000000
open Go.RowKit
open Go.Proofs.YtikkmkomlajnfaaGreatDoor.Op (InstV insc insVal inss ins0 ins_at rightV right_is Frm goesV writesV sourceV LoopV lpc lps lp0 lp_at)

theorem kc_zero : kc (fun _ => j0) = [.int .i64 0, .int .u64 0, .int .u64 0, .int .i64 0, .int .i64 0, .int .u64 0, .int .u64 0, .int .i64 0, .int .i64 0, .int .u64 0, .int .u64 0, .int .i64 0, .int .i64 0, .int .u64 0, .int .u64 0, .int .i64 0, .int .i64 0, .int .u64 0, .int .u64 0, .int .i64 0, .int .i64 0, .int .u64 0, .int .u64 0, .int .i64 0, .int .i64 0, .int .u64 0, .int .u64 0, .int .i64 0, .int .i64 0, .int .u64 0, .int .u64 0, .int .i64 0] := rfl
theorem ob_mid {w : World} {q o : Nat} {T : TypeId} {pre xs post : List Value} (h : Ob w q T (pre ++ (xs ++ post))) (ho : o = pre.length) : Sl w (some ⟨q, o, none⟩) xs := by
 subst ho
 refine Sl.mk fun j hj => ?_
 rw [h.cell, List.getElem?_append_right (by omega), Nat.add_sub_cancel_left, List.getElem?_append_left hj, List.getD_eq_getElem?_getD, List.getElem?_eq_getElem hj]
 rfl
theorem call_sl {w : World} {q nw : Nat} {K : Nat → JT} (h : Ob w q 136 (kc K)) (hn : nw ≤ 3) : Sl w (some ⟨q, 4, none⟩) (Sg.tys ((List.range nw).map fun j => tyT (K (1 + j)))) := by
 have hc : nw = 0 ∨ nw = 1 ∨ nw = 2 ∨ nw = 3 := by omega
 rcases hc with rfl | rfl | rfl | rfl
 · exact Sl.nil _ _
 · exact ob_mid (pre := jc (K 0)) (post := jc (K 2) ++ (jc (K 3) ++ (jc (K 4) ++ (jc (K 5) ++ (jc (K 6) ++ jc (K 7)))))) h rfl
 · exact ob_mid (pre := jc (K 0)) (post := jc (K 3) ++ (jc (K 4) ++ (jc (K 5) ++ (jc (K 6) ++ jc (K 7))))) h rfl
 exact ob_mid (pre := jc (K 0)) (post := jc (K 4) ++ (jc (K 5) ++ (jc (K 6) ++ jc (K 7)))) h rfl
theorem res_ty {y : Nat} (hy : y < 7) : Sg.tyVal (Sg.rsT y) = jVal (resT y) := by
 rcases Sg.y_cases hy with rfl | rfl | rfl | rfl | rfl | rfl | rfl <;> rfl
theorem keepR {w w' : World} (hb : Below w.heap.size w w') {b o : Nat} {cs : List Value} (h : w.rangeAt b o cs) : w'.rangeAt b o cs := fun j v hv => keepS hb (h j v hv)

theorem one_any (w : World) (g gc ga n nc na : Nat) (mA : Option Addr) (nm cm : Nat) (cA lA : Option Addr) (cc L lc : Nat) (C : Nat → Nat → JT) (N : Nat → Bool) (p : Nat) (l : List InstV) (ls : List LoopV) (hp : p < n) (hm : n ≤ 64) (hn : n = l.length) (hnm : nm ≤ 140737488351232)
 (hr : ∀ i ∈ l, rightV i = true) (hbk : (l.getD p ins0).op = 20 → (l.getD p ins0).d ≤ p)
 (he : JEnv w gc ga cA lA l ls) (hj : JAt w g gc ga n nc na (.slice mA nm cm) (.slice cA n cc) (.slice lA L lc) C N) :
 Calls Tryz.prog 55 #[.pointer (some ⟨g, 0, none⟩), .int .i64 p] w fun e w' =>
  e = .returned (.tuple #[kVal (oneV (l.getD p ins0) (C p) (C (p - (l.getD p ins0).d.toNat)) nm).1, .int .i64 (oneV (l.getD p ins0) (C p) (C (p - (l.getD p ins0).d.toNat)) nm).2]) ∧ Below w.heap.size w w' := by
 have HP := Lib.hid hp
 have HN := Lib.hid hn
 have HM := Lib.hid hm
 have HNM := Lib.hid hnm
 have HE := Lib.hid he
 have HJ := Lib.hid hj
 have hpl : p < l.length := by omega
 have hri := hr (l.getD p ins0) (by rw [List.getD_eq_getElem?_getD, List.getElem?_eq_getElem hpl]; exact List.getElem_mem hpl)
 obtain ⟨bc, oc, e, _, hc⟩ := ins_at he.c (by omega)
 subst e
 have HC := Lib.hid (hc p hpl)
 generalize l.getD p ins0 = i at HC hri hbk ⊢
 have HR := Lib.hid hri
 have HI := Lib.hid (right_is hri)
 have HB := Lib.hid hbk
 obtain ⟨V, hV⟩ : ∃ V, oneV i (C p) (C (p - i.d.toNat)) nm = V := ⟨_, rfl⟩
 rw [hV]
 have HV := Lib.hid hV
 have g1 : (p : Int) < (n : Int) := by omega
 have g2 : (0 : Int) ≤ (p : Int) := by omega
 clear he hj hp hn hr hbk hm hV hc hri hpl hnm
 obtain ⟨op, d, a, b, m⟩ := i
 have B0 := Lib.hid (Below.refl w.heap.size w)
 go_enter Tryz.func55, Tryz.ntmps55
 go_upto_region 1 with fail
 have O4 := Lib.hid (Ob.fresh w 136 [.int .i64 0, .int .u64 0, .int .u64 0, .int .i64 0, .int .i64 0, .int .u64 0, .int .u64 0, .int .i64 0, .int .i64 0, .int .u64 0, .int .u64 0, .int .i64 0, .int .i64 0, .int .u64 0, .int .u64 0, .int .i64 0, .int .i64 0, .int .u64 0, .int .u64 0, .int .i64 0, .int .i64 0, .int .u64 0, .int .u64 0, .int .i64 0, .int .i64 0, .int .u64 0, .int .u64 0, .int .i64 0, .int .i64 0, .int .u64 0, .int .u64 0, .int .i64 0])
 have B1 := Lib.hid (below_alloc (B0.out) (.cells #[.int .i64 0, .int .u64 0, .int .u64 0, .int .i64 0, .int .i64 0, .int .u64 0, .int .u64 0, .int .i64 0, .int .i64 0, .int .u64 0, .int .u64 0, .int .i64 0, .int .i64 0, .int .u64 0, .int .u64 0, .int .i64 0, .int .i64 0, .int .u64 0, .int .u64 0, .int .i64 0, .int .i64 0, .int .u64 0, .int .u64 0, .int .i64 0, .int .i64 0, .int .u64 0, .int .u64 0, .int .i64 0, .int .i64 0, .int .u64 0, .int .u64 0, .int .i64 0] 136))
 have Hq4 := Lib.hid (show w.heap.size ≤ w.heap.size by have := B0.out.size; omega)
 clear B0
 generalize (w.alloc (.cells #[.int .i64 0, .int .u64 0, .int .u64 0, .int .i64 0, .int .i64 0, .int .u64 0, .int .u64 0, .int .i64 0, .int .i64 0, .int .u64 0, .int .u64 0, .int .i64 0, .int .i64 0, .int .u64 0, .int .u64 0, .int .i64 0, .int .i64 0, .int .u64 0, .int .u64 0, .int .i64 0, .int .i64 0, .int .u64 0, .int .u64 0, .int .i64 0, .int .i64 0, .int .u64 0, .int .u64 0, .int .i64 0, .int .i64 0, .int .u64 0, .int .u64 0, .int .i64 0] 136)) = w1 at O4 B1 ⊢
 obtain ⟨q4, hq4⟩ : ∃ q4, w.heap.size = q4 := ⟨_, rfl⟩
 have Hq4 := Lib.hid (Nat.le_of_eq hq4)
 rw [hq4] at O4 ⊢
 clear hq4
 have O4 := Lib.hid (show Ob w1 q4 136 (kc (fun _ => j0)) from kc_zero ▸ O4.out)
 have E1 := Lib.hid (HE.out.below B1.out)
 have J1 := Lib.hid (HJ.out.below B1.out)
 have c0 := keepS B1.out HC.out.1
 have c1 := keepS B1.out HC.out.2.1
 have c2 := keepS B1.out HC.out.2.2.1
 have c3 := keepS B1.out HC.out.2.2.2.1
 have c4 := keepS B1.out HC.out.2.2.2.2
 have y1 := J1.out.o.c1
 have y2 := J1.out.o.c2
 have yr : w1.rangeAt gc (p * 32) (kc (C p)) := J1.out.row HP.out
 dsimp only at c0 c1 c2 c3 c4
 go_cut [6, 7] (fun s6 s7 w' => ∃ p6 p7, s6 = .pointer (some ⟨p6, 0, none⟩) ∧ s7 = .pointer (some ⟨p7, 0, none⟩) ∧ Ob w' p6 59 [.int .i64 op, .int .i64 d, .int .i64 a, .int .i64 b, .int .i64 m] ∧ Ob w' p7 136 (kc (C p)) ∧ Ob w' q4 136 (kc (fun _ => j0)) ∧ Below w.heap.size w w' ∧ w.heap.size ≤ p6 ∧ w.heap.size ≤ p7 ∧ q4 < p7)
 case first =>
  have KS := Lib.hid (show ∀ w', Below w1.heap.size w1 w' → (w'.cell? ⟨g, 1, none⟩ = some (.slice (some ⟨bc, oc, none⟩) n cc) ∧ w'.cell? ⟨g, 2, none⟩ = some (.slice (some ⟨gc, 0, none⟩) n nc) ∧ w'.cell? ⟨bc, oc + p * 5, none⟩ = some (.int .i64 op) ∧ w'.cell? ⟨bc, oc + p * 5 + 1, none⟩ = some (.int .i64 d) ∧ w'.cell? ⟨bc, oc + p * 5 + 2, none⟩ = some (.int .i64 a) ∧ w'.cell? ⟨bc, oc + p * 5 + 3, none⟩ = some (.int .i64 b) ∧ w'.cell? ⟨bc, oc + p * 5 + 4, none⟩ = some (.int .i64 m) ∧ w'.rangeAt gc (p * 32) (kc (C p))) from fun w' hb => ⟨keepS hb y1, keepS hb y2, keepS hb c0, keepS hb c1, keepS hb c2, keepS hb c3, keepS hb c4, keepR hb yr⟩)
  have BW := Lib.hid (Below.refl w1.heap.size w1)
  obtain ⟨wd, hwd⟩ : ∃ wd, w1.drew = wd := ⟨_, rfl⟩
  have BD := Lib.hid (show Below w1.heap.size w1 wd from hwd ▸ below_drewN BW.out 1)
  have OD := Lib.hid (show Ob wd q4 136 (kc (fun _ => j0)) from hwd ▸ O4.out.drew)
  have HQ := Lib.hid (show q4 < w1.heap.size from O4.out.lt)
  have HW := Lib.hid (show w.heap.size ≤ w1.heap.size from B1.out.size)
  refine wp_region_held_drew (S := fun w' => (w'.cell? ⟨g, 1, none⟩ = some (.slice (some ⟨bc, oc, none⟩) n cc) ∧ w'.cell? ⟨g, 2, none⟩ = some (.slice (some ⟨gc, 0, none⟩) n nc) ∧ w'.cell? ⟨bc, oc + p * 5, none⟩ = some (.int .i64 op) ∧ w'.cell? ⟨bc, oc + p * 5 + 1, none⟩ = some (.int .i64 d) ∧ w'.cell? ⟨bc, oc + p * 5 + 2, none⟩ = some (.int .i64 a) ∧ w'.cell? ⟨bc, oc + p * 5 + 3, none⟩ = some (.int .i64 b) ∧ w'.cell? ⟨bc, oc + p * 5 + 4, none⟩ = some (.int .i64 m) ∧ w'.rangeAt gc (p * 32) (kc (C p)))) (by kernel_rfl) (hwd ▸ KS.out wd BD.out) (fun hHeld => ?_)
  refine tkq 0 16 rfl (by kernel_rfl) (by rfl) hHeld (fun _ _ _ h => h) (by intro w' hSw; go_simp; try with_reducible rfl) ?_
  simp only [Act.put, spa, spb, spc]
  refine tkq 1 17 rfl (by kernel_rfl) (by rfl) hHeld (fun _ _ _ h => h) (by intro w' hSw; go_simp; try with_reducible rfl) ?_
  simp only [Act.put, spa, spb, spc]
  refine tkq 2 18 rfl (by kernel_rfl) (by rfl) hHeld (fun _ _ _ h => h) (by intro w' hSw; go_simp; try with_reducible rfl) ?_
  simp only [Act.put, spa, spb, spc]
  refine tkq 3 19 rfl (by kernel_rfl) (by rfl) hHeld (fun _ _ _ h => h) (by intro w' hSw; go_simp; try with_reducible rfl) ?_
  simp only [Act.put, spa, spb, spc]
  refine tkq 4 20 rfl (by kernel_rfl) (by rfl) hHeld (fun _ _ _ h => h) (by intro w' hSw; go_simp; try with_reducible rfl) ?_
  simp only [Act.put, spa, spb, spc]
  refine tkq 5 21 rfl (by kernel_rfl) (by rfl) hHeld (fun _ _ _ h => h) (by intro w' hSw; go_simp; try with_reducible rfl) ?_
  simp only [Act.put, spa, spb, spc]
  refine tkq 6 22 rfl (by kernel_rfl) (by rfl) hHeld (fun _ _ _ h => h) (by intro w' hSw; go_simp; try with_reducible rfl) ?_
  simp only [Act.put, spa, spb, spc]
  refine tkq 7 23 rfl (by kernel_rfl) (by rfl) hHeld (fun _ _ _ h => h) (by intro w' hSw; go_simp; try with_reducible rfl) ?_
  simp only [Act.put, spa, spb, spc]
  refine tkq 8 24 rfl (by kernel_rfl) (by rfl) hHeld (fun _ _ _ h => h) (by intro w' hSw; go_simp; try with_reducible rfl) ?_
  simp only [Act.put, spa, spb, spc]
  refine tkq 9 25 rfl (by kernel_rfl) (by rfl) hHeld (fun _ _ _ h => h) (by intro w' hSw; go_simp; try with_reducible rfl) ?_
  simp only [Act.put, spa, spb, spc]
  refine tkq 10 26 rfl (by kernel_rfl) (by rfl) hHeld (fun _ _ _ h => h) (by intro w' hSw; go_simp; try with_reducible rfl) ?_
  simp only [Act.put, spa, spb, spc]
  refine tkq 11 27 rfl (by kernel_rfl) (by rfl) hHeld (fun _ _ _ h => h) (by intro w' hSw; go_simp; try with_reducible rfl) ?_
  simp only [Act.put, spa, spb, spc]
  refine tkq 12 28 rfl (by kernel_rfl) (by rfl) hHeld (fun _ _ _ h => h) (by intro w' hSw; go_simp; try with_reducible rfl) ?_
  simp only [Act.put, spa, spb, spc]
  refine tkq 13 29 rfl (by kernel_rfl) (by rfl) hHeld (fun _ _ _ h => h) (by intro w' hSw; go_simp; try with_reducible rfl) ?_
  simp only [Act.put, spa, spb, spc]
  refine wpAnyH_take (i := 14) (oi := ⟨some 30, .load 136 (.tmp 29), _, _, _, none⟩) (v := .agg (kc (C p)).toArray) rfl (by kernel_rfl) (by kernel_rfl) (by kernel_rfl) (fun _ _ _ h => h) (yieldsIf_load_mid (by rfl) 136 (.tmp 29) rfl gc (p * 32) rfl (kc (C p)) (.array 8 134) (fun w' h => h.2.2.2.2.2.2.2) (by kernel_rfl) rfl (by rw [known_info, kc_length])) (by assumption) ?_
  simp only [Act.put, spa, spb, spc]
  refine wpAnyH_ready (rs := [15, 16]) (by kernel_rfl) (by simp) ?_
  refine AllReadyH.cons (o := ⟨some 6, _, _, _, _, _⟩) rfl (fun K' hK => ?_) ?_
  · go_simp
    refine hK.out _ _ (KS.out _ (below_alloc BD.out (.cells #[.int .i64 0, .int .i64 0, .int .i64 0, .int .i64 0, .int .i64 0] 59))) (fun hHeld => ?_)
    clear hK K'
    clear hHeld
    have Na := Lib.hid (Ob.fresh wd 59 [.int .i64 0, .int .i64 0, .int .i64 0, .int .i64 0, .int .i64 0])
    have OA := Lib.hid ((OD.out).alloc (.cells #[.int .i64 0, .int .i64 0, .int .i64 0, .int .i64 0, .int .i64 0] 59))
    have BA := Lib.hid (below_alloc (BD.out) (.cells #[.int .i64 0, .int .i64 0, .int .i64 0, .int .i64 0, .int .i64 0] 59))
    have Hqa := Lib.hid (show w1.heap.size ≤ wd.heap.size by have := BD.out.size; omega)
    clear BD OD
    generalize (wd.alloc (.cells #[.int .i64 0, .int .i64 0, .int .i64 0, .int .i64 0, .int .i64 0] 59)) = wa at Na OA BA ⊢
    obtain ⟨qa, hqa⟩ : ∃ qa, wd.heap.size = qa := ⟨_, rfl⟩
    rw [hqa] at Na Hqa ⊢
    clear hqa
    refine rdq 16 ⟨some 7, _, _, _, _, _⟩ (by kernel_rfl) rfl (fun K' hK => ?_)
    go_simp
    refine hK.out _ _ (KS.out _ (below_alloc BA.out (.cells #[.int .i64 0, .int .u64 0, .int .u64 0, .int .i64 0, .int .i64 0, .int .u64 0, .int .u64 0, .int .i64 0, .int .i64 0, .int .u64 0, .int .u64 0, .int .i64 0, .int .i64 0, .int .u64 0, .int .u64 0, .int .i64 0, .int .i64 0, .int .u64 0, .int .u64 0, .int .i64 0, .int .i64 0, .int .u64 0, .int .u64 0, .int .i64 0, .int .i64 0, .int .u64 0, .int .u64 0, .int .i64 0, .int .i64 0, .int .u64 0, .int .u64 0, .int .i64 0] 136))) (fun hHeld => ?_)
    clear hK K'
    clear hHeld
    have Nk := Lib.hid (Ob.fresh wa 136 [.int .i64 0, .int .u64 0, .int .u64 0, .int .i64 0, .int .i64 0, .int .u64 0, .int .u64 0, .int .i64 0, .int .i64 0, .int .u64 0, .int .u64 0, .int .i64 0, .int .i64 0, .int .u64 0, .int .u64 0, .int .i64 0, .int .i64 0, .int .u64 0, .int .u64 0, .int .i64 0, .int .i64 0, .int .u64 0, .int .u64 0, .int .i64 0, .int .i64 0, .int .u64 0, .int .u64 0, .int .i64 0, .int .i64 0, .int .u64 0, .int .u64 0, .int .i64 0])
    have OB := Lib.hid ((OA.out).alloc (.cells #[.int .i64 0, .int .u64 0, .int .u64 0, .int .i64 0, .int .i64 0, .int .u64 0, .int .u64 0, .int .i64 0, .int .i64 0, .int .u64 0, .int .u64 0, .int .i64 0, .int .i64 0, .int .u64 0, .int .u64 0, .int .i64 0, .int .i64 0, .int .u64 0, .int .u64 0, .int .i64 0, .int .i64 0, .int .u64 0, .int .u64 0, .int .i64 0, .int .i64 0, .int .u64 0, .int .u64 0, .int .i64 0, .int .i64 0, .int .u64 0, .int .u64 0, .int .i64 0] 136))
    have Ma := Lib.hid ((Na.out).alloc (.cells #[.int .i64 0, .int .u64 0, .int .u64 0, .int .i64 0, .int .i64 0, .int .u64 0, .int .u64 0, .int .i64 0, .int .i64 0, .int .u64 0, .int .u64 0, .int .i64 0, .int .i64 0, .int .u64 0, .int .u64 0, .int .i64 0, .int .i64 0, .int .u64 0, .int .u64 0, .int .i64 0, .int .i64 0, .int .u64 0, .int .u64 0, .int .i64 0, .int .i64 0, .int .u64 0, .int .u64 0, .int .i64 0, .int .i64 0, .int .u64 0, .int .u64 0, .int .i64 0] 136))
    have BB := Lib.hid (below_alloc (BA.out) (.cells #[.int .i64 0, .int .u64 0, .int .u64 0, .int .i64 0, .int .i64 0, .int .u64 0, .int .u64 0, .int .i64 0, .int .i64 0, .int .u64 0, .int .u64 0, .int .i64 0, .int .i64 0, .int .u64 0, .int .u64 0, .int .i64 0, .int .i64 0, .int .u64 0, .int .u64 0, .int .i64 0, .int .i64 0, .int .u64 0, .int .u64 0, .int .i64 0, .int .i64 0, .int .u64 0, .int .u64 0, .int .i64 0, .int .i64 0, .int .u64 0, .int .u64 0, .int .i64 0] 136))
    have Hqk := Lib.hid (show w1.heap.size ≤ wa.heap.size by have := BA.out.size; omega)
    clear BA OA Na
    generalize (wa.alloc (.cells #[.int .i64 0, .int .u64 0, .int .u64 0, .int .i64 0, .int .i64 0, .int .u64 0, .int .u64 0, .int .i64 0, .int .i64 0, .int .u64 0, .int .u64 0, .int .i64 0, .int .i64 0, .int .u64 0, .int .u64 0, .int .i64 0, .int .i64 0, .int .u64 0, .int .u64 0, .int .i64 0, .int .i64 0, .int .u64 0, .int .u64 0, .int .i64 0, .int .i64 0, .int .u64 0, .int .u64 0, .int .i64 0, .int .i64 0, .int .u64 0, .int .u64 0, .int .i64 0] 136)) = wb at Nk OB Ma BB ⊢
    obtain ⟨qk, hqk⟩ : ∃ qk, wa.heap.size = qk := ⟨_, rfl⟩
    rw [hqk] at Nk Hqk ⊢
    clear hqk
    refine rdq 17 ⟨none, _, _, _, _, _⟩ (by kernel_rfl) rfl (fun K' hK => ?_)
    have zf := Ma.out.frozen
    have z0 := Ma.out.c0
    have z1 := Ma.out.c1
    have z2 := Ma.out.c2
    have z3 := Ma.out.c3
    have z4 := Ma.out.c4
    go_simp
    refine hK.out _ _ (KS.out _ (Below.setCell (Below.setCell (Below.setCell (Below.setCell (Below.setCell BB.out (p := ⟨qa, 0, none⟩) Hqa.out (.int .i64 op)) (p := ⟨qa, 1, none⟩) Hqa.out (.int .i64 d)) (p := ⟨qa, 2, none⟩) Hqa.out (.int .i64 a)) (p := ⟨qa, 3, none⟩) Hqa.out (.int .i64 b)) (p := ⟨qa, 4, none⟩) Hqa.out (.int .i64 m))) (fun hHeld => ?_)
    clear hK K'
    clear hHeld
    have BC := Lib.hid (Below.setCell (Below.setCell (Below.setCell (Below.setCell (Below.setCell BB.out (p := ⟨qa, 0, none⟩) Hqa.out (.int .i64 op)) (p := ⟨qa, 1, none⟩) Hqa.out (.int .i64 d)) (p := ⟨qa, 2, none⟩) Hqa.out (.int .i64 a)) (p := ⟨qa, 3, none⟩) Hqa.out (.int .i64 b)) (p := ⟨qa, 4, none⟩) Hqa.out (.int .i64 m))
    have A2 := Lib.hid (show Ob (((((wb.setCell ⟨qa, 0, none⟩ (.int .i64 op)).setCell ⟨qa, 1, none⟩ (.int .i64 d)).setCell ⟨qa, 2, none⟩ (.int .i64 a)).setCell ⟨qa, 3, none⟩ (.int .i64 b)).setCell ⟨qa, 4, none⟩ (.int .i64 m)) qa 59 [.int .i64 op, .int .i64 d, .int .i64 a, .int .i64 b, .int .i64 m] from ((((Ma.out.set_ 0 _).set_ 1 _).set_ 2 _).set_ 3 _).set_ 4 _)
    have hka := Lib.hid (Nk.out.ne_ Ma.out (by decide))
    have h4a := Lib.hid (OB.out.ne_ Ma.out (by decide))
    have K2 := Lib.hid (show Ob (((((wb.setCell ⟨qa, 0, none⟩ (.int .i64 op)).setCell ⟨qa, 1, none⟩ (.int .i64 d)).setCell ⟨qa, 2, none⟩ (.int .i64 a)).setCell ⟨qa, 3, none⟩ (.int .i64 b)).setCell ⟨qa, 4, none⟩ (.int .i64 m)) qk 136 _ from (((((Nk.out.far (p := ⟨qa, 0, none⟩) hka.out _).far (p := ⟨qa, 1, none⟩) hka.out _).far (p := ⟨qa, 2, none⟩) hka.out _).far (p := ⟨qa, 3, none⟩) hka.out _).far (p := ⟨qa, 4, none⟩) hka.out _))
    have O2 := Lib.hid (show Ob (((((wb.setCell ⟨qa, 0, none⟩ (.int .i64 op)).setCell ⟨qa, 1, none⟩ (.int .i64 d)).setCell ⟨qa, 2, none⟩ (.int .i64 a)).setCell ⟨qa, 3, none⟩ (.int .i64 b)).setCell ⟨qa, 4, none⟩ (.int .i64 m)) q4 136 _ from (((((OB.out.far (p := ⟨qa, 0, none⟩) h4a.out _).far (p := ⟨qa, 1, none⟩) h4a.out _).far (p := ⟨qa, 2, none⟩) h4a.out _).far (p := ⟨qa, 3, none⟩) h4a.out _).far (p := ⟨qa, 4, none⟩) h4a.out _))
    clear zf z0 z1 z2 z3 z4 BB Ma Nk OB
    generalize (((((wb.setCell ⟨qa, 0, none⟩ (.int .i64 op)).setCell ⟨qa, 1, none⟩ (.int .i64 d)).setCell ⟨qa, 2, none⟩ (.int .i64 a)).setCell ⟨qa, 3, none⟩ (.int .i64 b)).setCell ⟨qa, 4, none⟩ (.int .i64 m)) = wc at BC A2 K2 O2 ⊢
    refine rdq 18 ⟨none, _, _, _, _, _⟩ (by kernel_rfl) rfl (fun K' hK => ?_)
    rw [if_pos (by rfl)]
    have HTH : wc.there qk 0 32 := fun j hj => ⟨by rw [Nat.zero_add, K2.out.cell, ← kc_zero, kc_rg, rg_get _ _ hj]; rfl, by rw [Nat.zero_add]; exact K2.out.frozen _⟩
    refine wp_store_mid 136 (.tmp 7) (.tmp 30) rfl qk 0 (kc (C p)).toArray rfl rfl (by simpa [kc_length] using HTH) (by rw [known_info]; simp [kc_length]) (all_oneCell_toArray (kc_one (C p))) ?_
    change K' _ (World.setCells wc qk 0 (kc (C p)))
    refine hK.out _ _ (KS.out _ (below_setCells Hqk.out (kc (C p)) 0 BC.out)) (fun hHeld => ?_)
    clear hK K'
    have BF := Lib.hid (below_setCells Hqk.out (kc (C p)) 0 BC.out)
    have AF := Lib.hid (ob_farL (A2.out.ne_ K2.out (by decide)) (kc (C p)) 0 A2.out)
    have KF := Lib.hid (ob_over K2.out (show (kc (C p)).length = _ from rfl))
    have OF := Lib.hid (ob_farL (show q4 ≠ qk from Nat.ne_of_lt (Nat.lt_of_lt_of_le HQ.out Hqk.out)) (kc (C p)) 0 O2.out)
    refine wpAnyH_done (by kernel_rfl) ?_ _
    go_wp2_with fail
    go_meet
    exact ⟨qa, qk, rfl, rfl, AF.out, KF.out, OF.out, B1.out.trans (BF.out.mono HW.out), Nat.le_trans HW.out Hqa.out, Nat.le_trans HW.out Hqk.out, Nat.lt_of_lt_of_le HQ.out Hqk.out⟩
  refine AllReadyH.cons (o := ⟨some 7, _, _, _, _, _⟩) rfl (fun K' hK => ?_) AllReadyH.nil
  go_simp
  refine hK.out _ _ (KS.out _ (below_alloc BD.out (.cells #[.int .i64 0, .int .u64 0, .int .u64 0, .int .i64 0, .int .i64 0, .int .u64 0, .int .u64 0, .int .i64 0, .int .i64 0, .int .u64 0, .int .u64 0, .int .i64 0, .int .i64 0, .int .u64 0, .int .u64 0, .int .i64 0, .int .i64 0, .int .u64 0, .int .u64 0, .int .i64 0, .int .i64 0, .int .u64 0, .int .u64 0, .int .i64 0, .int .i64 0, .int .u64 0, .int .u64 0, .int .i64 0, .int .i64 0, .int .u64 0, .int .u64 0, .int .i64 0] 136))) (fun hHeld => ?_)
  clear hK K'
  clear hHeld
  have Nk := Lib.hid (Ob.fresh wd 136 [.int .i64 0, .int .u64 0, .int .u64 0, .int .i64 0, .int .i64 0, .int .u64 0, .int .u64 0, .int .i64 0, .int .i64 0, .int .u64 0, .int .u64 0, .int .i64 0, .int .i64 0, .int .u64 0, .int .u64 0, .int .i64 0, .int .i64 0, .int .u64 0, .int .u64 0, .int .i64 0, .int .i64 0, .int .u64 0, .int .u64 0, .int .i64 0, .int .i64 0, .int .u64 0, .int .u64 0, .int .i64 0, .int .i64 0, .int .u64 0, .int .u64 0, .int .i64 0])
  have OA := Lib.hid ((OD.out).alloc (.cells #[.int .i64 0, .int .u64 0, .int .u64 0, .int .i64 0, .int .i64 0, .int .u64 0, .int .u64 0, .int .i64 0, .int .i64 0, .int .u64 0, .int .u64 0, .int .i64 0, .int .i64 0, .int .u64 0, .int .u64 0, .int .i64 0, .int .i64 0, .int .u64 0, .int .u64 0, .int .i64 0, .int .i64 0, .int .u64 0, .int .u64 0, .int .i64 0, .int .i64 0, .int .u64 0, .int .u64 0, .int .i64 0, .int .i64 0, .int .u64 0, .int .u64 0, .int .i64 0] 136))
  have BA := Lib.hid (below_alloc (BD.out) (.cells #[.int .i64 0, .int .u64 0, .int .u64 0, .int .i64 0, .int .i64 0, .int .u64 0, .int .u64 0, .int .i64 0, .int .i64 0, .int .u64 0, .int .u64 0, .int .i64 0, .int .i64 0, .int .u64 0, .int .u64 0, .int .i64 0, .int .i64 0, .int .u64 0, .int .u64 0, .int .i64 0, .int .i64 0, .int .u64 0, .int .u64 0, .int .i64 0, .int .i64 0, .int .u64 0, .int .u64 0, .int .i64 0, .int .i64 0, .int .u64 0, .int .u64 0, .int .i64 0] 136))
  have Hqk := Lib.hid (show w1.heap.size ≤ wd.heap.size by have := BD.out.size; omega)
  clear BD OD
  generalize (wd.alloc (.cells #[.int .i64 0, .int .u64 0, .int .u64 0, .int .i64 0, .int .i64 0, .int .u64 0, .int .u64 0, .int .i64 0, .int .i64 0, .int .u64 0, .int .u64 0, .int .i64 0, .int .i64 0, .int .u64 0, .int .u64 0, .int .i64 0, .int .i64 0, .int .u64 0, .int .u64 0, .int .i64 0, .int .i64 0, .int .u64 0, .int .u64 0, .int .i64 0, .int .i64 0, .int .u64 0, .int .u64 0, .int .i64 0, .int .i64 0, .int .u64 0, .int .u64 0, .int .i64 0] 136)) = wa at Nk OA BA ⊢
  obtain ⟨qk, hqk⟩ : ∃ qk, wd.heap.size = qk := ⟨_, rfl⟩
  rw [hqk] at Nk Hqk ⊢
  clear hqk
  refine rdq 15 ⟨some 6, _, _, _, _, _⟩ (by kernel_rfl) rfl (fun K' hK => ?_)
  go_simp
  refine hK.out _ _ (KS.out _ (below_alloc BA.out (.cells #[.int .i64 0, .int .i64 0, .int .i64 0, .int .i64 0, .int .i64 0] 59))) (fun hHeld => ?_)
  clear hK K'
  clear hHeld
  have Na := Lib.hid (Ob.fresh wa 59 [.int .i64 0, .int .i64 0, .int .i64 0, .int .i64 0, .int .i64 0])
  have OB := Lib.hid ((OA.out).alloc (.cells #[.int .i64 0, .int .i64 0, .int .i64 0, .int .i64 0, .int .i64 0] 59))
  have Mk := Lib.hid ((Nk.out).alloc (.cells #[.int .i64 0, .int .i64 0, .int .i64 0, .int .i64 0, .int .i64 0] 59))
  have BB := Lib.hid (below_alloc (BA.out) (.cells #[.int .i64 0, .int .i64 0, .int .i64 0, .int .i64 0, .int .i64 0] 59))
  have Hqa := Lib.hid (show w1.heap.size ≤ wa.heap.size by have := BA.out.size; omega)
  clear BA OA Nk
  generalize (wa.alloc (.cells #[.int .i64 0, .int .i64 0, .int .i64 0, .int .i64 0, .int .i64 0] 59)) = wb at Na OB Mk BB ⊢
  obtain ⟨qa, hqa⟩ : ∃ qa, wa.heap.size = qa := ⟨_, rfl⟩
  rw [hqa] at Na Hqa ⊢
  clear hqa
  refine rdq 17 ⟨none, _, _, _, _, _⟩ (by kernel_rfl) rfl (fun K' hK => ?_)
  have zf := Na.out.frozen
  have z0 := Na.out.c0
  have z1 := Na.out.c1
  have z2 := Na.out.c2
  have z3 := Na.out.c3
  have z4 := Na.out.c4
  go_simp
  refine hK.out _ _ (KS.out _ (Below.setCell (Below.setCell (Below.setCell (Below.setCell (Below.setCell BB.out (p := ⟨qa, 0, none⟩) Hqa.out (.int .i64 op)) (p := ⟨qa, 1, none⟩) Hqa.out (.int .i64 d)) (p := ⟨qa, 2, none⟩) Hqa.out (.int .i64 a)) (p := ⟨qa, 3, none⟩) Hqa.out (.int .i64 b)) (p := ⟨qa, 4, none⟩) Hqa.out (.int .i64 m))) (fun hHeld => ?_)
  clear hK K'
  clear hHeld
  have BC := Lib.hid (Below.setCell (Below.setCell (Below.setCell (Below.setCell (Below.setCell BB.out (p := ⟨qa, 0, none⟩) Hqa.out (.int .i64 op)) (p := ⟨qa, 1, none⟩) Hqa.out (.int .i64 d)) (p := ⟨qa, 2, none⟩) Hqa.out (.int .i64 a)) (p := ⟨qa, 3, none⟩) Hqa.out (.int .i64 b)) (p := ⟨qa, 4, none⟩) Hqa.out (.int .i64 m))
  have A2 := Lib.hid (show Ob (((((wb.setCell ⟨qa, 0, none⟩ (.int .i64 op)).setCell ⟨qa, 1, none⟩ (.int .i64 d)).setCell ⟨qa, 2, none⟩ (.int .i64 a)).setCell ⟨qa, 3, none⟩ (.int .i64 b)).setCell ⟨qa, 4, none⟩ (.int .i64 m)) qa 59 [.int .i64 op, .int .i64 d, .int .i64 a, .int .i64 b, .int .i64 m] from ((((Na.out.set_ 0 _).set_ 1 _).set_ 2 _).set_ 3 _).set_ 4 _)
  have hka := Lib.hid (Mk.out.ne_ Na.out (by decide))
  have h4a := Lib.hid (OB.out.ne_ Na.out (by decide))
  have K2 := Lib.hid (show Ob (((((wb.setCell ⟨qa, 0, none⟩ (.int .i64 op)).setCell ⟨qa, 1, none⟩ (.int .i64 d)).setCell ⟨qa, 2, none⟩ (.int .i64 a)).setCell ⟨qa, 3, none⟩ (.int .i64 b)).setCell ⟨qa, 4, none⟩ (.int .i64 m)) qk 136 _ from (((((Mk.out.far (p := ⟨qa, 0, none⟩) hka.out _).far (p := ⟨qa, 1, none⟩) hka.out _).far (p := ⟨qa, 2, none⟩) hka.out _).far (p := ⟨qa, 3, none⟩) hka.out _).far (p := ⟨qa, 4, none⟩) hka.out _))
  have O2 := Lib.hid (show Ob (((((wb.setCell ⟨qa, 0, none⟩ (.int .i64 op)).setCell ⟨qa, 1, none⟩ (.int .i64 d)).setCell ⟨qa, 2, none⟩ (.int .i64 a)).setCell ⟨qa, 3, none⟩ (.int .i64 b)).setCell ⟨qa, 4, none⟩ (.int .i64 m)) q4 136 _ from (((((OB.out.far (p := ⟨qa, 0, none⟩) h4a.out _).far (p := ⟨qa, 1, none⟩) h4a.out _).far (p := ⟨qa, 2, none⟩) h4a.out _).far (p := ⟨qa, 3, none⟩) h4a.out _).far (p := ⟨qa, 4, none⟩) h4a.out _))
  clear zf z0 z1 z2 z3 z4 BB Na Mk OB
  generalize (((((wb.setCell ⟨qa, 0, none⟩ (.int .i64 op)).setCell ⟨qa, 1, none⟩ (.int .i64 d)).setCell ⟨qa, 2, none⟩ (.int .i64 a)).setCell ⟨qa, 3, none⟩ (.int .i64 b)).setCell ⟨qa, 4, none⟩ (.int .i64 m)) = wc at BC A2 K2 O2 ⊢
  refine rdq 18 ⟨none, _, _, _, _, _⟩ (by kernel_rfl) rfl (fun K' hK => ?_)
  rw [if_pos (by rfl)]
  have HTH : wc.there qk 0 32 := fun j hj => ⟨by rw [Nat.zero_add, K2.out.cell, ← kc_zero, kc_rg, rg_get _ _ hj]; rfl, by rw [Nat.zero_add]; exact K2.out.frozen _⟩
  refine wp_store_mid 136 (.tmp 7) (.tmp 30) rfl qk 0 (kc (C p)).toArray rfl rfl (by simpa [kc_length] using HTH) (by rw [known_info]; simp [kc_length]) (all_oneCell_toArray (kc_one (C p))) ?_
  change K' _ (World.setCells wc qk 0 (kc (C p)))
  refine hK.out _ _ (KS.out _ (below_setCells Hqk.out (kc (C p)) 0 BC.out)) (fun hHeld => ?_)
  clear hK K'
  have BF := Lib.hid (below_setCells Hqk.out (kc (C p)) 0 BC.out)
  have AF := Lib.hid (ob_farL (A2.out.ne_ K2.out (by decide)) (kc (C p)) 0 A2.out)
  have KF := Lib.hid (ob_over K2.out (show (kc (C p)).length = _ from rfl))
  have OF := Lib.hid (ob_farL (show q4 ≠ qk from Nat.ne_of_lt (Nat.lt_of_lt_of_le HQ.out Hqk.out)) (kc (C p)) 0 O2.out)
  refine wpAnyH_done (by kernel_rfl) ?_ _
  go_wp2_with fail
  go_meet
  exact ⟨qa, qk, rfl, rfl, AF.out, KF.out, OF.out, B1.out.trans (BF.out.mono HW.out), Nat.le_trans HW.out Hqa.out, Nat.le_trans HW.out Hqk.out, Nat.lt_of_lt_of_le HQ.out Hqk.out⟩
 case rest =>
  obtain ⟨q6, q7, rfl, rfl, h6, h7, h4, hb, hl6, hl7, h47⟩ := hcut
  have A2 := Lib.hid h6
  have K2 := Lib.hid h7
  have R2 := Lib.hid h4
  have B2 := Lib.hid hb
  have L6 := Lib.hid hl6
  have L7 := Lib.hid hl7
  have N47 := Lib.hid h47
  clear h6 h7 h4 hb hl6 hl7 h47 c0 c1 c2 c3 c4 y1 y2 yr J1 E1 O4 B1
  go_upto_region 3 with fail
  have O8 := Lib.hid (Ob.alloc (Ob.fresh wc 134 [.int .i64 0, .int .u64 0, .int .u64 0, .int .i64 0]) (.cells #[.int .i64 0, .int .u64 0, .int .u64 0, .int .i64 0] 134))
  have O9 := Lib.hid (Ob.fresh (wc.alloc (.cells #[.int .i64 0, .int .u64 0, .int .u64 0, .int .i64 0] 134)) 134 [.int .i64 0, .int .u64 0, .int .u64 0, .int .i64 0])
  rw [show (wc.alloc (.cells #[.int .i64 0, .int .u64 0, .int .u64 0, .int .i64 0] 134)).heap.size = wc.heap.size + 1 by simp] at O9
  have A3 := Lib.hid (Ob.alloc (Ob.alloc (A2.out) (.cells #[.int .i64 0, .int .u64 0, .int .u64 0, .int .i64 0] 134)) (.cells #[.int .i64 0, .int .u64 0, .int .u64 0, .int .i64 0] 134))
  have K3 := Lib.hid (Ob.alloc (Ob.alloc (K2.out) (.cells #[.int .i64 0, .int .u64 0, .int .u64 0, .int .i64 0] 134)) (.cells #[.int .i64 0, .int .u64 0, .int .u64 0, .int .i64 0] 134))
  have R3 := Lib.hid (Ob.alloc (Ob.alloc (R2.out) (.cells #[.int .i64 0, .int .u64 0, .int .u64 0, .int .i64 0] 134)) (.cells #[.int .i64 0, .int .u64 0, .int .u64 0, .int .i64 0] 134))
  have B3 := Lib.hid (below_alloc (below_alloc (B2.out) (.cells #[.int .i64 0, .int .u64 0, .int .u64 0, .int .i64 0] 134)) (.cells #[.int .i64 0, .int .u64 0, .int .u64 0, .int .i64 0] 134))
  have Hq8 := Lib.hid (show w.heap.size ≤ wc.heap.size by have := B2.out.size; omega)
  have Hq9 := Lib.hid (show w.heap.size ≤ wc.heap.size + 1 by have := B2.out.size; omega)
  have Nq8q9 := Lib.hid (show wc.heap.size ≠ wc.heap.size + 1 by omega)
  clear B2 A2 K2 R2
  generalize ((wc.alloc (.cells #[.int .i64 0, .int .u64 0, .int .u64 0, .int .i64 0] 134)).alloc (.cells #[.int .i64 0, .int .u64 0, .int .u64 0, .int .i64 0] 134)) = w3 at O8 O9 A3 K3 R3 B3 ⊢
  obtain ⟨q9, hq9⟩ : ∃ q9, wc.heap.size + 1 = q9 := ⟨_, rfl⟩
  rw [hq9] at O9 Hq9 Nq8q9 ⊢
  clear hq9
  obtain ⟨q8, hq8⟩ : ∃ q8, wc.heap.size = q8 := ⟨_, rfl⟩
  rw [hq8] at O8 Hq8 Nq8q9 ⊢
  clear hq8
  have OS := Lib.hid (show OSt w w3 q4 q6 q7 q8 q9 (fun _ => j0) (C p) ⟨op, d, a, b, m⟩ j0 j0 from ⟨B3.out, R3.out, A3.out, K3.out, O8.out, O9.out, Hq4.out, L6.out, L7.out, Hq8.out, Hq9.out, Nat.ne_of_lt N47.out, Nq8q9.out⟩)
  have E3 := Lib.hid (HE.out.below B3.out)
  clear A3 K3 R3 O8 O9 Hq4 L6 L7 Hq8 Hq9 N47 Nq8q9 B3
  have i0 := OS.out.o6.c0
  have i1 := OS.out.o6.c1
  have i2 := OS.out.o6.c2
  have i3 := OS.out.o6.c3
  have i4 := OS.out.o6.c4
  have HSO := Lib.hid (Op.source_any w3 ⟨op, d, a, b, m⟩ E3.out.f)
  unfold insVal at HSO
  obtain ⟨sv, hsv⟩ : ∃ sv, sourceV ⟨op, d, a, b, m⟩ = sv := ⟨_, rfl⟩
  rw [hsv] at HSO
  have HSV := Lib.hid hsv
  clear hsv
  go_wp2_with fail
  refine HSO.out.mono ?_
  rintro e w4 ⟨rfl, b4⟩
  have OS4 := Lib.hid (OS.out.below b4)
  have E4 := Lib.hid (E3.out.below b4)
  clear b4 OS E3 i0 i1 i2 i3 i4 HSO
  go_upto_if 34 with fail
  go_cut [] (fun w' => OSt w w' q4 q6 q7 q8 q9 (fun _ => j0) (C p) ⟨op, d, a, b, m⟩ j0 (srcV ⟨op, d, a, b, m⟩ (C p)))
  case first =>
   cases sv
   · go_wp2_with fail
     go_meet
     exact (show srcV ⟨op, d, a, b, m⟩ (C p) = j0 from if_neg (by rw [HSV.out]; decide)) ▸ OS4.out
   have HE9 := Lib.hid (show srcV ⟨op, d, a, b, m⟩ (C p) = srcT ⟨op, d, a, b, m⟩ (C p) from if_pos HSV.out)
   have HSR := Lib.hid (source_any w4 ⟨op, d, a, b, m⟩ (C p) HI.out.b)
   unfold insVal kVal at HSR
   obtain ⟨s9, hs9⟩ : ∃ s9, srcV ⟨op, d, a, b, m⟩ (C p) = s9 := ⟨_, rfl⟩
   rw [← HE9.out, hs9] at HSR
   have HS9 := Lib.hid hs9
   clear hs9
   obtain ⟨sk, sl, sh, sm⟩ := s9
   clear HE9
   unfold jVal at HSR
   have i0 := OS4.out.o6.c0
   have i1 := OS4.out.o6.c1
   have i2 := OS4.out.o6.c2
   have i3 := OS4.out.o6.c3
   have i4 := OS4.out.o6.c4
   have lk := Lib.hid OS4.out.row
   go_wp2_with ((with_reducible refine wpList_load_mid ?_ 136 (.tmp 7) ?_ q7 (0) ?_ (kc (C p)) (.array 8 134) lk.out ?_ ?_ ?_ ?_); rfl; rfl; rfl; kernel_rfl; rfl; (rw [known_info, kc_length]))
   refine HSR.out.mono ?_
   rintro e w5 ⟨rfl, b5⟩
   have OS5 := Lib.hid (OS4.out.below b5)
   clear b5 OS4 HSR i0 i1 i2 i3 i4 lk
   dsimp only
   have z9 := OS5.out.o9.frozen
   have e90 := OS5.out.o9.c0
   have e91 := OS5.out.o9.c1
   have e92 := OS5.out.o9.c2
   have e93 := OS5.out.o9.c3
   go_wp2_with fail
   go_meet
   rw [HS9.out]
   exact OS5.out.setS ⟨sk, sl, sh, sm⟩
  case rest =>
   have O5 := Lib.hid hcut
   clear hcut OS4 E4
   obtain ⟨ra, rfl⟩ : ∃ ra : Nat, a = ra := ⟨a.toNat, by have := HI.out.a0; dsimp only at this; omega⟩
   have hra8 : ra < 8 := by have := HI.out.a1; dsimp only at this; omega
   obtain ⟨s9, hs9⟩ : ∃ s9, srcV ⟨op, d, ra, b, m⟩ (C p) = s9 := ⟨_, rfl⟩
   have HS9 := Lib.hid hs9
   rw [hs9] at O5
   clear hs9
   obtain ⟨sk, sl, sh, sm⟩ := s9
   have hg := kc_get (C p) hra8
   obtain ⟨ta, hta⟩ : ∃ ta, C p ra = ta := ⟨_, rfl⟩
   have HTA := Lib.hid hta
   rw [hta] at hg
   clear hta
   obtain ⟨ak, al, ah, am⟩ := ta
   dsimp only at hg
   have k0 : wc.cell? ⟨q7, ra * 4, none⟩ = some (.int .i64 ak) := (O5.out.o7.cell _).trans hg.1
   have k1 : wc.cell? ⟨q7, ra * 4 + 1, none⟩ = some (.int .u64 (uv al)) := (O5.out.o7.cell _).trans hg.2.1
   have k2 : wc.cell? ⟨q7, ra * 4 + 2, none⟩ = some (.int .u64 (uv ah)) := (O5.out.o7.cell _).trans hg.2.2.1
   have k3 : wc.cell? ⟨q7, ra * 4 + 3, none⟩ = some (.int .i64 am) := (O5.out.o7.cell _).trans hg.2.2.2
   clear hg
   have g3 : (ra : Int) < 8 := by omega
   have g4 : (0 : Int) ≤ (ra : Int) := by omega
   clear hra8
   have i0 := O5.out.o6.c0
   have i1 := O5.out.o6.c1
   have i2 := O5.out.o6.c2
   have i3 := O5.out.o6.c3
   have i4 := O5.out.o6.c4
   have z8 := O5.out.o8.frozen
   have e80 := O5.out.o8.c0
   have e81 := O5.out.o8.c1
   have e82 := O5.out.o8.c2
   have e83 := O5.out.o8.c3
   go_upto_region 6 with fail
   have O6 := Lib.hid (O5.out.setA ⟨ak, al, ah, am⟩)
   unfold set4 at O6
   dsimp only at O6
   clear O5 i0 i1 i2 i3 i4 k0 k1 k2 k3 z8 e80 e81 e82 e83 g3 g4 g1 g2
   generalize ((((wc.setCell ⟨q8, 0, none⟩ (.int .i64 ak)).setCell ⟨q8, 1, none⟩ (.int .u64 (uv al))).setCell ⟨q8, 2, none⟩ (.int .u64 (uv ah))).setCell ⟨q8, 3, none⟩ (.int .i64 am)) = w6 at O6 ⊢
   have hop : op = 0 ∨ op = 11 ∨ op = 12 ∨ op = 13 ∨ op = 14 ∨ op = 15 ∨ op = 16 ∨ op = 17 ∨ op = 18 ∨ op = 19 ∨ op = 20 ∨ op = 21 ∨ op = 22 ∨ (1 ≤ op ∧ op ≤ 10) := by have h1 := HI.out.o0; have h2 := HI.out.o1; dsimp only at h1 h2; omega
   rcases hop with rfl | rfl | rfl | rfl | rfl | rfl | rfl | rfl | rfl | rfl | rfl | rfl | rfl | hop
   · obtain ⟨rd, rfl⟩ : ∃ rd : Nat, d = rd := ⟨d.toNat, by have := HI.out.d0; dsimp only at this; omega⟩
     have hrd : rd < 8 := by have := HI.out.d8 (by first | decide | (dsimp only; omega)); dsimp only at this; omega
     have HRD := Lib.hid hrd
     have g3 : (rd : Int) < 8 := by omega
     have g4 : (0 : Int) ≤ (rd : Int) := by omega
     clear hrd
     have i0 := O6.out.o6.c0
     have i1 := O6.out.o6.c1
     have i2 := O6.out.o6.c2
     have i3 := O6.out.o6.c3
     have i4 := O6.out.o6.c4
     have s0 := O6.out.o9.c0
     have s1 := O6.out.o9.c1
     have s2 := O6.out.o9.c2
     have s3 := O6.out.o9.c3
     by_cases hk : sk = 0
     · subst hk
       have HF := Lib.hid (show V = (C p, (33 : Int)) from HV.out.symm.trans (by rw [show oneV ⟨0, rd, ra, b, m⟩ (C p) (C (p - (rd : Int).toNat)) nm = if (srcV ⟨0, rd, ra, b, m⟩ (C p)).k = 0 then (C p, 33) else (updT (C p) rd (srcV ⟨0, rd, ra, b, m⟩ (C p)), 0) from rfl, HS9.out]; rfl))
       have lk := Lib.hid O6.out.row
       have th := Lib.hid O6.out.there
       go_wp2_with (first | ((with_reducible refine wpList_load_mid ?_ 136 (.tmp 7) ?_ q7 (0) ?_ (kc (C p)) (.array 8 134) lk.out ?_ ?_ ?_ ?_); rfl; rfl; rfl; kernel_rfl; rfl; (rw [known_info, kc_length])) | ((with_reducible refine wpList_store_mid ?_ 136 (.tmp 4) (.tmp 69) ?_ q4 (0) (kc (C p)).toArray ?_ ?_ ?_ ?_ ?_ ?_); rfl; rfl; rfl; rfl; (exact th.out); (rw [known_info]; rfl); (exact all_oneCell_toArray (kc_one (C p)))))
       have OF := Lib.hid (O6.out.setR (C p))
       generalize w6.setCells q4 0 (kc (C p)) = wf at OF ⊢
       have LR := loadV_kn OF.out.res
       exact bodyPost_ret (v := .tuple #[kVal (C p), .int .i64 33]) (results_cell_tmp Tryz.results55 rfl LR) rfl ⟨by rw [HF.out] <;> first | done | rfl, OF.out.b⟩
     have hki : (sk == 0) = false := by simpa using hk
     have HF := Lib.hid (show V = (updT (C p) rd ⟨sk, sl, sh, sm⟩, (0 : Int)) from HV.out.symm.trans (by rw [show oneV ⟨0, rd, ra, b, m⟩ (C p) (C (p - (rd : Int).toNat)) nm = if (srcV ⟨0, rd, ra, b, m⟩ (C p)).k = 0 then (C p, 33) else (updT (C p) rd (srcV ⟨0, rd, ra, b, m⟩ (C p)), 0) from rfl, HS9.out]; exact if_neg hk))
     clear hk
     have hg := kc_get (C p) HRD.out
     have r0 : w6.cell? ⟨q7, rd * 4, none⟩ = some (.int .i64 ((C p) rd).k) := (O6.out.o7.cell _).trans hg.1
     have r1 : w6.cell? ⟨q7, rd * 4 + 1, none⟩ = some (.int .u64 (uv ((C p) rd).lo)) := (O6.out.o7.cell _).trans hg.2.1
     have r2 : w6.cell? ⟨q7, rd * 4 + 2, none⟩ = some (.int .u64 (uv ((C p) rd).hi)) := (O6.out.o7.cell _).trans hg.2.2.1
     have r3 : w6.cell? ⟨q7, rd * 4 + 3, none⟩ = some (.int .i64 ((C p) rd).m) := (O6.out.o7.cell _).trans hg.2.2.2
     have rz := O6.out.o7.frozen
     clear hg
     go_upto_region 48 with fail
     clear i0 i1 i2 i3 i4 s0 s1 s2 s3 r0 r1 r2 r3 rz
     have O7 := Lib.hid (O6.out.setK HRD.out ⟨sk, sl, sh, sm⟩)
     unfold set4 at O7
     try simp only [numT] at O7
     try dsimp only at O7
     generalize ((((w6.setCell ⟨q7, rd * 4, none⟩ (.int .i64 sk)).setCell ⟨q7, rd * 4 + 1, none⟩ (.int .u64 (uv sl))).setCell ⟨q7, rd * 4 + 2, none⟩ (.int .u64 (uv sh))).setCell ⟨q7, rd * 4 + 3, none⟩ (.int .i64 sm)) = w7 at O7 ⊢
     have lk := Lib.hid O7.out.row
     have th := Lib.hid O7.out.there
     go_wp2_with (first | ((with_reducible refine wpList_load_mid ?_ 136 (.tmp 7) ?_ q7 (0) ?_ (kc (updT (C p) rd ⟨sk, sl, sh, sm⟩)) (.array 8 134) lk.out ?_ ?_ ?_ ?_); rfl; rfl; rfl; kernel_rfl; rfl; (rw [known_info, kc_length])) | ((with_reducible refine wpList_store_mid ?_ 136 (.tmp 4) (.tmp 193) ?_ q4 (0) (kc (updT (C p) rd ⟨sk, sl, sh, sm⟩)).toArray ?_ ?_ ?_ ?_ ?_ ?_); rfl; rfl; rfl; rfl; (exact th.out); (rw [known_info]; rfl); (exact all_oneCell_toArray (kc_one (updT (C p) rd ⟨sk, sl, sh, sm⟩)))))
     have OF := Lib.hid (O7.out.setR (updT (C p) rd ⟨sk, sl, sh, sm⟩))
     generalize w7.setCells q4 0 (kc (updT (C p) rd ⟨sk, sl, sh, sm⟩)) = wf at OF ⊢
     have LR := loadV_kn OF.out.res
     exact bodyPost_ret (v := .tuple #[kVal (updT (C p) rd ⟨sk, sl, sh, sm⟩), .int .i64 0]) (results_cell_tmp Tryz.results55 rfl LR) rfl ⟨by rw [HF.out] <;> first | done | rfl, OF.out.b⟩
   · obtain ⟨rd, rfl⟩ : ∃ rd : Nat, d = rd := ⟨d.toNat, by have := HI.out.d0; dsimp only at this; omega⟩
     have hrd : rd < 8 := by have := HI.out.d8 (by first | decide | (dsimp only; omega)); dsimp only at this; omega
     have HRD := Lib.hid hrd
     have g3 : (rd : Int) < 8 := by omega
     have g4 : (0 : Int) ≤ (rd : Int) := by omega
     clear hrd
     have HF := Lib.hid (show V = (updT (C p) rd fullT, firstV (numsV [⟨sk, sl, sh, sm⟩]) (wordV ⟨sk, sl, sh, sm⟩)) from by first | exact HV.out.symm | (rw [← HS9.out]; exact HV.out.symm) | (rw [← HTA.out]; exact HV.out.symm) | (rw [← HS9.out, ← HTA.out]; exact HV.out.symm))
     have i0 := O6.out.o6.c0
     have i1 := O6.out.o6.c1
     have i2 := O6.out.o6.c2
     have i3 := O6.out.o6.c3
     have i4 := O6.out.o6.c4
     go_upto_region 15 with fail
     clear i0 i2 i3 i4
     have HFU := Lib.hid (fun w => Sp.full_any w)
     have HNU := Lib.hid (fun w lo hi => number_any w lo hi)
     obtain ⟨wd, hwd⟩ : ∃ wd, w6.drew = wd := ⟨_, rfl⟩
     have OD := Lib.hid (hwd ▸ O6.out.drew)
     refine wp_region_held_drew (S := fun w' => (w'.cell? ⟨q6, 1, none⟩ = some (.int .i64 (rd : Int)))) (by kernel_rfl) (hwd ▸ OD.out.o6.cell 1) (fun hHeld => ?_)
     refine tkq 0 76 rfl (by kernel_rfl) (by rfl) hHeld (fun _ _ _ h => h) (by intro w' hSw; go_simp; try with_reducible rfl) ?_
     simp only [Act.put, spa, spb, spc]
     refine tkq 1 77 rfl (by kernel_rfl) (by rfl) hHeld (fun _ _ _ h => h) (by intro w' hSw; go_simp; try with_reducible rfl) ?_
     simp only [Act.put, spa, spb, spc]
     refine rdq 2 ⟨some 78, _, _, _, _, _⟩ (by kernel_rfl) rfl (fun K' hK => ?_)
     go_simp
     refine (HFU.out _).mono ?_
     rintro e wx ⟨rfl, bx⟩
     have OX := Lib.hid (OD.out.below bx)
     clear bx
     dsimp only
     refine hK.out _ _ (OX.out.o6.cell 1) (fun hHeld => ?_)
     clear hK K'
     refine rdq 3 ⟨some 79, _, _, _, _, _⟩ (by kernel_rfl) rfl (fun K' hK => ?_)
     go_simp
     refine (HNU.out _ 0#64 Sp.mostB).mono ?_
     rintro e wz ⟨rfl, bz⟩
     have OZ := Lib.hid (OX.out.below bz)
     clear bz
     dsimp only [jVal, numT]
     refine hK.out _ _ (OZ.out.o6.cell 1) (fun hHeld => ?_)
     clear hK K'
     refine tkq 4 80 rfl (by kernel_rfl) (by rfl) hHeld (fun _ _ _ h => h) (by intro w' hSw; go_simp; try with_reducible rfl) ?_
     simp only [Act.put, spa, spb, spc]
     refine rdq 5 ⟨none, _, _, _, _, _⟩ (by kernel_rfl) rfl (fun K' hK => ?_)
     have hg := kc_get (C p) HRD.out
     have r0 : wz.cell? ⟨q7, rd * 4, none⟩ = some (.int .i64 ((C p) rd).k) := (OZ.out.o7.cell _).trans hg.1
     have r1 : wz.cell? ⟨q7, rd * 4 + 1, none⟩ = some (.int .u64 (uv ((C p) rd).lo)) := (OZ.out.o7.cell _).trans hg.2.1
     have r2 : wz.cell? ⟨q7, rd * 4 + 2, none⟩ = some (.int .u64 (uv ((C p) rd).hi)) := (OZ.out.o7.cell _).trans hg.2.2.1
     have r3 : wz.cell? ⟨q7, rd * 4 + 3, none⟩ = some (.int .i64 ((C p) rd).m) := (OZ.out.o7.cell _).trans hg.2.2.2
     have rz := OZ.out.o7.frozen
     clear hg
     go_simp
     have OY := Lib.hid (OZ.out.setK HRD.out fullT)
     unfold set4 at OY
     simp only [fullT, numT] at OY
     refine hK.out _ _ (OY.out.o6.cell 1) (fun hHeld => ?_)
     clear hK K'
     clear hHeld r0 r1 r2 r3 rz
     refine wpAnyH_done (by kernel_rfl) ?_ _
     generalize ((((wz.setCell ⟨q7, rd * 4, none⟩ (.int .i64 1)).setCell ⟨q7, rd * 4 + 1, none⟩ (.int .u64 (uv 0#64))).setCell ⟨q7, rd * 4 + 2, none⟩ (.int .u64 (uv Sp.mostB))).setCell ⟨q7, rd * 4 + 3, none⟩ (.int .i64 0)) = w10 at OY ⊢
     clear OX OZ OD hwd HFU HNU
     have O10 := Lib.hid (show OSt w w10 q4 q6 q7 q8 q9 _ (updT (C p) rd fullT) _ _ _ from OY.out)
     clear i1 O6
     have s0 := O10.out.o9.c0
     have s1 := O10.out.o9.c1
     have s2 := O10.out.o9.c2
     have s3 := O10.out.o9.c3
     go_upto_region 16 with fail
     have HN1 := Lib.hid (fun w A hs => nums_any w [⟨sk, sl, sh, sm⟩] A 1 1 rfl (by decide) hs)
     obtain ⟨e1, he1⟩ : ∃ e1, numsV [⟨sk, sl, sh, sm⟩] = e1 := ⟨_, rfl⟩
     rw [he1] at HN1 HF
     clear he1
     have HW1 := Lib.hid (fun w => word_any w ⟨sk, sl, sh, sm⟩)
     obtain ⟨e2, he2⟩ : ∃ e2, wordV ⟨sk, sl, sh, sm⟩ = e2 := ⟨_, rfl⟩
     rw [he2] at HW1 HF
     clear he2
     unfold jVal at HW1
     dsimp only at HW1
     have HFI := Lib.hid (fun w A hs => first_any w e1 e2 A hs)
     obtain ⟨e3, he3⟩ : ∃ e3, firstV e1 e2 = e3 := ⟨_, rfl⟩
     rw [he3] at HFI HF
     clear he3
     obtain ⟨wd, hwd⟩ : ∃ wd, w10.drew = wd := ⟨_, rfl⟩
     have OD := Lib.hid (hwd ▸ O10.out.drew)
     refine wp_region_held_drew (S := fun w' => (w'.rangeAt q7 0 (kc (updT (C p) rd fullT)) ∧ w'.cell? ⟨q9, 0, none⟩ = some (.int .i64 sk) ∧ w'.cell? ⟨q9, 1, none⟩ = some (.int .u64 (uv sl)) ∧ w'.cell? ⟨q9, 2, none⟩ = some (.int .u64 (uv sh)) ∧ w'.cell? ⟨q9, 3, none⟩ = some (.int .i64 sm))) (by kernel_rfl) (by rw [hwd]; exact ⟨OD.out.row, OD.out.o9.cell 0, OD.out.o9.cell 1, OD.out.o9.cell 2, OD.out.o9.cell 3⟩) (fun hHeld => ?_)
     refine wpAnyH_take (i := 0) (oi := ⟨some 81, .load 136 (.tmp 7), _, _, _, none⟩) (v := .agg (kc (updT (C p) rd fullT)).toArray) rfl (by kernel_rfl) (by kernel_rfl) (by kernel_rfl) (fun _ _ _ h => h) (yieldsIf_load_mid (by rfl) 136 (.tmp 7) rfl q7 (0) rfl (kc (updT (C p) rd fullT)) (.array 8 134) (fun w' h => h.1) (by kernel_rfl) rfl (by rw [known_info, kc_length])) (by assumption) ?_
     simp only [Act.put, spa, spb, spc]
     refine tkq 1 82 rfl (by kernel_rfl) (by rfl) hHeld (fun _ _ _ h => h) (by intro w' hSw; go_simp; try with_reducible rfl) ?_
     simp only [Act.put, spa, spb, spc]
     refine tkq 4 85 rfl (by kernel_rfl) (by rfl) hHeld (fun _ _ _ h => h) (by intro w' hSw; go_simp; try with_reducible rfl) ?_
     simp only [Act.put, spa, spb, spc]
     refine rdq 2 ⟨some 83, _, _, _, _, _⟩ (by kernel_rfl) rfl (fun K' hK => ?_)
     go_simp
     refine hK.out _ _ ⟨(OD.out.alloc (.cells #[.int .i64 sk, .int .u64 (uv sl), .int .u64 (uv sh), .int .i64 sm] 134)).row, (OD.out.alloc (.cells #[.int .i64 sk, .int .u64 (uv sl), .int .u64 (uv sh), .int .i64 sm] 134)).o9.cell 0, (OD.out.alloc (.cells #[.int .i64 sk, .int .u64 (uv sl), .int .u64 (uv sh), .int .i64 sm] 134)).o9.cell 1, (OD.out.alloc (.cells #[.int .i64 sk, .int .u64 (uv sl), .int .u64 (uv sh), .int .i64 sm] 134)).o9.cell 2, (OD.out.alloc (.cells #[.int .i64 sk, .int .u64 (uv sl), .int .u64 (uv sh), .int .i64 sm] 134)).o9.cell 3⟩ (fun hHeld => ?_)
     clear hK K'
     refine rdq 3 ⟨some 84, _, _, _, _, _⟩ (by kernel_rfl) rfl (fun K' hK => ?_)
     go_simp
     refine (HN1.out _ _ (Sl.fresh wd #[.int .i64 sk, .int .u64 (uv sl), .int .u64 (uv sh), .int .i64 sm] 134 (0, 0))).mono ?_
     rintro e w7 ⟨rfl, b7⟩
     have O7 := Lib.hid ((OD.out.alloc (.cells #[.int .i64 sk, .int .u64 (uv sl), .int .u64 (uv sh), .int .i64 sm] 134)).below b7)
     clear b7
     dsimp only
     refine hK.out _ _ ⟨O7.out.row, O7.out.o9.cell 0, O7.out.o9.cell 1, O7.out.o9.cell 2, O7.out.o9.cell 3⟩ (fun hHeld => ?_)
     clear hK K'
     refine rdq 5 ⟨some 86, _, _, _, _, _⟩ (by kernel_rfl) rfl (fun K' hK => ?_)
     go_simp
     refine (HW1.out _).mono ?_
     rintro e w8 ⟨rfl, b8⟩
     have O8 := Lib.hid (O7.out.below b8)
     clear b8
     dsimp only
     refine hK.out _ _ ⟨O8.out.row, O8.out.o9.cell 0, O8.out.o9.cell 1, O8.out.o9.cell 2, O8.out.o9.cell 3⟩ (fun hHeld => ?_)
     clear hK K'
     refine rdq 6 ⟨some 87, _, _, _, _, _⟩ (by kernel_rfl) rfl (fun K' hK => ?_)
     go_simp
     refine hK.out _ _ ⟨(O8.out.alloc (.cells #[.int .i64 e1, .int .i64 e2] 33)).row, (O8.out.alloc (.cells #[.int .i64 e1, .int .i64 e2] 33)).o9.cell 0, (O8.out.alloc (.cells #[.int .i64 e1, .int .i64 e2] 33)).o9.cell 1, (O8.out.alloc (.cells #[.int .i64 e1, .int .i64 e2] 33)).o9.cell 2, (O8.out.alloc (.cells #[.int .i64 e1, .int .i64 e2] 33)).o9.cell 3⟩ (fun hHeld => ?_)
     clear hK K'
     refine rdq 7 ⟨some 88, _, _, _, _, _⟩ (by kernel_rfl) rfl (fun K' hK => ?_)
     go_simp
     refine (HFI.out _ _ (Sl.fresh w8 #[.int .i64 e1, .int .i64 e2] 33 (0, 0))).mono ?_
     rintro e w9 ⟨rfl, b9⟩
     have O9 := Lib.hid ((O8.out.alloc (.cells #[.int .i64 e1, .int .i64 e2] 33)).below b9)
     clear b9
     dsimp only
     refine hK.out _ _ ⟨O9.out.row, O9.out.o9.cell 0, O9.out.o9.cell 1, O9.out.o9.cell 2, O9.out.o9.cell 3⟩ (fun hHeld => ?_)
     clear hK K'
     refine rdq 8 ⟨none, _, _, _, _, _⟩ (by kernel_rfl) rfl (fun K' hK => ?_)
     rw [if_pos (by rfl)]
     refine wp_store_mid 136 (.tmp 4) (.tmp 81) rfl q4 0 (kc (updT (C p) rd fullT)).toArray rfl rfl (by simpa [kc_length] using O9.out.there) (by rw [known_info]; simp [kc_length]) (all_oneCell_toArray (kc_one (updT (C p) rd fullT))) ?_
     change K' _ (World.setCells w9 q4 0 (kc (updT (C p) rd fullT)))
     refine hK.out _ _ ⟨(O9.out.setR (updT (C p) rd fullT)).row, (O9.out.setR (updT (C p) rd fullT)).o9.cell 0, (O9.out.setR (updT (C p) rd fullT)).o9.cell 1, (O9.out.setR (updT (C p) rd fullT)).o9.cell 2, (O9.out.setR (updT (C p) rd fullT)).o9.cell 3⟩ (fun hHeld => ?_)
     clear hK K'
     refine tkq 9 5 rfl (by kernel_rfl) (by rfl) hHeld (fun _ _ _ h => h) (by intro w' hSw; go_simp; try with_reducible rfl) ?_
     simp only [Act.put, spa, spb, spc]
     refine wpAnyH_done (by kernel_rfl) ?_ _
     go_wp2_with fail
     have OF := Lib.hid (O9.out.setR (updT (C p) rd fullT))
     generalize w9.setCells q4 0 (kc (updT (C p) rd fullT)) = wf at OF ⊢
     have LR := loadV_kn OF.out.res
     exact bodyPost_ret (v := .tuple #[kVal (updT (C p) rd fullT), .int .i64 e3]) (results_cell_tmp Tryz.results55 rfl LR) rfl ⟨by rw [HF.out] <;> first | done | rfl, OF.out.b⟩
   · have HF := Lib.hid (show V = (C p, firstV (numsV [⟨ak, al, ah, am⟩, ⟨sk, sl, sh, sm⟩]) (wordV ⟨sk, sl, sh, sm⟩)) from by first | exact HV.out.symm | (rw [← HS9.out]; exact HV.out.symm) | (rw [← HTA.out]; exact HV.out.symm) | (rw [← HS9.out, ← HTA.out]; exact HV.out.symm))
     have i0 := O6.out.o6.c0
     have i1 := O6.out.o6.c1
     have i2 := O6.out.o6.c2
     have i3 := O6.out.o6.c3
     have i4 := O6.out.o6.c4
     go_upto_region 18 with fail
     clear i0 i1 i2 i3 i4
     have a0 := O6.out.o8.c0
     have a1 := O6.out.o8.c1
     have a2 := O6.out.o8.c2
     have a3 := O6.out.o8.c3
     have s0 := O6.out.o9.c0
     have s1 := O6.out.o9.c1
     have s2 := O6.out.o9.c2
     have s3 := O6.out.o9.c3
     have HN1 := Lib.hid (fun w A hs => nums_any w [⟨ak, al, ah, am⟩, ⟨sk, sl, sh, sm⟩] A 2 2 rfl (by decide) hs)
     obtain ⟨e1, he1⟩ : ∃ e1, numsV [⟨ak, al, ah, am⟩, ⟨sk, sl, sh, sm⟩] = e1 := ⟨_, rfl⟩
     rw [he1] at HN1 HF
     clear he1
     have HW1 := Lib.hid (fun w => word_any w ⟨sk, sl, sh, sm⟩)
     obtain ⟨e2, he2⟩ : ∃ e2, wordV ⟨sk, sl, sh, sm⟩ = e2 := ⟨_, rfl⟩
     rw [he2] at HW1 HF
     clear he2
     unfold jVal at HW1
     dsimp only at HW1
     have HFI := Lib.hid (fun w A hs => first_any w e1 e2 A hs)
     obtain ⟨e3, he3⟩ : ∃ e3, firstV e1 e2 = e3 := ⟨_, rfl⟩
     rw [he3] at HFI HF
     clear he3
     obtain ⟨wd, hwd⟩ : ∃ wd, w6.drew = wd := ⟨_, rfl⟩
     have OD := Lib.hid (hwd ▸ O6.out.drew)
     refine wp_region_held_drew (S := fun w' => (w'.rangeAt q7 0 (kc (C p)) ∧ w'.cell? ⟨q8, 0, none⟩ = some (.int .i64 ak) ∧ w'.cell? ⟨q8, 1, none⟩ = some (.int .u64 (uv al)) ∧ w'.cell? ⟨q8, 2, none⟩ = some (.int .u64 (uv ah)) ∧ w'.cell? ⟨q8, 3, none⟩ = some (.int .i64 am) ∧ w'.cell? ⟨q9, 0, none⟩ = some (.int .i64 sk) ∧ w'.cell? ⟨q9, 1, none⟩ = some (.int .u64 (uv sl)) ∧ w'.cell? ⟨q9, 2, none⟩ = some (.int .u64 (uv sh)) ∧ w'.cell? ⟨q9, 3, none⟩ = some (.int .i64 sm))) (by kernel_rfl) (by rw [hwd]; exact ⟨OD.out.row, OD.out.o8.cell 0, OD.out.o8.cell 1, OD.out.o8.cell 2, OD.out.o8.cell 3, OD.out.o9.cell 0, OD.out.o9.cell 1, OD.out.o9.cell 2, OD.out.o9.cell 3⟩) (fun hHeld => ?_)
     refine wpAnyH_take (i := 0) (oi := ⟨some 91, .load 136 (.tmp 7), _, _, _, none⟩) (v := .agg (kc (C p)).toArray) rfl (by kernel_rfl) (by kernel_rfl) (by kernel_rfl) (fun _ _ _ h => h) (yieldsIf_load_mid (by rfl) 136 (.tmp 7) rfl q7 (0) rfl (kc (C p)) (.array 8 134) (fun w' h => h.1) (by kernel_rfl) rfl (by rw [known_info, kc_length])) (by assumption) ?_
     simp only [Act.put, spa, spb, spc]
     refine tkq 1 92 rfl (by kernel_rfl) (by rfl) hHeld (fun _ _ _ h => h) (by intro w' hSw; go_simp; try with_reducible rfl) ?_
     simp only [Act.put, spa, spb, spc]
     refine tkq 2 93 rfl (by kernel_rfl) (by rfl) hHeld (fun _ _ _ h => h) (by intro w' hSw; go_simp; try with_reducible rfl) ?_
     simp only [Act.put, spa, spb, spc]
     refine tkq 5 96 rfl (by kernel_rfl) (by rfl) hHeld (fun _ _ _ h => h) (by intro w' hSw; go_simp; try with_reducible rfl) ?_
     simp only [Act.put, spa, spb, spc]
     refine rdq 3 ⟨some 94, _, _, _, _, _⟩ (by kernel_rfl) rfl (fun K' hK => ?_)
     go_simp
     refine hK.out _ _ ⟨(OD.out.alloc (.cells #[.int .i64 ak, .int .u64 (uv al), .int .u64 (uv ah), .int .i64 am, .int .i64 sk, .int .u64 (uv sl), .int .u64 (uv sh), .int .i64 sm] 134)).row, (OD.out.alloc (.cells #[.int .i64 ak, .int .u64 (uv al), .int .u64 (uv ah), .int .i64 am, .int .i64 sk, .int .u64 (uv sl), .int .u64 (uv sh), .int .i64 sm] 134)).o8.cell 0, (OD.out.alloc (.cells #[.int .i64 ak, .int .u64 (uv al), .int .u64 (uv ah), .int .i64 am, .int .i64 sk, .int .u64 (uv sl), .int .u64 (uv sh), .int .i64 sm] 134)).o8.cell 1, (OD.out.alloc (.cells #[.int .i64 ak, .int .u64 (uv al), .int .u64 (uv ah), .int .i64 am, .int .i64 sk, .int .u64 (uv sl), .int .u64 (uv sh), .int .i64 sm] 134)).o8.cell 2, (OD.out.alloc (.cells #[.int .i64 ak, .int .u64 (uv al), .int .u64 (uv ah), .int .i64 am, .int .i64 sk, .int .u64 (uv sl), .int .u64 (uv sh), .int .i64 sm] 134)).o8.cell 3, (OD.out.alloc (.cells #[.int .i64 ak, .int .u64 (uv al), .int .u64 (uv ah), .int .i64 am, .int .i64 sk, .int .u64 (uv sl), .int .u64 (uv sh), .int .i64 sm] 134)).o9.cell 0, (OD.out.alloc (.cells #[.int .i64 ak, .int .u64 (uv al), .int .u64 (uv ah), .int .i64 am, .int .i64 sk, .int .u64 (uv sl), .int .u64 (uv sh), .int .i64 sm] 134)).o9.cell 1, (OD.out.alloc (.cells #[.int .i64 ak, .int .u64 (uv al), .int .u64 (uv ah), .int .i64 am, .int .i64 sk, .int .u64 (uv sl), .int .u64 (uv sh), .int .i64 sm] 134)).o9.cell 2, (OD.out.alloc (.cells #[.int .i64 ak, .int .u64 (uv al), .int .u64 (uv ah), .int .i64 am, .int .i64 sk, .int .u64 (uv sl), .int .u64 (uv sh), .int .i64 sm] 134)).o9.cell 3⟩ (fun hHeld => ?_)
     clear hK K'
     refine rdq 4 ⟨some 95, _, _, _, _, _⟩ (by kernel_rfl) rfl (fun K' hK => ?_)
     go_simp
     refine (HN1.out _ _ (Sl.fresh wd #[.int .i64 ak, .int .u64 (uv al), .int .u64 (uv ah), .int .i64 am, .int .i64 sk, .int .u64 (uv sl), .int .u64 (uv sh), .int .i64 sm] 134 (0, 0))).mono ?_
     rintro e w7 ⟨rfl, b7⟩
     have O7 := Lib.hid ((OD.out.alloc (.cells #[.int .i64 ak, .int .u64 (uv al), .int .u64 (uv ah), .int .i64 am, .int .i64 sk, .int .u64 (uv sl), .int .u64 (uv sh), .int .i64 sm] 134)).below b7)
     clear b7
     dsimp only
     refine hK.out _ _ ⟨O7.out.row, O7.out.o8.cell 0, O7.out.o8.cell 1, O7.out.o8.cell 2, O7.out.o8.cell 3, O7.out.o9.cell 0, O7.out.o9.cell 1, O7.out.o9.cell 2, O7.out.o9.cell 3⟩ (fun hHeld => ?_)
     clear hK K'
     refine rdq 6 ⟨some 97, _, _, _, _, _⟩ (by kernel_rfl) rfl (fun K' hK => ?_)
     go_simp
     refine (HW1.out _).mono ?_
     rintro e w8 ⟨rfl, b8⟩
     have O8 := Lib.hid (O7.out.below b8)
     clear b8
     dsimp only
     refine hK.out _ _ ⟨O8.out.row, O8.out.o8.cell 0, O8.out.o8.cell 1, O8.out.o8.cell 2, O8.out.o8.cell 3, O8.out.o9.cell 0, O8.out.o9.cell 1, O8.out.o9.cell 2, O8.out.o9.cell 3⟩ (fun hHeld => ?_)
     clear hK K'
     refine rdq 7 ⟨some 98, _, _, _, _, _⟩ (by kernel_rfl) rfl (fun K' hK => ?_)
     go_simp
     refine hK.out _ _ ⟨(O8.out.alloc (.cells #[.int .i64 e1, .int .i64 e2] 33)).row, (O8.out.alloc (.cells #[.int .i64 e1, .int .i64 e2] 33)).o8.cell 0, (O8.out.alloc (.cells #[.int .i64 e1, .int .i64 e2] 33)).o8.cell 1, (O8.out.alloc (.cells #[.int .i64 e1, .int .i64 e2] 33)).o8.cell 2, (O8.out.alloc (.cells #[.int .i64 e1, .int .i64 e2] 33)).o8.cell 3, (O8.out.alloc (.cells #[.int .i64 e1, .int .i64 e2] 33)).o9.cell 0, (O8.out.alloc (.cells #[.int .i64 e1, .int .i64 e2] 33)).o9.cell 1, (O8.out.alloc (.cells #[.int .i64 e1, .int .i64 e2] 33)).o9.cell 2, (O8.out.alloc (.cells #[.int .i64 e1, .int .i64 e2] 33)).o9.cell 3⟩ (fun hHeld => ?_)
     clear hK K'
     refine rdq 8 ⟨some 99, _, _, _, _, _⟩ (by kernel_rfl) rfl (fun K' hK => ?_)
     go_simp
     refine (HFI.out _ _ (Sl.fresh w8 #[.int .i64 e1, .int .i64 e2] 33 (0, 0))).mono ?_
     rintro e w9 ⟨rfl, b9⟩
     have O9 := Lib.hid ((O8.out.alloc (.cells #[.int .i64 e1, .int .i64 e2] 33)).below b9)
     clear b9
     dsimp only
     refine hK.out _ _ ⟨O9.out.row, O9.out.o8.cell 0, O9.out.o8.cell 1, O9.out.o8.cell 2, O9.out.o8.cell 3, O9.out.o9.cell 0, O9.out.o9.cell 1, O9.out.o9.cell 2, O9.out.o9.cell 3⟩ (fun hHeld => ?_)
     clear hK K'
     refine rdq 9 ⟨none, _, _, _, _, _⟩ (by kernel_rfl) rfl (fun K' hK => ?_)
     rw [if_pos (by rfl)]
     refine wp_store_mid 136 (.tmp 4) (.tmp 91) rfl q4 0 (kc (C p)).toArray rfl rfl (by simpa [kc_length] using O9.out.there) (by rw [known_info]; simp [kc_length]) (all_oneCell_toArray (kc_one (C p))) ?_
     change K' _ (World.setCells w9 q4 0 (kc (C p)))
     refine hK.out _ _ ⟨(O9.out.setR (C p)).row, (O9.out.setR (C p)).o8.cell 0, (O9.out.setR (C p)).o8.cell 1, (O9.out.setR (C p)).o8.cell 2, (O9.out.setR (C p)).o8.cell 3, (O9.out.setR (C p)).o9.cell 0, (O9.out.setR (C p)).o9.cell 1, (O9.out.setR (C p)).o9.cell 2, (O9.out.setR (C p)).o9.cell 3⟩ (fun hHeld => ?_)
     clear hK K'
     refine tkq 10 5 rfl (by kernel_rfl) (by rfl) hHeld (fun _ _ _ h => h) (by intro w' hSw; go_simp; try with_reducible rfl) ?_
     simp only [Act.put, spa, spb, spc]
     refine wpAnyH_done (by kernel_rfl) ?_ _
     go_wp2_with fail
     have OF := Lib.hid (O9.out.setR (C p))
     generalize w9.setCells q4 0 (kc (C p)) = wf at OF ⊢
     have LR := loadV_kn OF.out.res
     exact bodyPost_ret (v := .tuple #[kVal (C p), .int .i64 e3]) (results_cell_tmp Tryz.results55 rfl LR) rfl ⟨by rw [HF.out] <;> first | done | rfl, OF.out.b⟩
   · obtain ⟨rd, rfl⟩ : ∃ rd : Nat, d = rd := ⟨d.toNat, by have := HI.out.d0; dsimp only at this; omega⟩
     have hrd : rd < 8 := by have := HI.out.d8 (by first | decide | (dsimp only; omega)); dsimp only at this; omega
     have HRD := Lib.hid hrd
     have g3 : (rd : Int) < 8 := by omega
     have g4 : (0 : Int) ≤ (rd : Int) := by omega
     clear hrd
     have HF := Lib.hid (show V = (updT (C p) rd fullT, (0 : Int)) from by first | exact HV.out.symm | (rw [← HS9.out]; exact HV.out.symm) | (rw [← HTA.out]; exact HV.out.symm) | (rw [← HS9.out, ← HTA.out]; exact HV.out.symm))
     have i0 := O6.out.o6.c0
     have i1 := O6.out.o6.c1
     have i2 := O6.out.o6.c2
     have i3 := O6.out.o6.c3
     have i4 := O6.out.o6.c4
     go_upto_region 20 with fail
     clear i0 i2 i3 i4
     have HFU := Lib.hid (fun w => Sp.full_any w)
     have HNU := Lib.hid (fun w lo hi => number_any w lo hi)
     obtain ⟨wd, hwd⟩ : ∃ wd, w6.drew = wd := ⟨_, rfl⟩
     have OD := Lib.hid (hwd ▸ O6.out.drew)
     refine wp_region_held_drew (S := fun w' => (w'.cell? ⟨q6, 1, none⟩ = some (.int .i64 (rd : Int)))) (by kernel_rfl) (hwd ▸ OD.out.o6.cell 1) (fun hHeld => ?_)
     refine tkq 0 102 rfl (by kernel_rfl) (by rfl) hHeld (fun _ _ _ h => h) (by intro w' hSw; go_simp; try with_reducible rfl) ?_
     simp only [Act.put, spa, spb, spc]
     refine tkq 1 103 rfl (by kernel_rfl) (by rfl) hHeld (fun _ _ _ h => h) (by intro w' hSw; go_simp; try with_reducible rfl) ?_
     simp only [Act.put, spa, spb, spc]
     refine rdq 2 ⟨some 104, _, _, _, _, _⟩ (by kernel_rfl) rfl (fun K' hK => ?_)
     go_simp
     refine (HFU.out _).mono ?_
     rintro e wx ⟨rfl, bx⟩
     have OX := Lib.hid (OD.out.below bx)
     clear bx
     dsimp only
     refine hK.out _ _ (OX.out.o6.cell 1) (fun hHeld => ?_)
     clear hK K'
     refine rdq 3 ⟨some 105, _, _, _, _, _⟩ (by kernel_rfl) rfl (fun K' hK => ?_)
     go_simp
     refine (HNU.out _ 0#64 Sp.mostB).mono ?_
     rintro e wz ⟨rfl, bz⟩
     have OZ := Lib.hid (OX.out.below bz)
     clear bz
     dsimp only [jVal, numT]
     refine hK.out _ _ (OZ.out.o6.cell 1) (fun hHeld => ?_)
     clear hK K'
     refine tkq 4 106 rfl (by kernel_rfl) (by rfl) hHeld (fun _ _ _ h => h) (by intro w' hSw; go_simp; try with_reducible rfl) ?_
     simp only [Act.put, spa, spb, spc]
     refine rdq 5 ⟨none, _, _, _, _, _⟩ (by kernel_rfl) rfl (fun K' hK => ?_)
     have hg := kc_get (C p) HRD.out
     have r0 : wz.cell? ⟨q7, rd * 4, none⟩ = some (.int .i64 ((C p) rd).k) := (OZ.out.o7.cell _).trans hg.1
     have r1 : wz.cell? ⟨q7, rd * 4 + 1, none⟩ = some (.int .u64 (uv ((C p) rd).lo)) := (OZ.out.o7.cell _).trans hg.2.1
     have r2 : wz.cell? ⟨q7, rd * 4 + 2, none⟩ = some (.int .u64 (uv ((C p) rd).hi)) := (OZ.out.o7.cell _).trans hg.2.2.1
     have r3 : wz.cell? ⟨q7, rd * 4 + 3, none⟩ = some (.int .i64 ((C p) rd).m) := (OZ.out.o7.cell _).trans hg.2.2.2
     have rz := OZ.out.o7.frozen
     clear hg
     go_simp
     have OY := Lib.hid (OZ.out.setK HRD.out fullT)
     unfold set4 at OY
     simp only [fullT, numT] at OY
     refine hK.out _ _ (OY.out.o6.cell 1) (fun hHeld => ?_)
     clear hK K'
     clear hHeld r0 r1 r2 r3 rz
     refine wpAnyH_done (by kernel_rfl) ?_ _
     generalize ((((wz.setCell ⟨q7, rd * 4, none⟩ (.int .i64 1)).setCell ⟨q7, rd * 4 + 1, none⟩ (.int .u64 (uv 0#64))).setCell ⟨q7, rd * 4 + 2, none⟩ (.int .u64 (uv Sp.mostB))).setCell ⟨q7, rd * 4 + 3, none⟩ (.int .i64 0)) = w10 at OY ⊢
     clear OX OZ OD hwd HFU HNU
     have O10 := Lib.hid (show OSt w w10 q4 q6 q7 q8 q9 _ (updT (C p) rd fullT) _ _ _ from OY.out)
     clear i1 O6
     go_upto_region 48 with fail
     have lk := Lib.hid O10.out.row
     have th := Lib.hid O10.out.there
     go_wp2_with (first | ((with_reducible refine wpList_load_mid ?_ 136 (.tmp 7) ?_ q7 (0) ?_ (kc (updT (C p) rd fullT)) (.array 8 134) lk.out ?_ ?_ ?_ ?_); rfl; rfl; rfl; kernel_rfl; rfl; (rw [known_info, kc_length])) | ((with_reducible refine wpList_store_mid ?_ 136 (.tmp 4) (.tmp 193) ?_ q4 (0) (kc (updT (C p) rd fullT)).toArray ?_ ?_ ?_ ?_ ?_ ?_); rfl; rfl; rfl; rfl; (exact th.out); (rw [known_info]; rfl); (exact all_oneCell_toArray (kc_one (updT (C p) rd fullT)))))
     have OF := Lib.hid (O10.out.setR (updT (C p) rd fullT))
     generalize w10.setCells q4 0 (kc (updT (C p) rd fullT)) = wf at OF ⊢
     have LR := loadV_kn OF.out.res
     exact bodyPost_ret (v := .tuple #[kVal (updT (C p) rd fullT), .int .i64 0]) (results_cell_tmp Tryz.results55 rfl LR) rfl ⟨by rw [HF.out] <;> first | done | rfl, OF.out.b⟩
   · obtain ⟨rd, rfl⟩ : ∃ rd : Nat, d = rd := ⟨d.toNat, by have := HI.out.d0; dsimp only at this; omega⟩
     have hrd : rd < 8 := by have := HI.out.d8 (by first | decide | (dsimp only; omega)); dsimp only at this; omega
     have HRD := Lib.hid hrd
     have g3 : (rd : Int) < 8 := by omega
     have g4 : (0 : Int) ≤ (rd : Int) := by omega
     clear hrd
     have HF := Lib.hid (show V = (updT (C p) rd ⟨2, 0#64, 0#64, m⟩, if (nm : Int) ≤ m then (35 : Int) else 0) from by first | exact HV.out.symm | (rw [← HS9.out]; exact HV.out.symm) | (rw [← HTA.out]; exact HV.out.symm) | (rw [← HS9.out, ← HTA.out]; exact HV.out.symm))
     have i0 := O6.out.o6.c0
     have i1 := O6.out.o6.c1
     have i2 := O6.out.o6.c2
     have i3 := O6.out.o6.c3
     have i4 := O6.out.o6.c4
     have hg := kc_get (C p) HRD.out
     have r0 : w6.cell? ⟨q7, rd * 4, none⟩ = some (.int .i64 ((C p) rd).k) := (O6.out.o7.cell _).trans hg.1
     have r1 : w6.cell? ⟨q7, rd * 4 + 1, none⟩ = some (.int .u64 (uv ((C p) rd).lo)) := (O6.out.o7.cell _).trans hg.2.1
     have r2 : w6.cell? ⟨q7, rd * 4 + 2, none⟩ = some (.int .u64 (uv ((C p) rd).hi)) := (O6.out.o7.cell _).trans hg.2.2.1
     have r3 : w6.cell? ⟨q7, rd * 4 + 3, none⟩ = some (.int .i64 ((C p) rd).m) := (O6.out.o7.cell _).trans hg.2.2.2
     have rz := O6.out.o7.frozen
     clear hg
     go_upto_region 23 with fail
     clear i0 i1 i2 i3 i4 r0 r1 r2 r3 rz
     have O7 := Lib.hid (O6.out.setK HRD.out ⟨2, 0#64, 0#64, m⟩)
     unfold set4 at O7
     simp only [uv_zero] at O7
     try dsimp only at O7
     generalize ((((w6.setCell ⟨q7, rd * 4, none⟩ (.int .i64 2)).setCell ⟨q7, rd * 4 + 1, none⟩ (.int .u64 0)).setCell ⟨q7, rd * 4 + 2, none⟩ (.int .u64 0)).setCell ⟨q7, rd * 4 + 3, none⟩ (.int .i64 m)) = w7 at O7 ⊢
     have i4 := O7.out.o6.c4
     have y0 : w7.cell? ⟨g, 0, none⟩ = some (.slice mA nm cm) := (HJ.out.below O7.out.b).o.cell 0
     go_quiet (fail)
     have O8 := Lib.hid (O7.out.drewN nq)
     clear O7 i4 y0
     generalize w7.drewN nq = w8 at O8 ⊢
     by_cases hle : (nm : Int) ≤ m
     · replace HF := Lib.hid (show V = (updT (C p) rd ⟨2, 0#64, 0#64, m⟩, (35 : Int)) from HF.out.trans (by rw [if_pos hle]))
       have lk := Lib.hid O8.out.row
       have th := Lib.hid O8.out.there
       go_wp2_with (first | ((with_reducible refine wpList_load_mid ?_ 136 (.tmp 7) ?_ q7 (0) ?_ (kc (updT (C p) rd ⟨2, 0#64, 0#64, m⟩)) (.array 8 134) lk.out ?_ ?_ ?_ ?_); rfl; rfl; rfl; kernel_rfl; rfl; (rw [known_info, kc_length])) | ((with_reducible refine wpList_store_mid ?_ 136 (.tmp 4) (.tmp 124) ?_ q4 (0) (kc (updT (C p) rd ⟨2, 0#64, 0#64, m⟩)).toArray ?_ ?_ ?_ ?_ ?_ ?_); rfl; rfl; rfl; rfl; (exact th.out); (rw [known_info]; rfl); (exact all_oneCell_toArray (kc_one (updT (C p) rd ⟨2, 0#64, 0#64, m⟩)))))
       have OF := Lib.hid (O8.out.setR (updT (C p) rd ⟨2, 0#64, 0#64, m⟩))
       generalize w8.setCells q4 0 (kc (updT (C p) rd ⟨2, 0#64, 0#64, m⟩)) = wf at OF ⊢
       have LR := loadV_kn OF.out.res
       exact bodyPost_ret (v := .tuple #[kVal (updT (C p) rd ⟨2, 0#64, 0#64, m⟩), .int .i64 35]) (results_cell_tmp Tryz.results55 rfl LR) rfl ⟨by rw [HF.out] <;> first | done | rfl, OF.out.b⟩
     replace HF := Lib.hid (show V = (updT (C p) rd ⟨2, 0#64, 0#64, m⟩, (0 : Int)) from HF.out.trans (by rw [if_neg hle]))
     have lk := Lib.hid O8.out.row
     have th := Lib.hid O8.out.there
     go_wp2_with (first | ((with_reducible refine wpList_load_mid ?_ 136 (.tmp 7) ?_ q7 (0) ?_ (kc (updT (C p) rd ⟨2, 0#64, 0#64, m⟩)) (.array 8 134) lk.out ?_ ?_ ?_ ?_); rfl; rfl; rfl; kernel_rfl; rfl; (rw [known_info, kc_length])) | ((with_reducible refine wpList_store_mid ?_ 136 (.tmp 4) (.tmp 193) ?_ q4 (0) (kc (updT (C p) rd ⟨2, 0#64, 0#64, m⟩)).toArray ?_ ?_ ?_ ?_ ?_ ?_); rfl; rfl; rfl; rfl; (exact th.out); (rw [known_info]; rfl); (exact all_oneCell_toArray (kc_one (updT (C p) rd ⟨2, 0#64, 0#64, m⟩)))))
     have OF := Lib.hid (O8.out.setR (updT (C p) rd ⟨2, 0#64, 0#64, m⟩))
     generalize w8.setCells q4 0 (kc (updT (C p) rd ⟨2, 0#64, 0#64, m⟩)) = wf at OF ⊢
     have LR := loadV_kn OF.out.res
     exact bodyPost_ret (v := .tuple #[kVal (updT (C p) rd ⟨2, 0#64, 0#64, m⟩), .int .i64 0]) (results_cell_tmp Tryz.results55 rfl LR) rfl ⟨by rw [HF.out] <;> first | done | rfl, OF.out.b⟩
   · have HF := Lib.hid (show V = (C p, (0 : Int)) from by first | exact HV.out.symm | (rw [← HS9.out]; exact HV.out.symm) | (rw [← HTA.out]; exact HV.out.symm) | (rw [← HS9.out, ← HTA.out]; exact HV.out.symm))
     have i0 := O6.out.o6.c0
     have i1 := O6.out.o6.c1
     have i2 := O6.out.o6.c2
     have i3 := O6.out.o6.c3
     have i4 := O6.out.o6.c4
     have lk := Lib.hid O6.out.row
     have th := Lib.hid O6.out.there
     go_wp2_with (first | ((with_reducible refine wpList_load_mid ?_ 136 (.tmp 7) ?_ q7 (0) ?_ (kc (C p)) (.array 8 134) lk.out ?_ ?_ ?_ ?_); rfl; rfl; rfl; kernel_rfl; rfl; (rw [known_info, kc_length])) | ((with_reducible refine wpList_store_mid ?_ 136 (.tmp 4) (.tmp 193) ?_ q4 (0) (kc (C p)).toArray ?_ ?_ ?_ ?_ ?_ ?_); rfl; rfl; rfl; rfl; (exact th.out); (rw [known_info]; rfl); (exact all_oneCell_toArray (kc_one (C p)))))
     have OF := Lib.hid (O6.out.setR (C p))
     generalize w6.setCells q4 0 (kc (C p)) = wf at OF ⊢
     have LR := loadV_kn OF.out.res
     exact bodyPost_ret (v := .tuple #[kVal (C p), .int .i64 0]) (results_cell_tmp Tryz.results55 rfl LR) rfl ⟨by rw [HF.out] <;> first | done | rfl, OF.out.b⟩
   · have HF := Lib.hid (show V = (C p, numsV [⟨ak, al, ah, am⟩, ⟨sk, sl, sh, sm⟩]) from by first | exact HV.out.symm | (rw [← HS9.out]; exact HV.out.symm) | (rw [← HTA.out]; exact HV.out.symm) | (rw [← HS9.out, ← HTA.out]; exact HV.out.symm))
     have i0 := O6.out.o6.c0
     have i1 := O6.out.o6.c1
     have i2 := O6.out.o6.c2
     have i3 := O6.out.o6.c3
     have i4 := O6.out.o6.c4
     go_upto_region 30 with fail
     clear i0 i1 i2 i3 i4
     have a0 := O6.out.o8.c0
     have a1 := O6.out.o8.c1
     have a2 := O6.out.o8.c2
     have a3 := O6.out.o8.c3
     have s0 := O6.out.o9.c0
     have s1 := O6.out.o9.c1
     have s2 := O6.out.o9.c2
     have s3 := O6.out.o9.c3
     have HN1 := Lib.hid (fun w A hs => nums_any w [⟨ak, al, ah, am⟩, ⟨sk, sl, sh, sm⟩] A 2 2 rfl (by decide) hs)
     obtain ⟨e1, he1⟩ : ∃ e1, numsV [⟨ak, al, ah, am⟩, ⟨sk, sl, sh, sm⟩] = e1 := ⟨_, rfl⟩
     rw [he1] at HN1 HF
     clear he1
     obtain ⟨wd, hwd⟩ : ∃ wd, w6.drew = wd := ⟨_, rfl⟩
     have OD := Lib.hid (hwd ▸ O6.out.drew)
     refine wp_region_held_drew (S := fun w' => (w'.rangeAt q7 0 (kc (C p)) ∧ w'.cell? ⟨q8, 0, none⟩ = some (.int .i64 ak) ∧ w'.cell? ⟨q8, 1, none⟩ = some (.int .u64 (uv al)) ∧ w'.cell? ⟨q8, 2, none⟩ = some (.int .u64 (uv ah)) ∧ w'.cell? ⟨q8, 3, none⟩ = some (.int .i64 am) ∧ w'.cell? ⟨q9, 0, none⟩ = some (.int .i64 sk) ∧ w'.cell? ⟨q9, 1, none⟩ = some (.int .u64 (uv sl)) ∧ w'.cell? ⟨q9, 2, none⟩ = some (.int .u64 (uv sh)) ∧ w'.cell? ⟨q9, 3, none⟩ = some (.int .i64 sm))) (by kernel_rfl) (by rw [hwd]; exact ⟨OD.out.row, OD.out.o8.cell 0, OD.out.o8.cell 1, OD.out.o8.cell 2, OD.out.o8.cell 3, OD.out.o9.cell 0, OD.out.o9.cell 1, OD.out.o9.cell 2, OD.out.o9.cell 3⟩) (fun hHeld => ?_)
     refine wpAnyH_take (i := 0) (oi := ⟨some 132, .load 136 (.tmp 7), _, _, _, none⟩) (v := .agg (kc (C p)).toArray) rfl (by kernel_rfl) (by kernel_rfl) (by kernel_rfl) (fun _ _ _ h => h) (yieldsIf_load_mid (by rfl) 136 (.tmp 7) rfl q7 (0) rfl (kc (C p)) (.array 8 134) (fun w' h => h.1) (by kernel_rfl) rfl (by rw [known_info, kc_length])) (by assumption) ?_
     simp only [Act.put, spa, spb, spc]
     refine tkq 1 133 rfl (by kernel_rfl) (by rfl) hHeld (fun _ _ _ h => h) (by intro w' hSw; go_simp; try with_reducible rfl) ?_
     simp only [Act.put, spa, spb, spc]
     refine tkq 2 134 rfl (by kernel_rfl) (by rfl) hHeld (fun _ _ _ h => h) (by intro w' hSw; go_simp; try with_reducible rfl) ?_
     simp only [Act.put, spa, spb, spc]
     refine rdq 3 ⟨some 135, _, _, _, _, _⟩ (by kernel_rfl) rfl (fun K' hK => ?_)
     go_simp
     refine hK.out _ _ ⟨(OD.out.alloc (.cells #[.int .i64 ak, .int .u64 (uv al), .int .u64 (uv ah), .int .i64 am, .int .i64 sk, .int .u64 (uv sl), .int .u64 (uv sh), .int .i64 sm] 134)).row, (OD.out.alloc (.cells #[.int .i64 ak, .int .u64 (uv al), .int .u64 (uv ah), .int .i64 am, .int .i64 sk, .int .u64 (uv sl), .int .u64 (uv sh), .int .i64 sm] 134)).o8.cell 0, (OD.out.alloc (.cells #[.int .i64 ak, .int .u64 (uv al), .int .u64 (uv ah), .int .i64 am, .int .i64 sk, .int .u64 (uv sl), .int .u64 (uv sh), .int .i64 sm] 134)).o8.cell 1, (OD.out.alloc (.cells #[.int .i64 ak, .int .u64 (uv al), .int .u64 (uv ah), .int .i64 am, .int .i64 sk, .int .u64 (uv sl), .int .u64 (uv sh), .int .i64 sm] 134)).o8.cell 2, (OD.out.alloc (.cells #[.int .i64 ak, .int .u64 (uv al), .int .u64 (uv ah), .int .i64 am, .int .i64 sk, .int .u64 (uv sl), .int .u64 (uv sh), .int .i64 sm] 134)).o8.cell 3, (OD.out.alloc (.cells #[.int .i64 ak, .int .u64 (uv al), .int .u64 (uv ah), .int .i64 am, .int .i64 sk, .int .u64 (uv sl), .int .u64 (uv sh), .int .i64 sm] 134)).o9.cell 0, (OD.out.alloc (.cells #[.int .i64 ak, .int .u64 (uv al), .int .u64 (uv ah), .int .i64 am, .int .i64 sk, .int .u64 (uv sl), .int .u64 (uv sh), .int .i64 sm] 134)).o9.cell 1, (OD.out.alloc (.cells #[.int .i64 ak, .int .u64 (uv al), .int .u64 (uv ah), .int .i64 am, .int .i64 sk, .int .u64 (uv sl), .int .u64 (uv sh), .int .i64 sm] 134)).o9.cell 2, (OD.out.alloc (.cells #[.int .i64 ak, .int .u64 (uv al), .int .u64 (uv ah), .int .i64 am, .int .i64 sk, .int .u64 (uv sl), .int .u64 (uv sh), .int .i64 sm] 134)).o9.cell 3⟩ (fun hHeld => ?_)
     clear hK K'
     refine rdq 4 ⟨some 136, _, _, _, _, _⟩ (by kernel_rfl) rfl (fun K' hK => ?_)
     go_simp
     refine (HN1.out _ _ (Sl.fresh wd #[.int .i64 ak, .int .u64 (uv al), .int .u64 (uv ah), .int .i64 am, .int .i64 sk, .int .u64 (uv sl), .int .u64 (uv sh), .int .i64 sm] 134 (0, 0))).mono ?_
     rintro e w7 ⟨rfl, b7⟩
     have O7 := Lib.hid ((OD.out.alloc (.cells #[.int .i64 ak, .int .u64 (uv al), .int .u64 (uv ah), .int .i64 am, .int .i64 sk, .int .u64 (uv sl), .int .u64 (uv sh), .int .i64 sm] 134)).below b7)
     clear b7
     dsimp only
     refine hK.out _ _ ⟨O7.out.row, O7.out.o8.cell 0, O7.out.o8.cell 1, O7.out.o8.cell 2, O7.out.o8.cell 3, O7.out.o9.cell 0, O7.out.o9.cell 1, O7.out.o9.cell 2, O7.out.o9.cell 3⟩ (fun hHeld => ?_)
     clear hK K'
     refine rdq 5 ⟨none, _, _, _, _, _⟩ (by kernel_rfl) rfl (fun K' hK => ?_)
     rw [if_pos (by rfl)]
     refine wp_store_mid 136 (.tmp 4) (.tmp 132) rfl q4 0 (kc (C p)).toArray rfl rfl (by simpa [kc_length] using O7.out.there) (by rw [known_info]; simp [kc_length]) (all_oneCell_toArray (kc_one (C p))) ?_
     change K' _ (World.setCells w7 q4 0 (kc (C p)))
     refine hK.out _ _ ⟨(O7.out.setR (C p)).row, (O7.out.setR (C p)).o8.cell 0, (O7.out.setR (C p)).o8.cell 1, (O7.out.setR (C p)).o8.cell 2, (O7.out.setR (C p)).o8.cell 3, (O7.out.setR (C p)).o9.cell 0, (O7.out.setR (C p)).o9.cell 1, (O7.out.setR (C p)).o9.cell 2, (O7.out.setR (C p)).o9.cell 3⟩ (fun hHeld => ?_)
     clear hK K'
     refine tkq 6 5 rfl (by kernel_rfl) (by rfl) hHeld (fun _ _ _ h => h) (by intro w' hSw; go_simp; try with_reducible rfl) ?_
     simp only [Act.put, spa, spb, spc]
     refine wpAnyH_done (by kernel_rfl) ?_ _
     go_wp2_with fail
     have OF := Lib.hid (O7.out.setR (C p))
     generalize w7.setCells q4 0 (kc (C p)) = wf at OF ⊢
     have LR := loadV_kn OF.out.res
     exact bodyPost_ret (v := .tuple #[kVal (C p), .int .i64 e1]) (results_cell_tmp Tryz.results55 rfl LR) rfl ⟨by rw [HF.out] <;> first | done | rfl, OF.out.b⟩
   · have HF := Lib.hid (show V = (C p, numsV [⟨ak, al, ah, am⟩, ⟨sk, sl, sh, sm⟩]) from by first | exact HV.out.symm | (rw [← HS9.out]; exact HV.out.symm) | (rw [← HTA.out]; exact HV.out.symm) | (rw [← HS9.out, ← HTA.out]; exact HV.out.symm))
     have i0 := O6.out.o6.c0
     have i1 := O6.out.o6.c1
     have i2 := O6.out.o6.c2
     have i3 := O6.out.o6.c3
     have i4 := O6.out.o6.c4
     go_upto_region 30 with fail
     clear i0 i1 i2 i3 i4
     have a0 := O6.out.o8.c0
     have a1 := O6.out.o8.c1
     have a2 := O6.out.o8.c2
     have a3 := O6.out.o8.c3
     have s0 := O6.out.o9.c0
     have s1 := O6.out.o9.c1
     have s2 := O6.out.o9.c2
     have s3 := O6.out.o9.c3
     have HN1 := Lib.hid (fun w A hs => nums_any w [⟨ak, al, ah, am⟩, ⟨sk, sl, sh, sm⟩] A 2 2 rfl (by decide) hs)
     obtain ⟨e1, he1⟩ : ∃ e1, numsV [⟨ak, al, ah, am⟩, ⟨sk, sl, sh, sm⟩] = e1 := ⟨_, rfl⟩
     rw [he1] at HN1 HF
     clear he1
     obtain ⟨wd, hwd⟩ : ∃ wd, w6.drew = wd := ⟨_, rfl⟩
     have OD := Lib.hid (hwd ▸ O6.out.drew)
     refine wp_region_held_drew (S := fun w' => (w'.rangeAt q7 0 (kc (C p)) ∧ w'.cell? ⟨q8, 0, none⟩ = some (.int .i64 ak) ∧ w'.cell? ⟨q8, 1, none⟩ = some (.int .u64 (uv al)) ∧ w'.cell? ⟨q8, 2, none⟩ = some (.int .u64 (uv ah)) ∧ w'.cell? ⟨q8, 3, none⟩ = some (.int .i64 am) ∧ w'.cell? ⟨q9, 0, none⟩ = some (.int .i64 sk) ∧ w'.cell? ⟨q9, 1, none⟩ = some (.int .u64 (uv sl)) ∧ w'.cell? ⟨q9, 2, none⟩ = some (.int .u64 (uv sh)) ∧ w'.cell? ⟨q9, 3, none⟩ = some (.int .i64 sm))) (by kernel_rfl) (by rw [hwd]; exact ⟨OD.out.row, OD.out.o8.cell 0, OD.out.o8.cell 1, OD.out.o8.cell 2, OD.out.o8.cell 3, OD.out.o9.cell 0, OD.out.o9.cell 1, OD.out.o9.cell 2, OD.out.o9.cell 3⟩) (fun hHeld => ?_)
     refine wpAnyH_take (i := 0) (oi := ⟨some 132, .load 136 (.tmp 7), _, _, _, none⟩) (v := .agg (kc (C p)).toArray) rfl (by kernel_rfl) (by kernel_rfl) (by kernel_rfl) (fun _ _ _ h => h) (yieldsIf_load_mid (by rfl) 136 (.tmp 7) rfl q7 (0) rfl (kc (C p)) (.array 8 134) (fun w' h => h.1) (by kernel_rfl) rfl (by rw [known_info, kc_length])) (by assumption) ?_
     simp only [Act.put, spa, spb, spc]
     refine tkq 1 133 rfl (by kernel_rfl) (by rfl) hHeld (fun _ _ _ h => h) (by intro w' hSw; go_simp; try with_reducible rfl) ?_
     simp only [Act.put, spa, spb, spc]
     refine tkq 2 134 rfl (by kernel_rfl) (by rfl) hHeld (fun _ _ _ h => h) (by intro w' hSw; go_simp; try with_reducible rfl) ?_
     simp only [Act.put, spa, spb, spc]
     refine rdq 3 ⟨some 135, _, _, _, _, _⟩ (by kernel_rfl) rfl (fun K' hK => ?_)
     go_simp
     refine hK.out _ _ ⟨(OD.out.alloc (.cells #[.int .i64 ak, .int .u64 (uv al), .int .u64 (uv ah), .int .i64 am, .int .i64 sk, .int .u64 (uv sl), .int .u64 (uv sh), .int .i64 sm] 134)).row, (OD.out.alloc (.cells #[.int .i64 ak, .int .u64 (uv al), .int .u64 (uv ah), .int .i64 am, .int .i64 sk, .int .u64 (uv sl), .int .u64 (uv sh), .int .i64 sm] 134)).o8.cell 0, (OD.out.alloc (.cells #[.int .i64 ak, .int .u64 (uv al), .int .u64 (uv ah), .int .i64 am, .int .i64 sk, .int .u64 (uv sl), .int .u64 (uv sh), .int .i64 sm] 134)).o8.cell 1, (OD.out.alloc (.cells #[.int .i64 ak, .int .u64 (uv al), .int .u64 (uv ah), .int .i64 am, .int .i64 sk, .int .u64 (uv sl), .int .u64 (uv sh), .int .i64 sm] 134)).o8.cell 2, (OD.out.alloc (.cells #[.int .i64 ak, .int .u64 (uv al), .int .u64 (uv ah), .int .i64 am, .int .i64 sk, .int .u64 (uv sl), .int .u64 (uv sh), .int .i64 sm] 134)).o8.cell 3, (OD.out.alloc (.cells #[.int .i64 ak, .int .u64 (uv al), .int .u64 (uv ah), .int .i64 am, .int .i64 sk, .int .u64 (uv sl), .int .u64 (uv sh), .int .i64 sm] 134)).o9.cell 0, (OD.out.alloc (.cells #[.int .i64 ak, .int .u64 (uv al), .int .u64 (uv ah), .int .i64 am, .int .i64 sk, .int .u64 (uv sl), .int .u64 (uv sh), .int .i64 sm] 134)).o9.cell 1, (OD.out.alloc (.cells #[.int .i64 ak, .int .u64 (uv al), .int .u64 (uv ah), .int .i64 am, .int .i64 sk, .int .u64 (uv sl), .int .u64 (uv sh), .int .i64 sm] 134)).o9.cell 2, (OD.out.alloc (.cells #[.int .i64 ak, .int .u64 (uv al), .int .u64 (uv ah), .int .i64 am, .int .i64 sk, .int .u64 (uv sl), .int .u64 (uv sh), .int .i64 sm] 134)).o9.cell 3⟩ (fun hHeld => ?_)
     clear hK K'
     refine rdq 4 ⟨some 136, _, _, _, _, _⟩ (by kernel_rfl) rfl (fun K' hK => ?_)
     go_simp
     refine (HN1.out _ _ (Sl.fresh wd #[.int .i64 ak, .int .u64 (uv al), .int .u64 (uv ah), .int .i64 am, .int .i64 sk, .int .u64 (uv sl), .int .u64 (uv sh), .int .i64 sm] 134 (0, 0))).mono ?_
     rintro e w7 ⟨rfl, b7⟩
     have O7 := Lib.hid ((OD.out.alloc (.cells #[.int .i64 ak, .int .u64 (uv al), .int .u64 (uv ah), .int .i64 am, .int .i64 sk, .int .u64 (uv sl), .int .u64 (uv sh), .int .i64 sm] 134)).below b7)
     clear b7
     dsimp only
     refine hK.out _ _ ⟨O7.out.row, O7.out.o8.cell 0, O7.out.o8.cell 1, O7.out.o8.cell 2, O7.out.o8.cell 3, O7.out.o9.cell 0, O7.out.o9.cell 1, O7.out.o9.cell 2, O7.out.o9.cell 3⟩ (fun hHeld => ?_)
     clear hK K'
     refine rdq 5 ⟨none, _, _, _, _, _⟩ (by kernel_rfl) rfl (fun K' hK => ?_)
     rw [if_pos (by rfl)]
     refine wp_store_mid 136 (.tmp 4) (.tmp 132) rfl q4 0 (kc (C p)).toArray rfl rfl (by simpa [kc_length] using O7.out.there) (by rw [known_info]; simp [kc_length]) (all_oneCell_toArray (kc_one (C p))) ?_
     change K' _ (World.setCells w7 q4 0 (kc (C p)))
     refine hK.out _ _ ⟨(O7.out.setR (C p)).row, (O7.out.setR (C p)).o8.cell 0, (O7.out.setR (C p)).o8.cell 1, (O7.out.setR (C p)).o8.cell 2, (O7.out.setR (C p)).o8.cell 3, (O7.out.setR (C p)).o9.cell 0, (O7.out.setR (C p)).o9.cell 1, (O7.out.setR (C p)).o9.cell 2, (O7.out.setR (C p)).o9.cell 3⟩ (fun hHeld => ?_)
     clear hK K'
     refine tkq 6 5 rfl (by kernel_rfl) (by rfl) hHeld (fun _ _ _ h => h) (by intro w' hSw; go_simp; try with_reducible rfl) ?_
     simp only [Act.put, spa, spb, spc]
     refine wpAnyH_done (by kernel_rfl) ?_ _
     go_wp2_with fail
     have OF := Lib.hid (O7.out.setR (C p))
     generalize w7.setCells q4 0 (kc (C p)) = wf at OF ⊢
     have LR := loadV_kn OF.out.res
     exact bodyPost_ret (v := .tuple #[kVal (C p), .int .i64 e1]) (results_cell_tmp Tryz.results55 rfl LR) rfl ⟨by rw [HF.out] <;> first | done | rfl, OF.out.b⟩
   · have HF := Lib.hid (show V = (C p, numsV [⟨ak, al, ah, am⟩, ⟨sk, sl, sh, sm⟩]) from by first | exact HV.out.symm | (rw [← HS9.out]; exact HV.out.symm) | (rw [← HTA.out]; exact HV.out.symm) | (rw [← HS9.out, ← HTA.out]; exact HV.out.symm))
     have i0 := O6.out.o6.c0
     have i1 := O6.out.o6.c1
     have i2 := O6.out.o6.c2
     have i3 := O6.out.o6.c3
     have i4 := O6.out.o6.c4
     go_upto_region 30 with fail
     clear i0 i1 i2 i3 i4
     have a0 := O6.out.o8.c0
     have a1 := O6.out.o8.c1
     have a2 := O6.out.o8.c2
     have a3 := O6.out.o8.c3
     have s0 := O6.out.o9.c0
     have s1 := O6.out.o9.c1
     have s2 := O6.out.o9.c2
     have s3 := O6.out.o9.c3
     have HN1 := Lib.hid (fun w A hs => nums_any w [⟨ak, al, ah, am⟩, ⟨sk, sl, sh, sm⟩] A 2 2 rfl (by decide) hs)
     obtain ⟨e1, he1⟩ : ∃ e1, numsV [⟨ak, al, ah, am⟩, ⟨sk, sl, sh, sm⟩] = e1 := ⟨_, rfl⟩
     rw [he1] at HN1 HF
     clear he1
     obtain ⟨wd, hwd⟩ : ∃ wd, w6.drew = wd := ⟨_, rfl⟩
     have OD := Lib.hid (hwd ▸ O6.out.drew)
     refine wp_region_held_drew (S := fun w' => (w'.rangeAt q7 0 (kc (C p)) ∧ w'.cell? ⟨q8, 0, none⟩ = some (.int .i64 ak) ∧ w'.cell? ⟨q8, 1, none⟩ = some (.int .u64 (uv al)) ∧ w'.cell? ⟨q8, 2, none⟩ = some (.int .u64 (uv ah)) ∧ w'.cell? ⟨q8, 3, none⟩ = some (.int .i64 am) ∧ w'.cell? ⟨q9, 0, none⟩ = some (.int .i64 sk) ∧ w'.cell? ⟨q9, 1, none⟩ = some (.int .u64 (uv sl)) ∧ w'.cell? ⟨q9, 2, none⟩ = some (.int .u64 (uv sh)) ∧ w'.cell? ⟨q9, 3, none⟩ = some (.int .i64 sm))) (by kernel_rfl) (by rw [hwd]; exact ⟨OD.out.row, OD.out.o8.cell 0, OD.out.o8.cell 1, OD.out.o8.cell 2, OD.out.o8.cell 3, OD.out.o9.cell 0, OD.out.o9.cell 1, OD.out.o9.cell 2, OD.out.o9.cell 3⟩) (fun hHeld => ?_)
     refine wpAnyH_take (i := 0) (oi := ⟨some 132, .load 136 (.tmp 7), _, _, _, none⟩) (v := .agg (kc (C p)).toArray) rfl (by kernel_rfl) (by kernel_rfl) (by kernel_rfl) (fun _ _ _ h => h) (yieldsIf_load_mid (by rfl) 136 (.tmp 7) rfl q7 (0) rfl (kc (C p)) (.array 8 134) (fun w' h => h.1) (by kernel_rfl) rfl (by rw [known_info, kc_length])) (by assumption) ?_
     simp only [Act.put, spa, spb, spc]
     refine tkq 1 133 rfl (by kernel_rfl) (by rfl) hHeld (fun _ _ _ h => h) (by intro w' hSw; go_simp; try with_reducible rfl) ?_
     simp only [Act.put, spa, spb, spc]
     refine tkq 2 134 rfl (by kernel_rfl) (by rfl) hHeld (fun _ _ _ h => h) (by intro w' hSw; go_simp; try with_reducible rfl) ?_
     simp only [Act.put, spa, spb, spc]
     refine rdq 3 ⟨some 135, _, _, _, _, _⟩ (by kernel_rfl) rfl (fun K' hK => ?_)
     go_simp
     refine hK.out _ _ ⟨(OD.out.alloc (.cells #[.int .i64 ak, .int .u64 (uv al), .int .u64 (uv ah), .int .i64 am, .int .i64 sk, .int .u64 (uv sl), .int .u64 (uv sh), .int .i64 sm] 134)).row, (OD.out.alloc (.cells #[.int .i64 ak, .int .u64 (uv al), .int .u64 (uv ah), .int .i64 am, .int .i64 sk, .int .u64 (uv sl), .int .u64 (uv sh), .int .i64 sm] 134)).o8.cell 0, (OD.out.alloc (.cells #[.int .i64 ak, .int .u64 (uv al), .int .u64 (uv ah), .int .i64 am, .int .i64 sk, .int .u64 (uv sl), .int .u64 (uv sh), .int .i64 sm] 134)).o8.cell 1, (OD.out.alloc (.cells #[.int .i64 ak, .int .u64 (uv al), .int .u64 (uv ah), .int .i64 am, .int .i64 sk, .int .u64 (uv sl), .int .u64 (uv sh), .int .i64 sm] 134)).o8.cell 2, (OD.out.alloc (.cells #[.int .i64 ak, .int .u64 (uv al), .int .u64 (uv ah), .int .i64 am, .int .i64 sk, .int .u64 (uv sl), .int .u64 (uv sh), .int .i64 sm] 134)).o8.cell 3, (OD.out.alloc (.cells #[.int .i64 ak, .int .u64 (uv al), .int .u64 (uv ah), .int .i64 am, .int .i64 sk, .int .u64 (uv sl), .int .u64 (uv sh), .int .i64 sm] 134)).o9.cell 0, (OD.out.alloc (.cells #[.int .i64 ak, .int .u64 (uv al), .int .u64 (uv ah), .int .i64 am, .int .i64 sk, .int .u64 (uv sl), .int .u64 (uv sh), .int .i64 sm] 134)).o9.cell 1, (OD.out.alloc (.cells #[.int .i64 ak, .int .u64 (uv al), .int .u64 (uv ah), .int .i64 am, .int .i64 sk, .int .u64 (uv sl), .int .u64 (uv sh), .int .i64 sm] 134)).o9.cell 2, (OD.out.alloc (.cells #[.int .i64 ak, .int .u64 (uv al), .int .u64 (uv ah), .int .i64 am, .int .i64 sk, .int .u64 (uv sl), .int .u64 (uv sh), .int .i64 sm] 134)).o9.cell 3⟩ (fun hHeld => ?_)
     clear hK K'
     refine rdq 4 ⟨some 136, _, _, _, _, _⟩ (by kernel_rfl) rfl (fun K' hK => ?_)
     go_simp
     refine (HN1.out _ _ (Sl.fresh wd #[.int .i64 ak, .int .u64 (uv al), .int .u64 (uv ah), .int .i64 am, .int .i64 sk, .int .u64 (uv sl), .int .u64 (uv sh), .int .i64 sm] 134 (0, 0))).mono ?_
     rintro e w7 ⟨rfl, b7⟩
     have O7 := Lib.hid ((OD.out.alloc (.cells #[.int .i64 ak, .int .u64 (uv al), .int .u64 (uv ah), .int .i64 am, .int .i64 sk, .int .u64 (uv sl), .int .u64 (uv sh), .int .i64 sm] 134)).below b7)
     clear b7
     dsimp only
     refine hK.out _ _ ⟨O7.out.row, O7.out.o8.cell 0, O7.out.o8.cell 1, O7.out.o8.cell 2, O7.out.o8.cell 3, O7.out.o9.cell 0, O7.out.o9.cell 1, O7.out.o9.cell 2, O7.out.o9.cell 3⟩ (fun hHeld => ?_)
     clear hK K'
     refine rdq 5 ⟨none, _, _, _, _, _⟩ (by kernel_rfl) rfl (fun K' hK => ?_)
     rw [if_pos (by rfl)]
     refine wp_store_mid 136 (.tmp 4) (.tmp 132) rfl q4 0 (kc (C p)).toArray rfl rfl (by simpa [kc_length] using O7.out.there) (by rw [known_info]; simp [kc_length]) (all_oneCell_toArray (kc_one (C p))) ?_
     change K' _ (World.setCells w7 q4 0 (kc (C p)))
     refine hK.out _ _ ⟨(O7.out.setR (C p)).row, (O7.out.setR (C p)).o8.cell 0, (O7.out.setR (C p)).o8.cell 1, (O7.out.setR (C p)).o8.cell 2, (O7.out.setR (C p)).o8.cell 3, (O7.out.setR (C p)).o9.cell 0, (O7.out.setR (C p)).o9.cell 1, (O7.out.setR (C p)).o9.cell 2, (O7.out.setR (C p)).o9.cell 3⟩ (fun hHeld => ?_)
     clear hK K'
     refine tkq 6 5 rfl (by kernel_rfl) (by rfl) hHeld (fun _ _ _ h => h) (by intro w' hSw; go_simp; try with_reducible rfl) ?_
     simp only [Act.put, spa, spb, spc]
     refine wpAnyH_done (by kernel_rfl) ?_ _
     go_wp2_with fail
     have OF := Lib.hid (O7.out.setR (C p))
     generalize w7.setCells q4 0 (kc (C p)) = wf at OF ⊢
     have LR := loadV_kn OF.out.res
     exact bodyPost_ret (v := .tuple #[kVal (C p), .int .i64 e1]) (results_cell_tmp Tryz.results55 rfl LR) rfl ⟨by rw [HF.out] <;> first | done | rfl, OF.out.b⟩
   · have HF := Lib.hid (show V = (C p, numsV [⟨ak, al, ah, am⟩, ⟨sk, sl, sh, sm⟩]) from by first | exact HV.out.symm | (rw [← HS9.out]; exact HV.out.symm) | (rw [← HTA.out]; exact HV.out.symm) | (rw [← HS9.out, ← HTA.out]; exact HV.out.symm))
     have i0 := O6.out.o6.c0
     have i1 := O6.out.o6.c1
     have i2 := O6.out.o6.c2
     have i3 := O6.out.o6.c3
     have i4 := O6.out.o6.c4
     go_upto_region 30 with fail
     clear i0 i1 i2 i3 i4
     have a0 := O6.out.o8.c0
     have a1 := O6.out.o8.c1
     have a2 := O6.out.o8.c2
     have a3 := O6.out.o8.c3
     have s0 := O6.out.o9.c0
     have s1 := O6.out.o9.c1
     have s2 := O6.out.o9.c2
     have s3 := O6.out.o9.c3
     have HN1 := Lib.hid (fun w A hs => nums_any w [⟨ak, al, ah, am⟩, ⟨sk, sl, sh, sm⟩] A 2 2 rfl (by decide) hs)
     obtain ⟨e1, he1⟩ : ∃ e1, numsV [⟨ak, al, ah, am⟩, ⟨sk, sl, sh, sm⟩] = e1 := ⟨_, rfl⟩
     rw [he1] at HN1 HF
     clear he1
     obtain ⟨wd, hwd⟩ : ∃ wd, w6.drew = wd := ⟨_, rfl⟩
     have OD := Lib.hid (hwd ▸ O6.out.drew)
     refine wp_region_held_drew (S := fun w' => (w'.rangeAt q7 0 (kc (C p)) ∧ w'.cell? ⟨q8, 0, none⟩ = some (.int .i64 ak) ∧ w'.cell? ⟨q8, 1, none⟩ = some (.int .u64 (uv al)) ∧ w'.cell? ⟨q8, 2, none⟩ = some (.int .u64 (uv ah)) ∧ w'.cell? ⟨q8, 3, none⟩ = some (.int .i64 am) ∧ w'.cell? ⟨q9, 0, none⟩ = some (.int .i64 sk) ∧ w'.cell? ⟨q9, 1, none⟩ = some (.int .u64 (uv sl)) ∧ w'.cell? ⟨q9, 2, none⟩ = some (.int .u64 (uv sh)) ∧ w'.cell? ⟨q9, 3, none⟩ = some (.int .i64 sm))) (by kernel_rfl) (by rw [hwd]; exact ⟨OD.out.row, OD.out.o8.cell 0, OD.out.o8.cell 1, OD.out.o8.cell 2, OD.out.o8.cell 3, OD.out.o9.cell 0, OD.out.o9.cell 1, OD.out.o9.cell 2, OD.out.o9.cell 3⟩) (fun hHeld => ?_)
     refine wpAnyH_take (i := 0) (oi := ⟨some 132, .load 136 (.tmp 7), _, _, _, none⟩) (v := .agg (kc (C p)).toArray) rfl (by kernel_rfl) (by kernel_rfl) (by kernel_rfl) (fun _ _ _ h => h) (yieldsIf_load_mid (by rfl) 136 (.tmp 7) rfl q7 (0) rfl (kc (C p)) (.array 8 134) (fun w' h => h.1) (by kernel_rfl) rfl (by rw [known_info, kc_length])) (by assumption) ?_
     simp only [Act.put, spa, spb, spc]
     refine tkq 1 133 rfl (by kernel_rfl) (by rfl) hHeld (fun _ _ _ h => h) (by intro w' hSw; go_simp; try with_reducible rfl) ?_
     simp only [Act.put, spa, spb, spc]
     refine tkq 2 134 rfl (by kernel_rfl) (by rfl) hHeld (fun _ _ _ h => h) (by intro w' hSw; go_simp; try with_reducible rfl) ?_
     simp only [Act.put, spa, spb, spc]
     refine rdq 3 ⟨some 135, _, _, _, _, _⟩ (by kernel_rfl) rfl (fun K' hK => ?_)
     go_simp
     refine hK.out _ _ ⟨(OD.out.alloc (.cells #[.int .i64 ak, .int .u64 (uv al), .int .u64 (uv ah), .int .i64 am, .int .i64 sk, .int .u64 (uv sl), .int .u64 (uv sh), .int .i64 sm] 134)).row, (OD.out.alloc (.cells #[.int .i64 ak, .int .u64 (uv al), .int .u64 (uv ah), .int .i64 am, .int .i64 sk, .int .u64 (uv sl), .int .u64 (uv sh), .int .i64 sm] 134)).o8.cell 0, (OD.out.alloc (.cells #[.int .i64 ak, .int .u64 (uv al), .int .u64 (uv ah), .int .i64 am, .int .i64 sk, .int .u64 (uv sl), .int .u64 (uv sh), .int .i64 sm] 134)).o8.cell 1, (OD.out.alloc (.cells #[.int .i64 ak, .int .u64 (uv al), .int .u64 (uv ah), .int .i64 am, .int .i64 sk, .int .u64 (uv sl), .int .u64 (uv sh), .int .i64 sm] 134)).o8.cell 2, (OD.out.alloc (.cells #[.int .i64 ak, .int .u64 (uv al), .int .u64 (uv ah), .int .i64 am, .int .i64 sk, .int .u64 (uv sl), .int .u64 (uv sh), .int .i64 sm] 134)).o8.cell 3, (OD.out.alloc (.cells #[.int .i64 ak, .int .u64 (uv al), .int .u64 (uv ah), .int .i64 am, .int .i64 sk, .int .u64 (uv sl), .int .u64 (uv sh), .int .i64 sm] 134)).o9.cell 0, (OD.out.alloc (.cells #[.int .i64 ak, .int .u64 (uv al), .int .u64 (uv ah), .int .i64 am, .int .i64 sk, .int .u64 (uv sl), .int .u64 (uv sh), .int .i64 sm] 134)).o9.cell 1, (OD.out.alloc (.cells #[.int .i64 ak, .int .u64 (uv al), .int .u64 (uv ah), .int .i64 am, .int .i64 sk, .int .u64 (uv sl), .int .u64 (uv sh), .int .i64 sm] 134)).o9.cell 2, (OD.out.alloc (.cells #[.int .i64 ak, .int .u64 (uv al), .int .u64 (uv ah), .int .i64 am, .int .i64 sk, .int .u64 (uv sl), .int .u64 (uv sh), .int .i64 sm] 134)).o9.cell 3⟩ (fun hHeld => ?_)
     clear hK K'
     refine rdq 4 ⟨some 136, _, _, _, _, _⟩ (by kernel_rfl) rfl (fun K' hK => ?_)
     go_simp
     refine (HN1.out _ _ (Sl.fresh wd #[.int .i64 ak, .int .u64 (uv al), .int .u64 (uv ah), .int .i64 am, .int .i64 sk, .int .u64 (uv sl), .int .u64 (uv sh), .int .i64 sm] 134 (0, 0))).mono ?_
     rintro e w7 ⟨rfl, b7⟩
     have O7 := Lib.hid ((OD.out.alloc (.cells #[.int .i64 ak, .int .u64 (uv al), .int .u64 (uv ah), .int .i64 am, .int .i64 sk, .int .u64 (uv sl), .int .u64 (uv sh), .int .i64 sm] 134)).below b7)
     clear b7
     dsimp only
     refine hK.out _ _ ⟨O7.out.row, O7.out.o8.cell 0, O7.out.o8.cell 1, O7.out.o8.cell 2, O7.out.o8.cell 3, O7.out.o9.cell 0, O7.out.o9.cell 1, O7.out.o9.cell 2, O7.out.o9.cell 3⟩ (fun hHeld => ?_)
     clear hK K'
     refine rdq 5 ⟨none, _, _, _, _, _⟩ (by kernel_rfl) rfl (fun K' hK => ?_)
     rw [if_pos (by rfl)]
     refine wp_store_mid 136 (.tmp 4) (.tmp 132) rfl q4 0 (kc (C p)).toArray rfl rfl (by simpa [kc_length] using O7.out.there) (by rw [known_info]; simp [kc_length]) (all_oneCell_toArray (kc_one (C p))) ?_
     change K' _ (World.setCells w7 q4 0 (kc (C p)))
     refine hK.out _ _ ⟨(O7.out.setR (C p)).row, (O7.out.setR (C p)).o8.cell 0, (O7.out.setR (C p)).o8.cell 1, (O7.out.setR (C p)).o8.cell 2, (O7.out.setR (C p)).o8.cell 3, (O7.out.setR (C p)).o9.cell 0, (O7.out.setR (C p)).o9.cell 1, (O7.out.setR (C p)).o9.cell 2, (O7.out.setR (C p)).o9.cell 3⟩ (fun hHeld => ?_)
     clear hK K'
     refine tkq 6 5 rfl (by kernel_rfl) (by rfl) hHeld (fun _ _ _ h => h) (by intro w' hSw; go_simp; try with_reducible rfl) ?_
     simp only [Act.put, spa, spb, spc]
     refine wpAnyH_done (by kernel_rfl) ?_ _
     go_wp2_with fail
     have OF := Lib.hid (O7.out.setR (C p))
     generalize w7.setCells q4 0 (kc (C p)) = wf at OF ⊢
     have LR := loadV_kn OF.out.res
     exact bodyPost_ret (v := .tuple #[kVal (C p), .int .i64 e1]) (results_cell_tmp Tryz.results55 rfl LR) rfl ⟨by rw [HF.out] <;> first | done | rfl, OF.out.b⟩
   · have HF := Lib.hid (show V = (C p, if numsV [⟨ak, al, ah, am⟩] = 0 then (if allFit (C p) (C (p - d.toNat)) = true then (0 : Int) else 33) else numsV [⟨ak, al, ah, am⟩]) from by rw [← HTA.out]; exact HV.out.symm)
     have HN1 := Lib.hid (fun w A hs => nums_any w [⟨ak, al, ah, am⟩] A 1 1 rfl (by decide) hs)
     obtain ⟨e1, he1⟩ : ∃ e1, numsV [⟨ak, al, ah, am⟩] = e1 := ⟨_, rfl⟩
     rw [he1] at HN1 HF
     clear he1
     have i0 := O6.out.o6.c0
     have i1 := O6.out.o6.c1
     have i2 := O6.out.o6.c2
     have i3 := O6.out.o6.c3
     have i4 := O6.out.o6.c4
     have a0 := O6.out.o8.c0
     have a1 := O6.out.o8.c1
     have a2 := O6.out.o8.c2
     have a3 := O6.out.o8.c3
     go_wp2_with fail
     refine (HN1.out _ _ (Sl.fresh w6 #[.int .i64 ak, .int .u64 (uv al), .int .u64 (uv ah), .int .i64 am] 134 (0, 0))).mono ?_
     rintro e w7 ⟨rfl, b7⟩
     have O7 := Lib.hid ((O6.out.alloc (.cells #[.int .i64 ak, .int .u64 (uv al), .int .u64 (uv ah), .int .i64 am] 134)).below b7)
     clear b7 O6 i0 i1 i2 i3 i4 a0 a1 a2 a3
     by_cases he1 : e1 = 0
     · subst he1
       replace HF := Lib.hid (show V = (C p, if allFit (C p) (C (p - d.toNat)) = true then (0 : Int) else 33) from HF.out.trans (by rw [if_pos rfl]))
       obtain ⟨dd, rfl⟩ : ∃ dd : Nat, d = dd := ⟨d.toNat, by have := HI.out.d0; dsimp only at this; omega⟩
       have hdp : dd ≤ p := by have := HB.out (by trivial); omega
       have hd1 : 1 ≤ dd := by have := (HI.out.l rfl).1; dsimp only at this; omega
       obtain ⟨hh, hhp⟩ : ∃ hh, p - dd = hh := ⟨_, rfl⟩
       have gsub : wrap64 ((p : Int) - (dd : Int)) = (hh : Int) := by have h1 := HP.out; have h2 := HM.out; unfold wrap64; omega
       have gsub2 : IntKind.i64.wrap ((p : Int) - (dd : Int)) = (hh : Int) := by have h1 := HP.out; have h2 := HM.out; rw [IntKind.wrap_i64]; omega
       have ghn : (hh : Int) < (n : Int) := by have h1 := HP.out; omega
       have gh0 : (0 : Int) ≤ (hh : Int) := by omega
       have HHN := Lib.hid (show hh < n by have h1 := HP.out; omega)
       rw [Int.toNat_natCast, hhp] at HF
       have HFIT := Lib.hid (fun w r => fits_any w (C p r) (C hh r))
       clear hdp hd1 hhp
       go_wp2_with fail
       go_loopw [146] (fun i wr => ∃ r : Nat, r ≤ 8 ∧ i = .int .i64 r ∧ (∀ x, x < r → fitsV (C p x) (C hh x) = true) ∧ OSt w wr q4 q6 q7 q8 q9 (fun _ => j0) (C p) ⟨20, dd, ra, b, m⟩ ⟨ak, al, ah, am⟩ ⟨sk, sl, sh, sm⟩) (fun i _ => 8 - (intOf i).toNat)
       case atStart => exact ⟨0, Nat.zero_le _, rfl, fun x hx => absurd hx (Nat.not_lt_zero _), O7.out⟩
       case round =>
        obtain ⟨r, hr, rfl, hfit, ho⟩ := hrel
        have HFT := Lib.hid hfit
        have OR := Lib.hid ho
        clear hfit ho O7
        by_cases hlt : r < 8
        · have g3 : (r : Int) < 8 := by omega
          have g4 : (0 : Int) ≤ (r : Int) := by omega
          have g5 : wrap64 ((r : Int) + 1) = (r : Int) + 1 := by unfold wrap64; omega
          have hg := kc_get (C p) hlt
          have hj := (HJ.out.below OR.out.b).reg HHN.out hlt
          obtain ⟨J, hJ⟩ : ∃ J, fitsV (C p r) (C hh r) = J := ⟨_, rfl⟩
          have HC1 := Lib.hid (fun w => HFIT.out w r)
          rw [hJ] at HC1
          have HJJ := Lib.hid hJ
          clear hJ
          obtain ⟨t1, ht1⟩ : ∃ t1, C p r = t1 := ⟨_, rfl⟩
          obtain ⟨t2, ht2⟩ : ∃ t2, C hh r = t2 := ⟨_, rfl⟩
          rw [ht1] at hg HC1
          rw [ht2] at hj HC1
          clear ht1 ht2
          obtain ⟨kk, kl, kh, km⟩ := t1
          obtain ⟨fk, fl, fh, fm⟩ := t2
          unfold jVal at HC1
          dsimp only at hg hj HC1
          have x0 := (OR.out.o7.cell _).trans hg.1
          have x1 := (OR.out.o7.cell _).trans hg.2.1
          have x2 := (OR.out.o7.cell _).trans hg.2.2.1
          have x3 := (OR.out.o7.cell _).trans hg.2.2.2
          obtain ⟨f0, f1, f2, f3⟩ := hj
          have y2 : wr.cell? ⟨g, 2, none⟩ = some (.slice (some ⟨gc, 0, none⟩) n nc) := (HJ.out.below OR.out.b).o.cell 2
          have i1 := OR.out.o6.c1
          clear hg
          go_upto_region 38 with fail
          have KS := Lib.hid (show ∀ w', Below wr.heap.size wr w' → (w'.cell? ⟨g, 2, none⟩ = some (.slice (some ⟨gc, 0, none⟩) n nc) ∧ w'.cell? ⟨q6, 1, none⟩ = some (.int .i64 (dd : Int)) ∧ w'.cell? ⟨q7, r * 4, none⟩ = some (.int .i64 kk) ∧ w'.cell? ⟨q7, r * 4 + 1, none⟩ = some (.int .u64 (uv kl)) ∧ w'.cell? ⟨q7, r * 4 + 2, none⟩ = some (.int .u64 (uv kh)) ∧ w'.cell? ⟨q7, r * 4 + 3, none⟩ = some (.int .i64 km) ∧ w'.cell? ⟨gc, hh * 32 + r * 4, none⟩ = some (.int .i64 fk) ∧ w'.cell? ⟨gc, hh * 32 + r * 4 + 1, none⟩ = some (.int .u64 (uv fl)) ∧ w'.cell? ⟨gc, hh * 32 + r * 4 + 2, none⟩ = some (.int .u64 (uv fh)) ∧ w'.cell? ⟨gc, hh * 32 + r * 4 + 3, none⟩ = some (.int .i64 fm)) from fun w' hb => ⟨keepS hb y2, keepS hb i1, keepS hb x0, keepS hb x1, keepS hb x2, keepS hb x3, keepS hb f0, keepS hb f1, keepS hb f2, keepS hb f3⟩)
          have BR := Lib.hid (below_drewN (Below.refl wr.heap.size wr) 1)
          refine wp_region_held_drew (S := fun w' => (w'.cell? ⟨g, 2, none⟩ = some (.slice (some ⟨gc, 0, none⟩) n nc) ∧ w'.cell? ⟨q6, 1, none⟩ = some (.int .i64 (dd : Int)) ∧ w'.cell? ⟨q7, r * 4, none⟩ = some (.int .i64 kk) ∧ w'.cell? ⟨q7, r * 4 + 1, none⟩ = some (.int .u64 (uv kl)) ∧ w'.cell? ⟨q7, r * 4 + 2, none⟩ = some (.int .u64 (uv kh)) ∧ w'.cell? ⟨q7, r * 4 + 3, none⟩ = some (.int .i64 km) ∧ w'.cell? ⟨gc, hh * 32 + r * 4, none⟩ = some (.int .i64 fk) ∧ w'.cell? ⟨gc, hh * 32 + r * 4 + 1, none⟩ = some (.int .u64 (uv fl)) ∧ w'.cell? ⟨gc, hh * 32 + r * 4 + 2, none⟩ = some (.int .u64 (uv fh)) ∧ w'.cell? ⟨gc, hh * 32 + r * 4 + 3, none⟩ = some (.int .i64 fm))) (by kernel_rfl) (KS.out _ BR.out) (fun hHeld => ?_)
          refine tkq 0 149 rfl (by kernel_rfl) (by rfl) hHeld (fun _ _ _ h => h) (by intro w' hSw; go_simp; try with_reducible rfl) ?_
          simp only [Act.put, spa, spb, spc]
          refine tkq 1 150 rfl (by kernel_rfl) (by rfl) hHeld (fun _ _ _ h => h) (by intro w' hSw; go_simp; try with_reducible rfl) ?_
          simp only [Act.put, spa, spb, spc]
          refine tkq 2 151 rfl (by kernel_rfl) (by rfl) hHeld (fun _ _ _ h => h) (by intro w' hSw; go_simp; try with_reducible rfl) ?_
          simp only [Act.put, spa, spb, spc]
          refine tkq 3 152 rfl (by kernel_rfl) (by rfl) hHeld (fun _ _ _ h => h) (by intro w' hSw; go_simp; try with_reducible rfl) ?_
          simp only [Act.put, spa, spb, spc]
          refine tkq 4 153 rfl (by kernel_rfl) (by rfl) hHeld (fun _ _ _ h => h) (by intro w' hSw; go_simp; try with_reducible rfl) ?_
          simp only [Act.put, spa, spb, spc]
          refine tkq 5 154 rfl (by kernel_rfl) (by rfl) hHeld (fun _ _ _ h => h) (by intro w' hSw; go_simp; try with_reducible rfl) ?_
          simp only [Act.put, spa, spb, spc]
          refine tkq 6 155 rfl (by kernel_rfl) (by rfl) hHeld (fun _ _ _ h => h) (by intro w' hSw; go_simp; try with_reducible rfl) ?_
          simp only [Act.put, spa, spb, spc]
          refine tkq 7 156 rfl (by kernel_rfl) (by rfl) hHeld (fun _ _ _ h => h) (by intro w' hSw; go_simp; try with_reducible rfl) ?_
          simp only [Act.put, spa, spb, spc]
          refine tkq 8 157 rfl (by kernel_rfl) (by rfl) hHeld (fun _ _ _ h => h) (by intro w' hSw; go_simp; try with_reducible rfl) ?_
          simp only [Act.put, spa, spb, spc]
          refine tkq 9 158 rfl (by kernel_rfl) (by rfl) hHeld (fun _ _ _ h => h) (by intro w' hSw; go_simp; try with_reducible rfl) ?_
          simp only [Act.put, spa, spb, spc]
          refine tkq 10 159 rfl (by kernel_rfl) (by rfl) hHeld (fun _ _ _ h => h) (by intro w' hSw; go_simp; try with_reducible rfl) ?_
          simp only [Act.put, spa, spb, spc]
          refine tkq 11 160 rfl (by kernel_rfl) (by rfl) hHeld (fun _ _ _ h => h) (by intro w' hSw; go_simp; try with_reducible rfl) ?_
          simp only [Act.put, spa, spb, spc]
          refine tkq 12 161 rfl (by kernel_rfl) (by rfl) hHeld (fun _ _ _ h => h) (by intro w' hSw; go_simp; try with_reducible rfl) ?_
          simp only [Act.put, spa, spb, spc]
          refine tkq 13 162 rfl (by kernel_rfl) (by rfl) hHeld (fun _ _ _ h => h) (by intro w' hSw; go_simp; try with_reducible rfl) ?_
          simp only [Act.put, spa, spb, spc]
          refine tkq 14 163 rfl (by kernel_rfl) (by rfl) hHeld (fun _ _ _ h => h) (by intro w' hSw; go_simp; try with_reducible rfl) ?_
          simp only [Act.put, spa, spb, spc]
          refine rdq 15 ⟨some 164, _, _, _, _, _⟩ (by kernel_rfl) rfl (fun K' hK => ?_)
          go_simp
          refine (HC1.out _).mono ?_
          rintro e wz ⟨rfl, bz⟩
          have BZ := Lib.hid (BR.out.trans (bz.mono BR.out.size))
          have OZ := Lib.hid (OR.out.below BZ.out)
          clear bz
          dsimp only
          refine hK.out _ _ (KS.out _ BZ.out) (fun hHeld => ?_)
          clear hK K'
          refine tkq 16 165 rfl (by kernel_rfl) (by rfl) hHeld (fun _ _ _ h => h) (by intro w' hSw; go_simp; try with_reducible rfl) ?_
          simp only [Act.put, spa, spb, spc]
          refine wpAnyH_done (by kernel_rfl) ?_ _
          clear hHeld KS BR OR x0 x1 x2 x3 f0 f1 f2 f3 y2 i1 HC1
          cases J
          · replace HF := Lib.hid (show V = (C p, (33 : Int)) from HF.out.trans (by rw [if_neg (fun h => by have h2 := List.all_eq_true.1 h r (List.mem_range.2 hlt); rw [HJJ.out] at h2; cases h2)]))
            have lk := Lib.hid OZ.out.row
            have th := Lib.hid OZ.out.there
            go_wp2_with (first | ((with_reducible refine wpList_load_mid ?_ 136 (.tmp 7) ?_ q7 (0) ?_ (kc (C p)) (.array 8 134) lk.out ?_ ?_ ?_ ?_); rfl; rfl; rfl; kernel_rfl; rfl; (rw [known_info, kc_length])) | ((with_reducible refine wpList_store_mid ?_ 136 (.tmp 4) (.tmp 166) ?_ q4 (0) (kc (C p)).toArray ?_ ?_ ?_ ?_ ?_ ?_); rfl; rfl; rfl; rfl; (exact th.out); (rw [known_info]; rfl); (exact all_oneCell_toArray (kc_one (C p)))))
            have OF := Lib.hid (OZ.out.setR (C p))
            generalize wz.setCells q4 0 (kc (C p)) = wf at OF ⊢
            have LR := loadV_kn OF.out.res
            exact bodyPost_ret (v := .tuple #[kVal (C p), .int .i64 33]) (results_cell_tmp Tryz.results55 rfl LR) rfl ⟨by rw [HF.out] <;> first | done | rfl, OF.out.b⟩
          go_wp2_with fail
          go_roundw
          case rel => exact ⟨r + 1, Nat.succ_le_of_lt hlt, by first | exact congrArg (Value.int .i64) (g5.trans (by push_cast; rfl)) | go_num, fun x hx => by
           rcases Nat.lt_or_ge x r with h | h
           · exact HFT.out x h
           obtain rfl : x = r := Nat.le_antisymm (Nat.le_of_lt_succ hx) h
           exact HJJ.out, OZ.out⟩
          case measure => first | exact Op.meas_lt hlt | (rw [g5]; exact Op.meas_lt hlt)
        obtain rfl : r = 8 := by omega
        replace HF := Lib.hid (show V = (C p, (0 : Int)) from HF.out.trans (by rw [if_pos (show allFit (C p) (C hh) = true from List.all_eq_true.2 fun x hx => HFT.out x (List.mem_range.1 hx))]))
        have lk := Lib.hid OR.out.row
        have th := Lib.hid OR.out.there
        go_wp2_with (first | ((with_reducible refine wpList_load_mid ?_ 136 (.tmp 7) ?_ q7 (0) ?_ (kc (C p)) (.array 8 134) lk.out ?_ ?_ ?_ ?_); rfl; rfl; rfl; kernel_rfl; rfl; (rw [known_info, kc_length])) | ((with_reducible refine wpList_store_mid ?_ 136 (.tmp 4) (.tmp 193) ?_ q4 (0) (kc (C p)).toArray ?_ ?_ ?_ ?_ ?_ ?_); rfl; rfl; rfl; rfl; (exact th.out); (rw [known_info]; rfl); (exact all_oneCell_toArray (kc_one (C p)))))
        have OF := Lib.hid (OR.out.setR (C p))
        generalize wr.setCells q4 0 (kc (C p)) = wf at OF ⊢
        have LR := loadV_kn OF.out.res
        exact bodyPost_ret (v := .tuple #[kVal (C p), .int .i64 0]) (results_cell_tmp Tryz.results55 rfl LR) rfl ⟨by rw [HF.out] <;> first | done | rfl, OF.out.b⟩
     replace HF := Lib.hid (show V = (C p, e1) from HF.out.trans (by rw [if_neg he1]))
     have hei : (e1 != 0) = true := by simpa using he1
     clear he1
     have lk := Lib.hid O7.out.row
     have th := Lib.hid O7.out.there
     go_wp2_with (first | ((with_reducible refine wpList_load_mid ?_ 136 (.tmp 7) ?_ q7 (0) ?_ (kc (C p)) (.array 8 134) lk.out ?_ ?_ ?_ ?_); rfl; rfl; rfl; kernel_rfl; rfl; (rw [known_info, kc_length])) | ((with_reducible refine wpList_store_mid ?_ 136 (.tmp 4) (.tmp 144) ?_ q4 (0) (kc (C p)).toArray ?_ ?_ ?_ ?_ ?_ ?_); rfl; rfl; rfl; rfl; (exact th.out); (rw [known_info]; rfl); (exact all_oneCell_toArray (kc_one (C p)))))
     have OF := Lib.hid (O7.out.setR (C p))
     generalize w7.setCells q4 0 (kc (C p)) = wf at OF ⊢
     have LR := loadV_kn OF.out.res
     exact bodyPost_ret (v := .tuple #[kVal (C p), .int .i64 e1]) (results_cell_tmp Tryz.results55 rfl LR) rfl ⟨by rw [HF.out] <;> first | done | rfl, OF.out.b⟩
   · have HF := Lib.hid (show V = (updT (C p) 0 (resT (Sg.hI m)), Sg.ckOf m ((callArgs (C p) m).map tyT)) from HV.out.symm)
     have E6 := Lib.hid (HE.out.below O6.out.b)
     obtain ⟨y, rfl⟩ : ∃ y : Nat, m = y := ⟨m.toNat, by have := (HI.out.c rfl).1; dsimp only at this; omega⟩
     have hy : y < 7 := by have := (HI.out.c rfl).2; dsimp only at this; omega
     have HAR := Lib.hid (Sg.args_any w6 (y : Int) E6.out.t)
     rw [Sg.hI_nat hy] at HAR HF
     have HLEN := Lib.hid (Sg.argsL_len y)
     have HCA := Lib.hid (show (callArgs (C p) (y : Int)).map tyT = (List.range (Sg.argsL y).length).map fun j => tyT (C p (1 + j)) by unfold callArgs; rw [Sg.hI_nat hy, List.map_map]; rfl)
     obtain ⟨nw, hnw⟩ : ∃ nw, (Sg.argsL y).length = nw := ⟨_, rfl⟩
     rw [hnw] at HAR HLEN HCA
     clear hnw
     have HYY := Lib.hid hy
     clear hy
     have i0 := O6.out.o6.c0
     have i1 := O6.out.o6.c1
     have i2 := O6.out.o6.c2
     have i3 := O6.out.o6.c3
     have i4 := O6.out.o6.c4
     go_wp2_with fail
     refine HAR.out.mono ?_
     rintro e w7 ⟨v, rfl, hown, b7⟩
     obtain ⟨Av, cv, hv, _, _, _, _⟩ := own_form hown
     subst hv
     have O7 := Lib.hid (O6.out.below b7)
     have E7 := Lib.hid (E6.out.below b7)
     clear b7 hown O6 E6 i0 i1 i2 i3 i4 HAR
     have ga1 : wrap64 (1 + (nw : Int)) = 1 + (nw : Int) := by have := HLEN.out; unfold wrap64; omega
     have ga2 : 1 + (nw : Int) ≤ 8 := by have := HLEN.out; omega
     have ga3 : (1 : Int) ≤ 1 + (nw : Int) := by omega
     have ga4 : (1 + (nw : Int)).toNat = 1 + nw := by omega
     go_wp2_with fail
     obtain ⟨e1, he1⟩ : ∃ e1, Sg.ckOf (y : Int) ((List.range nw).map fun j => tyT (C p (1 + j))) = e1 := ⟨_, rfl⟩
     have HCK := Lib.hid (Sg.check_any w7 (y : Int) ((List.range nw).map fun j => tyT (C p (1 + j))) (some ⟨q7, 4, none⟩) nw 7 (by simp) (by have := HLEN.out; omega) E7.out.t (call_sl O7.out.o7 HLEN.out))
     rw [he1] at HCK
     replace HF := Lib.hid (show V = (updT (C p) 0 (resT y), e1) from HF.out.trans (by rw [HCA.out, he1]))
     clear he1 ga1 ga2 ga3 ga4
     refine HCK.out.mono ?_
     rintro e w8 ⟨rfl, b8⟩
     have O8 := Lib.hid (O7.out.below b8)
     have E8 := Lib.hid (E7.out.below b8)
     clear b8 O7 E7 HCK
     have HRE := Lib.hid (Sg.result_any w8 (y : Int) E8.out.t)
     rw [Sg.hI_nat HYY.out, res_ty HYY.out] at HRE
     obtain ⟨rt, hrt⟩ : ∃ rt, resT y = rt := ⟨_, rfl⟩
     rw [hrt] at HRE HF
     clear hrt
     obtain ⟨rk, rl, rh, rm⟩ := rt
     unfold jVal at HRE
     dsimp only at HRE
     go_wp2_with fail
     refine HRE.out.mono ?_
     rintro e w9 ⟨rfl, b9⟩
     have O9 := Lib.hid (O8.out.below b9)
     clear b9 O8 E8 HRE
     have hg := kc_get (C p) (r := 0) (by decide)
     have r0 : w9.cell? ⟨q7, 0, none⟩ = some (.int .i64 (C p 0).k) := (O9.out.o7.cell 0).trans hg.1
     have r1 : w9.cell? ⟨q7, 1, none⟩ = some (.int .u64 (uv (C p 0).lo)) := (O9.out.o7.cell 1).trans hg.2.1
     have r2 : w9.cell? ⟨q7, 2, none⟩ = some (.int .u64 (uv (C p 0).hi)) := (O9.out.o7.cell 2).trans hg.2.2.1
     have r3 : w9.cell? ⟨q7, 3, none⟩ = some (.int .i64 (C p 0).m) := (O9.out.o7.cell 3).trans hg.2.2.2
     have rz := O9.out.o7.frozen
     clear hg
     go_upto_region 45 with fail
     clear r0 r1 r2 r3 rz
     have O10 := Lib.hid (O9.out.setK (r := 0) (by decide) ⟨rk, rl, rh, rm⟩)
     unfold set4 at O10
     dsimp only at O10
     simp only [Nat.zero_mul, Nat.zero_add] at O10
     generalize ((((w9.setCell ⟨q7, 0, none⟩ (.int .i64 rk)).setCell ⟨q7, 1, none⟩ (.int .u64 (uv rl))).setCell ⟨q7, 2, none⟩ (.int .u64 (uv rh))).setCell ⟨q7, 3, none⟩ (.int .i64 rm)) = w10 at O10 ⊢
     have lk := Lib.hid O10.out.row
     have th := Lib.hid O10.out.there
     go_wp2_with (first | ((with_reducible refine wpList_load_mid ?_ 136 (.tmp 7) ?_ q7 (0) ?_ (kc (updT (C p) 0 ⟨rk, rl, rh, rm⟩)) (.array 8 134) lk.out ?_ ?_ ?_ ?_); rfl; rfl; rfl; kernel_rfl; rfl; (rw [known_info, kc_length])) | ((with_reducible refine wpList_store_mid ?_ 136 (.tmp 4) (.tmp 185) ?_ q4 (0) (kc (updT (C p) 0 ⟨rk, rl, rh, rm⟩)).toArray ?_ ?_ ?_ ?_ ?_ ?_); rfl; rfl; rfl; rfl; (exact th.out); (rw [known_info]; rfl); (exact all_oneCell_toArray (kc_one (updT (C p) 0 ⟨rk, rl, rh, rm⟩)))))
     have OF := Lib.hid (O10.out.setR (updT (C p) 0 ⟨rk, rl, rh, rm⟩))
     generalize w10.setCells q4 0 (kc (updT (C p) 0 ⟨rk, rl, rh, rm⟩)) = wf at OF ⊢
     have LR := loadV_kn OF.out.res
     exact bodyPost_ret (v := .tuple #[kVal (updT (C p) 0 ⟨rk, rl, rh, rm⟩), .int .i64 e1]) (results_cell_tmp Tryz.results55 rfl LR) rfl ⟨by rw [HF.out] <;> first | done | rfl, OF.out.b⟩
   · have HF := Lib.hid (show V = (C p, numsV [⟨ak, al, ah, am⟩]) from by first | exact HV.out.symm | (rw [← HS9.out]; exact HV.out.symm) | (rw [← HTA.out]; exact HV.out.symm) | (rw [← HS9.out, ← HTA.out]; exact HV.out.symm))
     have i0 := O6.out.o6.c0
     have i1 := O6.out.o6.c1
     have i2 := O6.out.o6.c2
     have i3 := O6.out.o6.c3
     have i4 := O6.out.o6.c4
     go_upto_region 47 with fail
     clear i0 i1 i2 i3 i4
     have a0 := O6.out.o8.c0
     have a1 := O6.out.o8.c1
     have a2 := O6.out.o8.c2
     have a3 := O6.out.o8.c3
     have HN1 := Lib.hid (fun w A hs => nums_any w [⟨ak, al, ah, am⟩] A 1 1 rfl (by decide) hs)
     obtain ⟨e1, he1⟩ : ∃ e1, numsV [⟨ak, al, ah, am⟩] = e1 := ⟨_, rfl⟩
     rw [he1] at HN1 HF
     clear he1
     obtain ⟨wd, hwd⟩ : ∃ wd, w6.drew = wd := ⟨_, rfl⟩
     have OD := Lib.hid (hwd ▸ O6.out.drew)
     refine wp_region_held_drew (S := fun w' => (w'.rangeAt q7 0 (kc (C p)) ∧ w'.cell? ⟨q8, 0, none⟩ = some (.int .i64 ak) ∧ w'.cell? ⟨q8, 1, none⟩ = some (.int .u64 (uv al)) ∧ w'.cell? ⟨q8, 2, none⟩ = some (.int .u64 (uv ah)) ∧ w'.cell? ⟨q8, 3, none⟩ = some (.int .i64 am))) (by kernel_rfl) (by rw [hwd]; exact ⟨OD.out.row, OD.out.o8.cell 0, OD.out.o8.cell 1, OD.out.o8.cell 2, OD.out.o8.cell 3⟩) (fun hHeld => ?_)
     refine wpAnyH_take (i := 0) (oi := ⟨some 189, .load 136 (.tmp 7), _, _, _, none⟩) (v := .agg (kc (C p)).toArray) rfl (by kernel_rfl) (by kernel_rfl) (by kernel_rfl) (fun _ _ _ h => h) (yieldsIf_load_mid (by rfl) 136 (.tmp 7) rfl q7 (0) rfl (kc (C p)) (.array 8 134) (fun w' h => h.1) (by kernel_rfl) rfl (by rw [known_info, kc_length])) (by assumption) ?_
     simp only [Act.put, spa, spb, spc]
     refine tkq 1 190 rfl (by kernel_rfl) (by rfl) hHeld (fun _ _ _ h => h) (by intro w' hSw; go_simp; try with_reducible rfl) ?_
     simp only [Act.put, spa, spb, spc]
     refine rdq 2 ⟨some 191, _, _, _, _, _⟩ (by kernel_rfl) rfl (fun K' hK => ?_)
     go_simp
     refine hK.out _ _ ⟨(OD.out.alloc (.cells #[.int .i64 ak, .int .u64 (uv al), .int .u64 (uv ah), .int .i64 am] 134)).row, (OD.out.alloc (.cells #[.int .i64 ak, .int .u64 (uv al), .int .u64 (uv ah), .int .i64 am] 134)).o8.cell 0, (OD.out.alloc (.cells #[.int .i64 ak, .int .u64 (uv al), .int .u64 (uv ah), .int .i64 am] 134)).o8.cell 1, (OD.out.alloc (.cells #[.int .i64 ak, .int .u64 (uv al), .int .u64 (uv ah), .int .i64 am] 134)).o8.cell 2, (OD.out.alloc (.cells #[.int .i64 ak, .int .u64 (uv al), .int .u64 (uv ah), .int .i64 am] 134)).o8.cell 3⟩ (fun hHeld => ?_)
     clear hK K'
     refine rdq 3 ⟨some 192, _, _, _, _, _⟩ (by kernel_rfl) rfl (fun K' hK => ?_)
     go_simp
     refine (HN1.out _ _ (Sl.fresh wd #[.int .i64 ak, .int .u64 (uv al), .int .u64 (uv ah), .int .i64 am] 134 (0, 0))).mono ?_
     rintro e w7 ⟨rfl, b7⟩
     have O7 := Lib.hid ((OD.out.alloc (.cells #[.int .i64 ak, .int .u64 (uv al), .int .u64 (uv ah), .int .i64 am] 134)).below b7)
     clear b7
     dsimp only
     refine hK.out _ _ ⟨O7.out.row, O7.out.o8.cell 0, O7.out.o8.cell 1, O7.out.o8.cell 2, O7.out.o8.cell 3⟩ (fun hHeld => ?_)
     clear hK K'
     refine rdq 4 ⟨none, _, _, _, _, _⟩ (by kernel_rfl) rfl (fun K' hK => ?_)
     rw [if_pos (by rfl)]
     refine wp_store_mid 136 (.tmp 4) (.tmp 189) rfl q4 0 (kc (C p)).toArray rfl rfl (by simpa [kc_length] using O7.out.there) (by rw [known_info]; simp [kc_length]) (all_oneCell_toArray (kc_one (C p))) ?_
     change K' _ (World.setCells w7 q4 0 (kc (C p)))
     refine hK.out _ _ ⟨(O7.out.setR (C p)).row, (O7.out.setR (C p)).o8.cell 0, (O7.out.setR (C p)).o8.cell 1, (O7.out.setR (C p)).o8.cell 2, (O7.out.setR (C p)).o8.cell 3⟩ (fun hHeld => ?_)
     clear hK K'
     refine tkq 5 5 rfl (by kernel_rfl) (by rfl) hHeld (fun _ _ _ h => h) (by intro w' hSw; go_simp; try with_reducible rfl) ?_
     simp only [Act.put, spa, spb, spc]
     refine wpAnyH_done (by kernel_rfl) ?_ _
     go_wp2_with fail
     have OF := Lib.hid (O7.out.setR (C p))
     generalize w7.setCells q4 0 (kc (C p)) = wf at OF ⊢
     have LR := loadV_kn OF.out.res
     exact bodyPost_ret (v := .tuple #[kVal (C p), .int .i64 e1]) (results_cell_tmp Tryz.results55 rfl LR) rfl ⟨by rw [HF.out] <;> first | done | rfl, OF.out.b⟩
   obtain ⟨rd, rfl⟩ : ∃ rd : Nat, d = rd := ⟨d.toNat, by have := HI.out.d0; dsimp only at this; omega⟩
   have hrd : rd < 8 := by have := HI.out.d8 (by first | decide | (dsimp only; omega)); dsimp only at this; omega
   have HRD := Lib.hid hrd
   have g3 : (rd : Int) < 8 := by omega
   have g4 : (0 : Int) ≤ (rd : Int) := by omega
   clear hrd
   have HF := Lib.hid (show V = (updT (C p) rd (numT (Sp.dosR op al ah sl sh).1 (Sp.dosR op al ah sl sh).2), numsV [⟨ak, al, ah, am⟩, ⟨sk, sl, sh, sm⟩]) from HV.out.symm.trans (by
    unfold oneV
    rw [HS9.out]
    dsimp only
    rw [Int.toNat_natCast, Int.toNat_natCast, HTA.out]
    rw [if_neg (by omega), if_neg (by omega), if_neg (by omega), if_neg (by omega), if_neg (by omega), if_neg (by omega), if_neg (by omega), if_neg (by omega), if_neg (by omega), if_neg (by omega), if_neg (by omega), if_neg (by omega), if_neg (by omega)]))
   have n0 : (op == 0) = false := by rw [beq_eq_false_iff_ne]; omega
   have n11 : (op == 11) = false := by rw [beq_eq_false_iff_ne]; omega
   have n12 : (op == 12) = false := by rw [beq_eq_false_iff_ne]; omega
   have n13 : (op == 13) = false := by rw [beq_eq_false_iff_ne]; omega
   have n14 : (op == 14) = false := by rw [beq_eq_false_iff_ne]; omega
   have n15 : (op == 15) = false := by rw [beq_eq_false_iff_ne]; omega
   have n16 : (op == 16) = false := by rw [beq_eq_false_iff_ne]; omega
   have n17 : (op == 17) = false := by rw [beq_eq_false_iff_ne]; omega
   have n18 : (op == 18) = false := by rw [beq_eq_false_iff_ne]; omega
   have n19 : (op == 19) = false := by rw [beq_eq_false_iff_ne]; omega
   have n20 : (op == 20) = false := by rw [beq_eq_false_iff_ne]; omega
   have n21 : (op == 21) = false := by rw [beq_eq_false_iff_ne]; omega
   have n22 : (op == 22) = false := by rw [beq_eq_false_iff_ne]; omega
   have HDO := Lib.hid (fun w => Sp.sdo_any op w al ah sl sh)
   obtain ⟨D, hD⟩ : ∃ D, Sp.dosR op al ah sl sh = D := ⟨_, rfl⟩
   rw [hD] at HDO HF
   clear hD
   obtain ⟨dl, dh⟩ := D
   unfold Sp.spVal at HDO
   dsimp only at HDO HF
   clear hop
   have i0 := O6.out.o6.c0
   have i1 := O6.out.o6.c1
   have i2 := O6.out.o6.c2
   have i3 := O6.out.o6.c3
   have i4 := O6.out.o6.c4
   have a0 := O6.out.o8.c0
   have a1 := O6.out.o8.c1
   have a2 := O6.out.o8.c2
   have a3 := O6.out.o8.c3
   have s0 := O6.out.o9.c0
   have s1 := O6.out.o9.c1
   have s2 := O6.out.o9.c2
   have s3 := O6.out.o9.c3
   go_wp2_with fail
   refine (HDO.out w6).mono ?_
   rintro e w7 ⟨rfl, b7⟩
   have O7 := Lib.hid (O6.out.below b7)
   clear b7 O6 i0 i1 i2 i3 i4 a0 a1 a2 a3 s0 s1 s2 s3
   go_upto_region 8 with fail
   have S14 := Lib.hid (Ob.fresh w7 132 [.int .u64 (uv dl), .int .u64 (uv dh)])
   have O8 := Lib.hid (O7.out.alloc (.cells #[.int .u64 (uv dl), .int .u64 (uv dh)] 132))
   clear O7
   generalize w7.alloc (.cells #[.int .u64 (uv dl), .int .u64 (uv dh)] 132) = w8 at S14 O8 ⊢
   obtain ⟨q14, hq14⟩ : ∃ q14, w7.heap.size = q14 := ⟨_, rfl⟩
   rw [hq14] at S14 ⊢
   clear hq14
   have HNU := Lib.hid (fun w lo hi => number_any w lo hi)
   obtain ⟨wd, hwd⟩ : ∃ wd, w8.drew = wd := ⟨_, rfl⟩
   have OD := Lib.hid (hwd ▸ O8.out.drew)
   have SD := Lib.hid (hwd ▸ S14.out.drew)
   refine wp_region_held_drew (S := fun w' => (w'.cell? ⟨q6, 1, none⟩ = some (.int .i64 (rd : Int)) ∧ w'.cell? ⟨q14, 0, none⟩ = some (.int .u64 (uv dl)) ∧ w'.cell? ⟨q14, 1, none⟩ = some (.int .u64 (uv dh)))) (by kernel_rfl) (by rw [hwd]; exact ⟨OD.out.o6.cell 1, SD.out.cell 0, SD.out.cell 1⟩) (fun hHeld => ?_)
   refine tkq 0 54 rfl (by kernel_rfl) (by rfl) hHeld (fun _ _ _ h => h) (by intro w' hSw; go_simp; try with_reducible rfl) ?_
   simp only [Act.put, spa, spb, spc]
   refine tkq 1 55 rfl (by kernel_rfl) (by rfl) hHeld (fun _ _ _ h => h) (by intro w' hSw; go_simp; try with_reducible rfl) ?_
   simp only [Act.put, spa, spb, spc]
   refine tkq 2 56 rfl (by kernel_rfl) (by rfl) hHeld (fun _ _ _ h => h) (by intro w' hSw; go_simp; try with_reducible rfl) ?_
   simp only [Act.put, spa, spb, spc]
   refine rdq 3 ⟨some 57, _, _, _, _, _⟩ (by kernel_rfl) rfl (fun K' hK => ?_)
   go_simp
   refine (HNU.out _ dl dh).mono ?_
   rintro e wz ⟨rfl, bz⟩
   have OZ := Lib.hid (OD.out.below bz)
   have SZ := Lib.hid (SD.out.below bz SD.out.lt)
   clear bz
   dsimp only [jVal, numT]
   refine hK.out _ _ ⟨OZ.out.o6.cell 1, SZ.out.cell 0, SZ.out.cell 1⟩ (fun hHeld => ?_)
   clear hK K'
   refine tkq 4 58 rfl (by kernel_rfl) (by rfl) hHeld (fun _ _ _ h => h) (by intro w' hSw; go_simp; try with_reducible rfl) ?_
   simp only [Act.put, spa, spb, spc]
   refine rdq 5 ⟨none, _, _, _, _, _⟩ (by kernel_rfl) rfl (fun K' hK => ?_)
   have hg := kc_get (C p) HRD.out
   have r0 : wz.cell? ⟨q7, rd * 4, none⟩ = some (.int .i64 ((C p) rd).k) := (OZ.out.o7.cell _).trans hg.1
   have r1 : wz.cell? ⟨q7, rd * 4 + 1, none⟩ = some (.int .u64 (uv ((C p) rd).lo)) := (OZ.out.o7.cell _).trans hg.2.1
   have r2 : wz.cell? ⟨q7, rd * 4 + 2, none⟩ = some (.int .u64 (uv ((C p) rd).hi)) := (OZ.out.o7.cell _).trans hg.2.2.1
   have r3 : wz.cell? ⟨q7, rd * 4 + 3, none⟩ = some (.int .i64 ((C p) rd).m) := (OZ.out.o7.cell _).trans hg.2.2.2
   have rz := OZ.out.o7.frozen
   clear hg
   go_simp
   have OY := Lib.hid (OZ.out.setK HRD.out (numT dl dh))
   have SY := Lib.hid (far4 SZ.out (SZ.out.ne_ OZ.out.o7 (by decide)) (rd * 4) (numT dl dh))
   unfold set4 at OY SY
   simp only [numT] at OY SY
   refine hK.out _ _ ⟨OY.out.o6.cell 1, SY.out.cell 0, SY.out.cell 1⟩ (fun hHeld => ?_)
   clear hK K'
   clear hHeld r0 r1 r2 r3 rz SY
   refine wpAnyH_done (by kernel_rfl) ?_ _
   generalize ((((wz.setCell ⟨q7, rd * 4, none⟩ (.int .i64 1)).setCell ⟨q7, rd * 4 + 1, none⟩ (.int .u64 (uv dl))).setCell ⟨q7, rd * 4 + 2, none⟩ (.int .u64 (uv dh))).setCell ⟨q7, rd * 4 + 3, none⟩ (.int .i64 0)) = w10 at OY ⊢
   clear OZ OD hwd HNU SZ SD S14 O8
   have O10 := Lib.hid (show OSt w w10 q4 q6 q7 q8 q9 _ (updT (C p) rd (numT dl dh)) _ _ _ from OY.out)
   have a0 := O10.out.o8.c0
   have a1 := O10.out.o8.c1
   have a2 := O10.out.o8.c2
   have a3 := O10.out.o8.c3
   have s0 := O10.out.o9.c0
   have s1 := O10.out.o9.c1
   have s2 := O10.out.o9.c2
   have s3 := O10.out.o9.c3
   go_upto_region 9 with fail
   have HN1 := Lib.hid (fun w A hs => nums_any w [⟨ak, al, ah, am⟩, ⟨sk, sl, sh, sm⟩] A 2 2 rfl (by decide) hs)
   obtain ⟨e1, he1⟩ : ∃ e1, numsV [⟨ak, al, ah, am⟩, ⟨sk, sl, sh, sm⟩] = e1 := ⟨_, rfl⟩
   rw [he1] at HN1 HF
   clear he1
   obtain ⟨wd, hwd⟩ : ∃ wd, w10.drew = wd := ⟨_, rfl⟩
   have OD := Lib.hid (hwd ▸ O10.out.drew)
   refine wp_region_held_drew (S := fun w' => (w'.rangeAt q7 0 (kc (updT (C p) rd (numT dl dh))) ∧ w'.cell? ⟨q8, 0, none⟩ = some (.int .i64 ak) ∧ w'.cell? ⟨q8, 1, none⟩ = some (.int .u64 (uv al)) ∧ w'.cell? ⟨q8, 2, none⟩ = some (.int .u64 (uv ah)) ∧ w'.cell? ⟨q8, 3, none⟩ = some (.int .i64 am) ∧ w'.cell? ⟨q9, 0, none⟩ = some (.int .i64 sk) ∧ w'.cell? ⟨q9, 1, none⟩ = some (.int .u64 (uv sl)) ∧ w'.cell? ⟨q9, 2, none⟩ = some (.int .u64 (uv sh)) ∧ w'.cell? ⟨q9, 3, none⟩ = some (.int .i64 sm))) (by kernel_rfl) (by rw [hwd]; exact ⟨OD.out.row, OD.out.o8.cell 0, OD.out.o8.cell 1, OD.out.o8.cell 2, OD.out.o8.cell 3, OD.out.o9.cell 0, OD.out.o9.cell 1, OD.out.o9.cell 2, OD.out.o9.cell 3⟩) (fun hHeld => ?_)
   refine wpAnyH_take (i := 0) (oi := ⟨some 59, .load 136 (.tmp 7), _, _, _, none⟩) (v := .agg (kc (updT (C p) rd (numT dl dh))).toArray) rfl (by kernel_rfl) (by kernel_rfl) (by kernel_rfl) (fun _ _ _ h => h) (yieldsIf_load_mid (by rfl) 136 (.tmp 7) rfl q7 (0) rfl (kc (updT (C p) rd (numT dl dh))) (.array 8 134) (fun w' h => h.1) (by kernel_rfl) rfl (by rw [known_info, kc_length])) (by assumption) ?_
   simp only [Act.put, spa, spb, spc]
   refine tkq 1 60 rfl (by kernel_rfl) (by rfl) hHeld (fun _ _ _ h => h) (by intro w' hSw; go_simp; try with_reducible rfl) ?_
   simp only [Act.put, spa, spb, spc]
   refine tkq 2 61 rfl (by kernel_rfl) (by rfl) hHeld (fun _ _ _ h => h) (by intro w' hSw; go_simp; try with_reducible rfl) ?_
   simp only [Act.put, spa, spb, spc]
   refine rdq 3 ⟨some 62, _, _, _, _, _⟩ (by kernel_rfl) rfl (fun K' hK => ?_)
   go_simp
   refine hK.out _ _ ⟨(OD.out.alloc (.cells #[.int .i64 ak, .int .u64 (uv al), .int .u64 (uv ah), .int .i64 am, .int .i64 sk, .int .u64 (uv sl), .int .u64 (uv sh), .int .i64 sm] 134)).row, (OD.out.alloc (.cells #[.int .i64 ak, .int .u64 (uv al), .int .u64 (uv ah), .int .i64 am, .int .i64 sk, .int .u64 (uv sl), .int .u64 (uv sh), .int .i64 sm] 134)).o8.cell 0, (OD.out.alloc (.cells #[.int .i64 ak, .int .u64 (uv al), .int .u64 (uv ah), .int .i64 am, .int .i64 sk, .int .u64 (uv sl), .int .u64 (uv sh), .int .i64 sm] 134)).o8.cell 1, (OD.out.alloc (.cells #[.int .i64 ak, .int .u64 (uv al), .int .u64 (uv ah), .int .i64 am, .int .i64 sk, .int .u64 (uv sl), .int .u64 (uv sh), .int .i64 sm] 134)).o8.cell 2, (OD.out.alloc (.cells #[.int .i64 ak, .int .u64 (uv al), .int .u64 (uv ah), .int .i64 am, .int .i64 sk, .int .u64 (uv sl), .int .u64 (uv sh), .int .i64 sm] 134)).o8.cell 3, (OD.out.alloc (.cells #[.int .i64 ak, .int .u64 (uv al), .int .u64 (uv ah), .int .i64 am, .int .i64 sk, .int .u64 (uv sl), .int .u64 (uv sh), .int .i64 sm] 134)).o9.cell 0, (OD.out.alloc (.cells #[.int .i64 ak, .int .u64 (uv al), .int .u64 (uv ah), .int .i64 am, .int .i64 sk, .int .u64 (uv sl), .int .u64 (uv sh), .int .i64 sm] 134)).o9.cell 1, (OD.out.alloc (.cells #[.int .i64 ak, .int .u64 (uv al), .int .u64 (uv ah), .int .i64 am, .int .i64 sk, .int .u64 (uv sl), .int .u64 (uv sh), .int .i64 sm] 134)).o9.cell 2, (OD.out.alloc (.cells #[.int .i64 ak, .int .u64 (uv al), .int .u64 (uv ah), .int .i64 am, .int .i64 sk, .int .u64 (uv sl), .int .u64 (uv sh), .int .i64 sm] 134)).o9.cell 3⟩ (fun hHeld => ?_)
   clear hK K'
   refine rdq 4 ⟨some 63, _, _, _, _, _⟩ (by kernel_rfl) rfl (fun K' hK => ?_)
   go_simp
   refine (HN1.out _ _ (Sl.fresh wd #[.int .i64 ak, .int .u64 (uv al), .int .u64 (uv ah), .int .i64 am, .int .i64 sk, .int .u64 (uv sl), .int .u64 (uv sh), .int .i64 sm] 134 (0, 0))).mono ?_
   rintro e w7 ⟨rfl, b7⟩
   have O7 := Lib.hid ((OD.out.alloc (.cells #[.int .i64 ak, .int .u64 (uv al), .int .u64 (uv ah), .int .i64 am, .int .i64 sk, .int .u64 (uv sl), .int .u64 (uv sh), .int .i64 sm] 134)).below b7)
   clear b7
   dsimp only
   refine hK.out _ _ ⟨O7.out.row, O7.out.o8.cell 0, O7.out.o8.cell 1, O7.out.o8.cell 2, O7.out.o8.cell 3, O7.out.o9.cell 0, O7.out.o9.cell 1, O7.out.o9.cell 2, O7.out.o9.cell 3⟩ (fun hHeld => ?_)
   clear hK K'
   refine rdq 5 ⟨none, _, _, _, _, _⟩ (by kernel_rfl) rfl (fun K' hK => ?_)
   rw [if_pos (by rfl)]
   refine wp_store_mid 136 (.tmp 4) (.tmp 59) rfl q4 0 (kc (updT (C p) rd (numT dl dh))).toArray rfl rfl (by simpa [kc_length] using O7.out.there) (by rw [known_info]; simp [kc_length]) (all_oneCell_toArray (kc_one (updT (C p) rd (numT dl dh)))) ?_
   change K' _ (World.setCells w7 q4 0 (kc (updT (C p) rd (numT dl dh))))
   refine hK.out _ _ ⟨(O7.out.setR (updT (C p) rd (numT dl dh))).row, (O7.out.setR (updT (C p) rd (numT dl dh))).o8.cell 0, (O7.out.setR (updT (C p) rd (numT dl dh))).o8.cell 1, (O7.out.setR (updT (C p) rd (numT dl dh))).o8.cell 2, (O7.out.setR (updT (C p) rd (numT dl dh))).o8.cell 3, (O7.out.setR (updT (C p) rd (numT dl dh))).o9.cell 0, (O7.out.setR (updT (C p) rd (numT dl dh))).o9.cell 1, (O7.out.setR (updT (C p) rd (numT dl dh))).o9.cell 2, (O7.out.setR (updT (C p) rd (numT dl dh))).o9.cell 3⟩ (fun hHeld => ?_)
   clear hK K'
   refine tkq 6 5 rfl (by kernel_rfl) (by rfl) hHeld (fun _ _ _ h => h) (by intro w' hSw; go_simp; try with_reducible rfl) ?_
   simp only [Act.put, spa, spb, spc]
   refine wpAnyH_done (by kernel_rfl) ?_ _
   go_wp2_with fail
   have OF := Lib.hid (O7.out.setR (updT (C p) rd (numT dl dh)))
   generalize w7.setCells q4 0 (kc (updT (C p) rd (numT dl dh))) = wf at OF ⊢
   have LR := loadV_kn OF.out.res
   exact bodyPost_ret (v := .tuple #[kVal (updT (C p) rd (numT dl dh)), .int .i64 e1]) (results_cell_tmp Tryz.results55 rfl LR) rfl ⟨by rw [HF.out] <;> first | done | rfl, OF.out.b⟩

end Go.Proofs.YtikkmkomlajnfaaGreatDoor.Jd
end
