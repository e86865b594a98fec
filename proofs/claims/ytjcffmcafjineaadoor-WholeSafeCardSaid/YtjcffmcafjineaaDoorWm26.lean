/-
  The law's own machine: what an operation makes of two numbers, conditions, sources, answers, marks. Conditions: those of each theorem.
  The law's own machine goes on behind a call; a module in new memory. Conditions: those of each theorem.
-/
import Derived.Test.YtjcffmcafjineaaDoorWm01
import Derived.Test.YtjcffmcafjineaaDoorWm25
set_option linter.unusedVariables false
set_option linter.unusedSimpArgs false
section
namespace Go.Proofs.YtjcffmcafjineaaDoor.Tp
open Go.RowKit
open Go.Proofs.YtjcffmcafjineaaDoor.Op (InstV insc insVal inss ins0 ins_at rightV right_is RightI)
open Go.Proofs.YtjcffmcafjineaaDoor.En (StV rg rg_length rg_get rg_set rg_ext updI ActV acc acVal ac0 ofI wrapu srcU runS runD stepS stepA callS callA okI okC keepS tch_fresh sl_tch cell_tch ints int_at act_load runD_le runS_pc ansS valU ResOk val_uv)
open Go.Proofs.YtjcffmcafjineaaDoor.Sg (ResV rec_ reVal vlOf)

section
attribute [local go_sem] uv_nonneg uv_wrap uv_add uv_sub uv_mul uv_add1 uv_sub1 uv_and uv_or uv_xor uv_andNot uv_and1 uv_not uv_notMax u64_signed uv_shr uv_shr1 uv_shl uv_shr63 uv_shl1 uv_1shl uv_tdiv uv_tdiv2 uv_tmod uv_shlMin uv_shrMin uv_div uv_mod
theorem ret_w {a b : Int} (h : a = b) : Ending.returned (.int .u64 a) = .returned (.int .u64 b) := by rw [h]
set_option maxHeartbeats 1000000 in
theorem two_any (op : Int) (a b : BitVec 64) (w : World) (ho : 1 ≤ op ∧ op ≤ 10) :
 Calls Tryd.prog 25 #[.int .i64 op, .int .u64 (uv a), .int .u64 (uv b)] w fun e w' => e = .returned (.int .u64 (uv (AM.doV op a b))) ∧ w = w' := by
 have hsig := u64_signed
 by_cases hb : b = 0#64
 · have HB := Lib.hid hb
   have f1 := uv_beq0 hb
   clear hb
   rcases AM.op_cases op with rfl | rfl | rfl | rfl | rfl | rfl | rfl | rfl | rfl | rfl | h
   case inr.inr.inr.inr.inr.inr.inr.inr.inr.inr => omega
   all_goals
    clear ho
    go_enter Tryd.func25, Tryd.ntmps25
    go_wp2
    go_ret
    first
     | exact ⟨rfl, rfl⟩
     | exact ⟨ret_w (by rw [HB.out]; simp [AM.doV]; rfl), rfl⟩
     | exact ⟨ret_w (by rw [HB.out]; simp [AM.doV]), rfl⟩
 have f1 := uv_nbeq0 hb
 have f2 := uv_ne0 hb
 clear hb
 rcases AM.op_cases op with rfl | rfl | rfl | rfl | rfl | rfl | rfl | rfl | rfl | rfl | h
 case inr.inr.inr.inr.inr.inr.inr.inr.inr.inr => omega
 all_goals
  clear ho
  go_enter Tryd.func25, Tryd.ntmps25
  go_wp2
  go_ret
  exact ⟨rfl, rfl⟩
theorem ret_b {a b : Bool} (h : a = b) : Ending.returned (.bool a) = .returned (.bool b) := by rw [h]
set_option maxHeartbeats 1000000 in
theorem holds_any (op : Int) (a b : BitVec 64) (w : World) (ho : 16 ≤ op ∧ op ≤ 19) :
 Calls Tryd.prog 26 #[.int .i64 op, .int .u64 (uv a), .int .u64 (uv b)] w fun e w' => e = .returned (.bool (AM.hdV op a b)) ∧ w = w' := by
 have h1 := uv_beq a b
 have h2 := uv_bne a b
 have h3 := uv_dlt a b
 have h4 := uv_dle b a
 rcases AM.hop_cases op with rfl | rfl | rfl | rfl | h
 case inr.inr.inr.inr => omega
 all_goals
  clear ho
  go_enter Tryd.func26, Tryd.ntmps26
  go_wp2
  go_ret
  first
   | exact ⟨rfl, rfl⟩
   | exact ⟨ret_b (by simp [h1, h2, h3, h4, AM.hdV]), rfl⟩
end

set_option maxRecDepth 100000 in
set_option maxHeartbeats 4000000 in
theorem src_any (w : World) (g : Nat) (mV cV : Value) (ea eb : BitVec 64) (S : StV) (i : InstV) (hb : i.b = 8 ∨ (0 ≤ i.b ∧ i.b < 8)) (hM : XAt w g mV cV ea eb S) :
 Calls Tryd.prog 24 #[.pointer (some ⟨g, 0, none⟩), insVal i] w fun e w' => e = .returned (.int .u64 (uv (srcU i S.regs))) ∧ Below w.heap.size w w' := by
 obtain ⟨op, d, a, b, m⟩ := i
 dsimp only at hb
 unfold insVal
 dsimp only
 have HM := Lib.hid hM
 have B0 := Lib.hid (Below.refl w.heap.size w)
 clear hM
 go_enter Tryd.func24, Tryd.ntmps24
 go_upto_region 1 with fail
 have O1 := Lib.hid (Ob.fresh w 70 [.int .i64 op, .int .i64 d, .int .i64 a, .int .i64 b, .int .i64 m])
 have B1 := Lib.hid (below_alloc (B0.out) (.cells #[.int .i64 op, .int .i64 d, .int .i64 a, .int .i64 b, .int .i64 m] 70))
 have Hq1 := Lib.hid (show w.heap.size ≤ w.heap.size by have := B0.out.size; omega)
 clear B0
 generalize (w.alloc (.cells #[.int .i64 op, .int .i64 d, .int .i64 a, .int .i64 b, .int .i64 m] 70)) = w1 at O1 B1 ⊢
 obtain ⟨q1, hq1⟩ : ∃ q1, w.heap.size = q1 := ⟨_, rfl⟩
 have Hq1 := Lib.hid (Nat.le_of_eq hq1)
 rw [hq1] at O1 ⊢
 clear hq1
 have i0 := O1.out.c0
 have i1 := O1.out.c1
 have i2 := O1.out.c2
 have i3 := O1.out.c3
 have i4 := O1.out.c4
 by_cases h8 : b = 8
 · subst h8
   have gw := wrapu m
   have HE := Lib.hid (show srcU ⟨op, d, a, 8, m⟩ S.regs = ofI m from if_pos rfl)
   go_wp2_with fail
   go_ret
   exact ⟨by rw [HE.out] <;> first | done | rfl, B1.out⟩
 obtain ⟨r, rfl⟩ : ∃ r : Nat, b = r := ⟨b.toNat, by omega⟩
 have hr8 : r < 8 := by omega
 have h8i : ((r : Int) == 8) = false := by rw [beq_eq_false_iff_ne]; omega
 have h0i : decide ((r : Int) < 0) = false := by rw [decide_eq_false_iff_not]; omega
 have h7i : decide ((7 : Int) < (r : Int)) = false := by rw [decide_eq_false_iff_not]; omega
 have g1 : (r : Int) < 8 := by omega
 have g0 : (0 : Int) ≤ (r : Int) := by omega
 have HE := Lib.hid (show srcU ⟨op, d, a, (r : Int), m⟩ S.regs = S.regs r from (if_neg h8).trans (by rw [Int.toNat_natCast]))
 have mr := (HM.out.below B1.out).reg hr8
 clear h8 hb hr8
 generalize S.regs r = x at mr HE
 go_upto_region 6 with fail
 go_quiet (fail)
 go_wp2_with fail
 go_ret
 exact ⟨by rw [HE.out] <;> first | done | rfl, below_drewN B1.out _⟩

/-- is it a mark's call? -/
def markV (i : InstV) : Bool := decide (i.op = 21) && decide (i.m = 5)
set_option maxRecDepth 100000 in
set_option maxHeartbeats 4000000 in
theorem marks_any (w : World) (g : Nat) (mV : Value) (cA : Option Addr) (n c : Nat) (ea eb : BitVec 64) (S : StV) (l : List InstV) (hn : n = l.length) (hpc : S.pc < n) (hc : Sl w cA (inss l)) (hM : XAt w g mV (.slice cA n c) ea eb S) :
 Calls Tryd.prog 11 #[.pointer (some ⟨g, 0, none⟩)] w fun e w' => e = .returned (.bool (markV (l.getD S.pc ins0))) ∧ Below w.heap.size w w' := by
 obtain ⟨bc, oc, hcA, _, hcc⟩ := ins_at hc (by omega)
 subst hcA
 obtain ⟨c0, c1, c2, c3, c4⟩ := hcc S.pc (by omega)
 generalize l.getD S.pc ins0 = i at c0 c1 c2 c3 c4 ⊢
 obtain ⟨op, d, a, b, m⟩ := i
 dsimp only at c0 c1 c2 c3 c4
 have HC := Lib.hid (And.intro c0 (And.intro c1 (And.intro c2 (And.intro c3 c4))))
 have HM := Lib.hid hM
 have HE := Lib.hid (show markV ⟨op, d, a, b, m⟩ = (decide (op = 21) && decide (m = 5)) from rfl)
 generalize markV ⟨op, d, a, b, m⟩ = V at HE ⊢
 have gp1 : (S.pc : Int) < (n : Int) := by omega
 have gp0 : (0 : Int) ≤ (S.pc : Int) := by omega
 have gp2 : decide ((S.pc : Int) < 0) = false := by rw [decide_eq_false_iff_not]; omega
 have gp3 : decide ((n : Int) ≤ (S.pc : Int)) = false := by rw [decide_eq_false_iff_not]; omega
 have y92 := hM.pc_
 have y1 := hM.cs
 have B0 := Lib.hid (Below.refl w.heap.size w)
 clear hcc hM hc hn hpc c0 c1 c2 c3 c4
 go_enter Tryd.func11, Tryd.ntmps11
 go_upto_region 1 with fail
 go_quiet (fail)
 have gp4 : decide (n ≤ S.pc) = false := by rw [decide_eq_false_iff_not]; omega
 have B1 := Lib.hid (below_drewN (Below.refl w.heap.size w) nq)
 have Y1 := Lib.hid (show (w.drewN nq).cell? ⟨g, 1, none⟩ = some (.slice (some ⟨bc, oc, none⟩) n c) from y1)
 have Y92 := Lib.hid (show (w.drewN nq).cell? ⟨g, 92, none⟩ = some (.int .i64 S.pc) from y92)
 have HC2 := Lib.hid (show (w.drewN nq).cell? _ = some _ ∧ (w.drewN nq).cell? _ = some _ ∧ (w.drewN nq).cell? _ = some _ ∧ (w.drewN nq).cell? _ = some _ ∧ (w.drewN nq).cell? _ = some _ from HC.out)
 clear y1 y92 HC HM B0
 generalize w.drewN nq = w1 at B1 Y1 Y92 HC2 ⊢
 go_upto_region 3 with fail
 have KS := Lib.hid (show ∀ w', Below w1.heap.size w1 w' → (w'.cell? ⟨g, 1, none⟩ = some (.slice (some ⟨bc, oc, none⟩) n c) ∧ w'.cell? ⟨g, 92, none⟩ = some (.int .i64 S.pc) ∧ w'.cell? ⟨bc, oc + S.pc * 5, none⟩ = some (.int .i64 op) ∧ w'.cell? ⟨bc, oc + S.pc * 5 + 1, none⟩ = some (.int .i64 d) ∧ w'.cell? ⟨bc, oc + S.pc * 5 + 2, none⟩ = some (.int .i64 a) ∧ w'.cell? ⟨bc, oc + S.pc * 5 + 3, none⟩ = some (.int .i64 b) ∧ w'.cell? ⟨bc, oc + S.pc * 5 + 4, none⟩ = some (.int .i64 m)) from fun w' hb => ⟨keepS hb Y1.out, keepS hb Y92.out, keepS hb HC2.out.1, keepS hb HC2.out.2.1, keepS hb HC2.out.2.2.1, keepS hb HC2.out.2.2.2.1, keepS hb HC2.out.2.2.2.2⟩)
 obtain ⟨wd, hwd⟩ : ∃ wd, w1.drew = wd := ⟨_, rfl⟩
 have BD := Lib.hid (show Below w1.heap.size w1 wd from hwd ▸ below_drewN (Below.refl w1.heap.size w1) 1)
 refine wp_region_held_drew (S := fun w' => (w'.cell? ⟨g, 1, none⟩ = some (.slice (some ⟨bc, oc, none⟩) n c) ∧ w'.cell? ⟨g, 92, none⟩ = some (.int .i64 S.pc) ∧ w'.cell? ⟨bc, oc + S.pc * 5, none⟩ = some (.int .i64 op) ∧ w'.cell? ⟨bc, oc + S.pc * 5 + 1, none⟩ = some (.int .i64 d) ∧ w'.cell? ⟨bc, oc + S.pc * 5 + 2, none⟩ = some (.int .i64 a) ∧ w'.cell? ⟨bc, oc + S.pc * 5 + 3, none⟩ = some (.int .i64 b) ∧ w'.cell? ⟨bc, oc + S.pc * 5 + 4, none⟩ = some (.int .i64 m))) (by kernel_rfl) (hwd ▸ KS.out wd BD.out) (fun hHeld => ?_)
 refine tkq 0 22 rfl (by kernel_rfl) (by rfl) hHeld (fun _ _ _ h => h) (by intro w' hSw; go_simp; try with_reducible rfl) ?_
 simp only [Act.put, spa, spb, spc]
 refine tkq 1 23 rfl (by kernel_rfl) (by rfl) hHeld (fun _ _ _ h => h) (by intro w' hSw; go_simp; try with_reducible rfl) ?_
 simp only [Act.put, spa, spb, spc]
 refine tkq 2 24 rfl (by kernel_rfl) (by rfl) hHeld (fun _ _ _ h => h) (by intro w' hSw; go_simp; try with_reducible rfl) ?_
 simp only [Act.put, spa, spb, spc]
 refine tkq 3 25 rfl (by kernel_rfl) (by rfl) hHeld (fun _ _ _ h => h) (by intro w' hSw; go_simp; try with_reducible rfl) ?_
 simp only [Act.put, spa, spb, spc]
 refine tkq 4 26 rfl (by kernel_rfl) (by rfl) hHeld (fun _ _ _ h => h) (by intro w' hSw; go_simp; try with_reducible rfl) ?_
 simp only [Act.put, spa, spb, spc]
 refine tkq 5 27 rfl (by kernel_rfl) (by rfl) hHeld (fun _ _ _ h => h) (by intro w' hSw; go_simp; try with_reducible rfl) ?_
 simp only [Act.put, spa, spb, spc]
 refine tkq 6 28 rfl (by kernel_rfl) (by rfl) hHeld (fun _ _ _ h => h) (by intro w' hSw; go_simp; try with_reducible rfl) ?_
 simp only [Act.put, spa, spb, spc]
 refine tkq 7 29 rfl (by kernel_rfl) (by rfl) hHeld (fun _ _ _ h => h) (by intro w' hSw; go_simp; try with_reducible rfl) ?_
 simp only [Act.put, spa, spb, spc]
 refine tkq 8 30 rfl (by kernel_rfl) (by rfl) hHeld (fun _ _ _ h => h) (by intro w' hSw; go_simp; try with_reducible rfl) ?_
 simp only [Act.put, spa, spb, spc]
 refine tkq 9 31 rfl (by kernel_rfl) (by rfl) hHeld (fun _ _ _ h => h) (by intro w' hSw; go_simp; try with_reducible rfl) ?_
 simp only [Act.put, spa, spb, spc]
 refine tkq 10 32 rfl (by kernel_rfl) (by rfl) hHeld (fun _ _ _ h => h) (by intro w' hSw; go_simp; try with_reducible rfl) ?_
 simp only [Act.put, spa, spb, spc]
 refine rdq 11 ⟨some 3, _, _, _, _, _⟩ (by kernel_rfl) rfl (fun K' hK => ?_)
 go_simp
 refine hK.out _ _ (KS.out _ (below_alloc BD.out (.cells #[.int .i64 0, .int .i64 0, .int .i64 0, .int .i64 0, .int .i64 0] 70))) (fun hHeld => ?_)
 clear hK K'
 clear hHeld
 have NI := Lib.hid (Ob.fresh wd 70 [.int .i64 0, .int .i64 0, .int .i64 0, .int .i64 0, .int .i64 0])
 have BA := Lib.hid (below_alloc (BD.out) (.cells #[.int .i64 0, .int .i64 0, .int .i64 0, .int .i64 0, .int .i64 0] 70))
 have Hq3 := Lib.hid (show w1.heap.size ≤ wd.heap.size by have := BD.out.size; omega)
 clear BD
 generalize (wd.alloc (.cells #[.int .i64 0, .int .i64 0, .int .i64 0, .int .i64 0, .int .i64 0] 70)) = wa at NI BA ⊢
 obtain ⟨q3, hq3⟩ : ∃ q3, wd.heap.size = q3 := ⟨_, rfl⟩
 rw [hq3] at NI Hq3 ⊢
 clear hq3
 have hHeld := KS.out _ BA.out
 refine rdq 12 ⟨none, _, _, _, _, _⟩ (by kernel_rfl) rfl (fun K' hK => ?_)
 have z0 := NI.out.c0
 have z1 := NI.out.c1
 have z2 := NI.out.c2
 have z3 := NI.out.c3
 have z4 := NI.out.c4
 have zf : ∀ x, wa.frozen? ⟨q3, x, none⟩ = false := NI.out.frozen
 go_simp
 refine hK.out _ _ (KS.out _ (Below.setCell (Below.setCell (Below.setCell (Below.setCell (Below.setCell BA.out (p := ⟨q3, 0, none⟩) Hq3.out (.int .i64 op)) (p := ⟨q3, 1, none⟩) Hq3.out (.int .i64 d)) (p := ⟨q3, 2, none⟩) Hq3.out (.int .i64 a)) (p := ⟨q3, 3, none⟩) Hq3.out (.int .i64 b)) (p := ⟨q3, 4, none⟩) Hq3.out (.int .i64 m))) (fun hHeld => ?_)
 clear hK K'
 clear hHeld z0 z1 z2 z3 z4 zf
 have BF := Lib.hid (Below.setCell (Below.setCell (Below.setCell (Below.setCell (Below.setCell BA.out (p := ⟨q3, 0, none⟩) Hq3.out (.int .i64 op)) (p := ⟨q3, 1, none⟩) Hq3.out (.int .i64 d)) (p := ⟨q3, 2, none⟩) Hq3.out (.int .i64 a)) (p := ⟨q3, 3, none⟩) Hq3.out (.int .i64 b)) (p := ⟨q3, 4, none⟩) Hq3.out (.int .i64 m))
 have IF := Lib.hid (show Ob (((((wa.setCell ⟨q3, 0, none⟩ (.int .i64 op)).setCell ⟨q3, 1, none⟩ (.int .i64 d)).setCell ⟨q3, 2, none⟩ (.int .i64 a)).setCell ⟨q3, 3, none⟩ (.int .i64 b)).setCell ⟨q3, 4, none⟩ (.int .i64 m)) q3 70 [.int .i64 op, .int .i64 d, .int .i64 a, .int .i64 b, .int .i64 m] from (((((NI.out.set_ 0 _).set_ 1 _).set_ 2 _).set_ 3 _).set_ 4 _))
 refine wpAnyH_done (by kernel_rfl) ?_ _
 clear KS hwd NI BA
 generalize (((((wa.setCell ⟨q3, 0, none⟩ (.int .i64 op)).setCell ⟨q3, 1, none⟩ (.int .i64 d)).setCell ⟨q3, 2, none⟩ (.int .i64 a)).setCell ⟨q3, 3, none⟩ (.int .i64 b)).setCell ⟨q3, 4, none⟩ (.int .i64 m)) = w2 at BF IF ⊢
 have B2 := Lib.hid (B1.out.trans (BF.out.mono B1.out.size))
 clear gp1 gp0 gp2 gp3 gp4 B1 BF
 have i0 := IF.out.c0
 have i1 := IF.out.c1
 have i2 := IF.out.c2
 have i3 := IF.out.c3
 have i4 := IF.out.c4
 by_cases h1 : op = 21
 · subst h1
   by_cases h2 : m = 5
   · subst h2
     go_wp2_with fail
     go_ret
     exact ⟨by rw [HE.out] <;> first | done | rfl, B2.out⟩
   have h2i : (m == 5) = false := by rw [beq_eq_false_iff_ne]; exact h2
   have HE2 := Lib.hid (show V = false by rw [HE.out, decide_eq_false h2]; rfl)
   clear h2
   go_wp2_with fail
   go_ret
   exact ⟨by rw [HE2.out] <;> first | done | rfl, B2.out⟩
 have h1i : (op == 21) = false := by rw [beq_eq_false_iff_ne]; exact h1
 have HE2 := Lib.hid (show V = false by rw [HE.out, decide_eq_false h1]; rfl)
 clear h1
 go_wp2_with fail
 go_ret
 exact ⟨by rw [HE2.out] <;> first | done | rfl, B2.out⟩

end Go.Proofs.YtjcffmcafjineaaDoor.Tp
end

section
namespace Go.Proofs.YtjcffmcafjineaaDoor.Tp
open Go.RowKit
open Go.Proofs.YtjcffmcafjineaaDoor.Op (InstV insc insVal inss ins0 ins_at inss_length inss_allone rightV right_is RightI)
open Go.Proofs.YtjcffmcafjineaaDoor.En (StV rg rg_length rg_get rg_set rg_ext updI ActV acc acVal ac0 ofI wrapu srcU runS runD stepS stepA callS callA okI okC keepS tch_fresh sl_tch cell_tch ints ints_length ints_one int_at act_load runD_le runS_pc ansS valU ResOk val_uv int_info inst_info own_none)
open Go.Proofs.YtjcffmcafjineaaDoor.Sg (ResV rec_ reVal vlOf)

set_option maxRecDepth 100000 in
set_option maxHeartbeats 16000000 in
theorem back_any (w : World) (g : Nat) (mV : Value) (cA : Option Addr) (n c : Nat) (ea eb : BitVec 64) (S : StV) (l : List InstV) (r : ResV) (hn : n = l.length) (hm : n ≤ 64) (hpc : S.pc < n) (hr : ResOk r) (h0 : 0 ≤ (l.getD S.pc ins0).m) (h4 : (l.getD S.pc ins0).m < 5)
 (hc : Sl w cA (inss l)) (hcp : ∀ a, cA = some a → ¬ a.block = g) (hM : XAt w g mV (.slice cA n c) ea eb S) :
 Calls Tryd.prog 16 #[.pointer (some ⟨g, 0, none⟩), reVal r] w fun e w' => e = .returned (.tuple #[]) ∧ XAt w' g mV (.slice cA n c) ea eb (ansS (l.getD S.pc ins0) r S) ∧ Tch (fun k => k = g) w w' := by
 obtain ⟨bc, oc, hcA, _, hcc⟩ := (ins_at hc (by omega))
 have HC4 := Lib.hid ((hcc S.pc (by omega)).2.2.2.2)
 have HNB := Lib.hid (hcp _ hcA)
 subst hcA
 generalize l.getD S.pc ins0 = i at HC4 h0 h4 ⊢
 obtain ⟨S', hS'⟩ : ∃ S', ansS i r S = S' := ⟨_, rfl⟩
 rw [hS']
 have HV := Lib.hid (val_uv (h := i.m) hr)
 have HS := Lib.hid (show ({ S with regs := upd S.regs 0 (valU i.m r), pc := S.pc + 1, st := 0 } : StV) = S' from hS')
 generalize valU i.m r = v at HV HS
 have HPC := Lib.hid (show S.pc < n ∧ n ≤ 64 from ⟨hpc, hm⟩)
 have HM := Lib.hid hM
 have B0 := Lib.hid (Below.refl w.heap.size w)
 have gp1 : (S.pc : Int) < (n : Int) := by omega
 have gp0 : (0 : Int) ≤ (S.pc : Int) := by omega
 have gp2 : decide ((S.pc : Int) < 0) = false := by rw [decide_eq_false_iff_not]; omega
 have gp3 : decide ((n : Int) ≤ (S.pc : Int)) = false := by rw [decide_eq_false_iff_not]; omega
 have gp4 : decide (n ≤ S.pc) = false := by rw [decide_eq_false_iff_not]; omega
 clear hS' hpc hm hn hc hcp hM hcc hr
 obtain ⟨op, d, a, b, m⟩ := i
 obtain ⟨re, rf, rv, rio, rok, rov⟩ := r
 unfold reVal
 dsimp only at HC4 h0 h4 HV ⊢
 go_enter Tryd.func16, Tryd.ntmps16
 go_upto_region 1 with fail
 have O1 := Lib.hid (Ob.fresh w 64 [.int .i64 re, .bool rf, .int .u64 rv, .bool rio, .int .u64 rok, .int .u64 rov])
 have B1 := Lib.hid (below_alloc (B0.out) (.cells #[.int .i64 re, .bool rf, .int .u64 rv, .bool rio, .int .u64 rok, .int .u64 rov] 64))
 have Hq1 := Lib.hid (show w.heap.size ≤ w.heap.size by have := B0.out.size; omega)
 clear B0
 generalize (w.alloc (.cells #[.int .i64 re, .bool rf, .int .u64 rv, .bool rio, .int .u64 rok, .int .u64 rov] 64)) = w1 at O1 B1 ⊢
 obtain ⟨q1, hq1⟩ : ∃ q1, w.heap.size = q1 := ⟨_, rfl⟩
 have Hq1 := Lib.hid (Nat.le_of_eq hq1)
 rw [hq1] at O1 ⊢
 clear hq1
 have M1 := Lib.hid (HM.out.below B1.out)
 have y92 := M1.out.pc_
 have y1 := M1.out.cs
 go_quiet (fail)
 have B2 := Lib.hid (below_drewN B1.out nq)
 have M2 := Lib.hid (show XAt (w1.drewN nq) g mV (.slice (some ⟨bc, oc, none⟩) n c) ea eb S from M1.out)
 have O2 := Lib.hid (O1.out.drewN nq)
 clear M1 O1 B1 y92 y1 HM
 generalize w1.drewN nq = w2 at B2 M2 O2 ⊢
 have y92 := M2.out.pc_
 have y1 := M2.out.cs
 have y4 := keepS B2.out HC4.out
 go_upto_region 4 with fail
 go_quiet (fail)
 have B3 := Lib.hid (below_drewN B2.out nq)
 have M3 := Lib.hid (show XAt (w2.drewN nq) g mV (.slice (some ⟨bc, oc, none⟩) n c) ea eb S from M2.out)
 have O3 := Lib.hid (O2.out.drewN nq)
 clear M2 O2 B2 y92 y1 y4
 generalize w2.drewN nq = w3 at B3 M3 O3 ⊢
 have r0 := O3.out.c0
 have r1 := O3.out.c1
 have r2 := O3.out.c2
 have y92 := M3.out.pc_
 have x0 : w3.cell? ⟨g, 4, none⟩ = some (.int .u64 (uv (S.regs 0))) := M3.out.reg (r := 0) (by decide)
 have zg : ∀ x, w3.frozen? ⟨g, x, none⟩ = false := Ob.frozen M3.out
 have gpc : wrap64 ((S.pc : Int) + 1) = ((S.pc + 1 : Nat) : Int) := by have := HPC.out; unfold wrap64; push_cast; omega
 have MZ := Lib.hid ((show XAt (w3.setCell ⟨g, 4, none⟩ (.int .u64 (uv v))) g mV (.slice (some ⟨bc, oc, none⟩) n c) ea eb _ from M3.out.setReg (r := 0) (by decide) v).setPc (S.pc + 1))
 have TZ := Lib.hid (Tch.setCell (S := fun k => k = g) (p := ⟨g, 92, none⟩) (Tch.setCell (S := fun k => k = g) (p := ⟨g, 4, none⟩) (Tch.of_below B3.out) rfl (.int .u64 (uv v))) rfl (.int .i64 (S.pc + 1 : Nat)))
 clear gp1 gp0 gp2 gp3 gp4
 obtain ⟨y, hy⟩ : ∃ y : Nat, m = y := ⟨m.toNat, by omega⟩
 subst hy
 have hy5 : y < 5 := by omega
 rw [Sg.hI_nat (by omega)] at HV
 clear h0 h4
 have hc : y = 0 ∨ y = 1 ∨ y = 2 ∨ y = 3 ∨ y = 4 := by omega
 clear hy5
 rcases hc with rfl | rfl | rfl | rfl | rfl
 · have HVV := Lib.hid (show rv = uv v from HV.out)
   rw [HVV.out] at r2
   go_wp2_with fail
   try rw [HVV.out]
   go_end0
   exact ⟨rfl, by rw [← HS.out]; exact XAt.ext MZ.out rfl rfl rfl rfl, TZ.out⟩
 · cases rf
   · have HVV := Lib.hid (show (0 : Int) = uv v from HV.out)
     rw [← HVV.out] at MZ TZ
     go_wp2_with fail
     go_end0
     exact ⟨rfl, by rw [← HS.out]; exact XAt.ext MZ.out rfl rfl rfl rfl, TZ.out⟩
   have HVV := Lib.hid (show (1 : Int) = uv v from HV.out)
   rw [← HVV.out] at MZ TZ
   go_wp2_with fail
   go_end0
   exact ⟨rfl, by rw [← HS.out]; exact XAt.ext MZ.out rfl rfl rfl rfl, TZ.out⟩
 · by_cases he : re = 0
   · subst he
     have HVV := Lib.hid (show (1 : Int) = uv v from HV.out)
     rw [← HVV.out] at MZ TZ
     go_wp2_with fail
     go_end0
     exact ⟨rfl, by rw [← HS.out]; exact XAt.ext MZ.out rfl rfl rfl rfl, TZ.out⟩
   have hei : (re == 0) = false := by rw [beq_eq_false_iff_ne]; exact he
   have HVV := Lib.hid (show (0 : Int) = uv v from by rw [← HV.out]; exact (if_neg (by decide)).trans (if_neg (by simp [he])) |>.symm)
   clear he
   rw [← HVV.out] at MZ TZ
   go_wp2_with fail
   go_end0
   exact ⟨rfl, by rw [← HS.out]; exact XAt.ext MZ.out rfl rfl rfl rfl, TZ.out⟩
 · cases rf
   · have HVV := Lib.hid (show (0 : Int) = uv v from HV.out)
     rw [← HVV.out] at MZ TZ
     go_wp2_with fail
     go_end0
     exact ⟨rfl, by rw [← HS.out]; exact XAt.ext MZ.out rfl rfl rfl rfl, TZ.out⟩
   have HVV := Lib.hid (show (1 : Int) = uv v from HV.out)
   rw [← HVV.out] at MZ TZ
   go_wp2_with fail
   go_end0
   exact ⟨rfl, by rw [← HS.out]; exact XAt.ext MZ.out rfl rfl rfl rfl, TZ.out⟩
 have HVV := Lib.hid (show rv = uv v from HV.out)
 rw [HVV.out] at r2
 go_wp2_with fail
 try rw [HVV.out]
 go_end0
 exact ⟨rfl, by rw [← HS.out]; exact XAt.ext MZ.out rfl rfl rfl rfl, TZ.out⟩

end Go.Proofs.YtjcffmcafjineaaDoor.Tp
end
