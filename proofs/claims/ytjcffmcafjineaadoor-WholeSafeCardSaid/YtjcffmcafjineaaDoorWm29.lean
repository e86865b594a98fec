/-
  The law's own machine: a step. Conditions: those of each theorem.
-/
import Derived.Test.YtjcffmcafjineaaDoorWm01
import Derived.Test.YtjcffmcafjineaaDoorWm27
set_option linter.unusedVariables false
set_option linter.unusedSimpArgs false
section
namespace Go.Proofs.YtjcffmcafjineaaDoor.Tp
open Go.RowKit
open Go.Proofs.YtjcffmcafjineaaDoor.Op (InstV insc insVal inss ins0 ins_at inss_length inss_allone rightV right_is RightI)
open Go.Proofs.YtjcffmcafjineaaDoor.En (StV rg rg_length rg_get rg_set rg_ext updI ActV acc acVal ac0 ofI wrapu srcU runS runD stepS stepA callS callA okI okC keepS tch_fresh sl_tch cell_tch ints ints_length int_at act_load runD_le runS_pc)

/-- the state of a step -/
structure XSt (w0 w : World) (g q4 q5 q6 : Nat) (mV cV : Value) (ea eb : BitVec 64) (S : StV) (i : InstV) (a : ActV) : Prop where
 M : XAt w g mV cV ea eb S
 o4 : Ob w q4 57 (acc ac0)
 o5 : Ob w q5 70 (insc i)
 o6 : Ob w q6 57 (acc a)
 t : Tch (fun k => k = g) w0 w
 l4 : w0.heap.size ≤ q4
 l6 : w0.heap.size ≤ q6
 n : q4 ≠ q6
section
variable {w0 w w' : World} {g q4 q5 q6 : Nat} {ea eb : BitVec 64} {mV cV : Value} {S S' : StV} {i : InstV} {a a' : ActV}
theorem XSt.g4 (h : XSt w0 w g q4 q5 q6 mV cV ea eb S i a) : g ≠ q4 := Ob.ne_ h.M h.o4 (by decide)
theorem XSt.g5 (h : XSt w0 w g q4 q5 q6 mV cV ea eb S i a) : g ≠ q5 := Ob.ne_ h.M h.o5 (by decide)
theorem XSt.g6 (h : XSt w0 w g q4 q5 q6 mV cV ea eb S i a) : g ≠ q6 := Ob.ne_ h.M h.o6 (by decide)
theorem XSt.below (h : XSt w0 w g q4 q5 q6 mV cV ea eb S i a) (hb : Below w.heap.size w w') : XSt w0 w' g q4 q5 q6 mV cV ea eb S i a :=
 ⟨h.M.below hb, h.o4.below hb h.o4.lt, h.o5.below hb h.o5.lt, h.o6.below hb h.o6.lt, h.t.trans (Tch.of_below hb), h.l4, h.l6, h.n⟩
theorem XSt.drew (h : XSt w0 w g q4 q5 q6 mV cV ea eb S i a) : XSt w0 w.drew g q4 q5 q6 mV cV ea eb S i a := h.below (below_drewN (Below.refl _ _) 1)
theorem XSt.drewN (h : XSt w0 w g q4 q5 q6 mV cV ea eb S i a) (n : Nat) : XSt w0 (w.drewN n) g q4 q5 q6 mV cV ea eb S i a := h.below (below_drewN (Below.refl _ _) n)
theorem XSt.mach (h : XSt w0 w g q4 q5 q6 mV cV ea eb S i a) {p : Addr} {v : Value} (hp : p.block = g) (hM : XAt (w.setCell p v) g mV cV ea eb S') : XSt w0 (w.setCell p v) g q4 q5 q6 mV cV ea eb S' i a :=
 ⟨hM, h.o4.far (by rw [hp]; exact h.g4.symm) _, h.o5.far (by rw [hp]; exact h.g5.symm) _, h.o6.far (by rw [hp]; exact h.g6.symm) _, h.t.setCell hp _, h.l4, h.l6, h.n⟩
theorem XSt.setReg (h : XSt w0 w g q4 q5 q6 mV cV ea eb S i a) {r : Nat} (hr : r < 8) (v : BitVec 64) : XSt w0 (w.setCell ⟨g, 4 + r, none⟩ (.int .u64 (uv v))) g q4 q5 q6 mV cV ea eb { S with regs := upd S.regs r v } i a := h.mach (p := ⟨g, 4 + r, none⟩) rfl (h.M.setReg hr v)
theorem XSt.setWord (h : XSt w0 w g q4 q5 q6 mV cV ea eb S i a) {r : Nat} (hr : r < 16) (v : BitVec 64) : XSt w0 (w.setCell ⟨g, 12 + r, none⟩ (.int .u64 (uv v))) g q4 q5 q6 mV cV ea eb { S with words := upd S.words r v } i a := h.mach (p := ⟨g, 12 + r, none⟩) rfl (h.M.setWord hr v)
theorem XSt.setTurn (h : XSt w0 w g q4 q5 q6 mV cV ea eb S i a) {r : Nat} (hr : r < 64) (v : Int) : XSt w0 (w.setCell ⟨g, 28 + r, none⟩ (.int .i64 v)) g q4 q5 q6 mV cV ea eb { S with turns := updI S.turns r v } i a := h.mach (p := ⟨g, 28 + r, none⟩) rfl (h.M.setTurn hr v)
theorem XSt.setPc (h : XSt w0 w g q4 q5 q6 mV cV ea eb S i a) (v : Nat) : XSt w0 (w.setCell ⟨g, 92, none⟩ (.int .i64 v)) g q4 q5 q6 mV cV ea eb { S with pc := v } i a := h.mach (p := ⟨g, 92, none⟩) rfl (h.M.setPc v)
theorem XSt.act (h : XSt w0 w g q4 q5 q6 mV cV ea eb S i a) {p : Addr} {v : Value} (hp : p.block = q6) (ho : Ob (w.setCell p v) q6 57 (acc a')) : XSt w0 (w.setCell p v) g q4 q5 q6 mV cV ea eb S i a' :=
 ⟨Ob.far h.M (by rw [hp]; exact h.g6) _, h.o4.far (by rw [hp]; exact h.n) _, h.o5.far (by rw [hp]; exact h.o5.ne_ h.o6 (by decide)) _, ho, tch_fresh h.t (by rw [hp]; exact h.l6) _, h.l4, h.l6, h.n⟩
theorem XSt.setK (h : XSt w0 w g q4 q5 q6 mV cV ea eb S i a) (v : Int) : XSt w0 (w.setCell ⟨q6, 0, none⟩ (.int .i64 v)) g q4 q5 q6 mV cV ea eb S i { a with k := v } := h.act (p := ⟨q6, 0, none⟩) rfl (h.o6.set_ 0 _)
theorem XSt.setMp (h : XSt w0 w g q4 q5 q6 mV cV ea eb S i a) (v : Int) : XSt w0 (w.setCell ⟨q6, 2, none⟩ (.int .i64 v)) g q4 q5 q6 mV cV ea eb S i { a with mp := v } := h.act (p := ⟨q6, 2, none⟩) rfl (h.o6.set_ 2 _)
theorem XSt.setOp (h : XSt w0 w g q4 q5 q6 mV cV ea eb S i a) (v : Int) : XSt w0 (w.setCell ⟨q6, 3, none⟩ (.int .i64 v)) g q4 q5 q6 mV cV ea eb S i { a with op := v } := h.act (p := ⟨q6, 3, none⟩) rfl (h.o6.set_ 3 _)
theorem XSt.setKey (h : XSt w0 w g q4 q5 q6 mV cV ea eb S i a) (v : BitVec 64) : XSt w0 (w.setCell ⟨q6, 4, none⟩ (.int .u64 (uv v))) g q4 q5 q6 mV cV ea eb S i { a with key := v } := h.act (p := ⟨q6, 4, none⟩) rfl (h.o6.set_ 4 _)
theorem XSt.setVal (h : XSt w0 w g q4 q5 q6 mV cV ea eb S i a) (v : BitVec 64) : XSt w0 (w.setCell ⟨q6, 5, none⟩ (.int .u64 (uv v))) g q4 q5 q6 mV cV ea eb S i { a with val := v } := h.act (p := ⟨q6, 5, none⟩) rfl (h.o6.set_ 5 _)
theorem XSt.setV (h : XSt w0 w g q4 q5 q6 mV cV ea eb S i a) (v : BitVec 64) : XSt w0 (w.setCell ⟨q6, 6, none⟩ (.int .u64 (uv v))) g q4 q5 q6 mV cV ea eb S i { a with v := v } := h.act (p := ⟨q6, 6, none⟩) rfl (h.o6.set_ 6 _)
theorem acc_at {w : World} {q : Nat} {a : ActV} (h : Ob w q 57 (acc a)) : w.cell? ⟨q, 0, none⟩ = some (.int .i64 a.k) ∧ w.cell? ⟨q, 1, none⟩ = some (.int .i64 a.pc) ∧ w.cell? ⟨q, 2, none⟩ = some (.int .i64 a.mp) ∧ w.cell? ⟨q, 3, none⟩ = some (.int .i64 a.op) ∧ w.cell? ⟨q, 4, none⟩ = some (.int .u64 (uv a.key)) ∧ w.cell? ⟨q, 5, none⟩ = some (.int .u64 (uv a.val)) ∧ w.cell? ⟨q, 6, none⟩ = some (.int .u64 (uv a.v)) :=
 ⟨h.cell 0, h.cell 1, h.cell 2, h.cell 3, h.cell 4, h.cell 5, h.cell 6⟩
/-- the act is handed back -/
theorem XSt.fin {tm : Array Value} {A : ActV} {S1 S2 : StV} (h : XSt w0 w g q4 q5 q6 mV cV ea eb S i a) (ht : tm.getD 4 undef = .pointer (some ⟨q4, 0, none⟩)) (ha : a = A) (hs : S1 = S2) (h1 : S.regs = S1.regs) (h2 : S.words = S1.words) (h3 : S.turns = S1.turns) (h4 : S.pc = S1.pc) :
 bodyPost Tryd.prog Tryd.f12 (fun e w' => e = .returned (acVal A) ∧ XAt w' g mV cV ea eb S2 ∧ Tch (fun k => k = g) w0 w') .ret ⟨tm, []⟩
  (((((((w.setCell ⟨q4, 0, none⟩ (.int .i64 a.k)).setCell ⟨q4, 1, none⟩ (.int .i64 a.pc)).setCell ⟨q4, 2, none⟩ (.int .i64 a.mp)).setCell ⟨q4, 3, none⟩ (.int .i64 a.op)).setCell ⟨q4, 4, none⟩ (.int .u64 (uv a.key))).setCell ⟨q4, 5, none⟩ (.int .u64 (uv a.val))).setCell ⟨q4, 6, none⟩ (.int .u64 (uv a.v))) := by
 subst ha hs
 have OF := ((((((h.o4.set_ 0 (.int .i64 a.k)).set_ 1 (.int .i64 a.pc)).set_ 2 (.int .i64 a.mp)).set_ 3 (.int .i64 a.op)).set_ 4 (.int .u64 (uv a.key))).set_ 5 (.int .u64 (uv a.val))).set_ 6 (.int .u64 (uv a.v))
 have MF := Ob.far (p := ⟨q4, 6, none⟩) (Ob.far (p := ⟨q4, 5, none⟩) (Ob.far (p := ⟨q4, 4, none⟩) (Ob.far (p := ⟨q4, 3, none⟩) (Ob.far (p := ⟨q4, 2, none⟩) (Ob.far (p := ⟨q4, 1, none⟩) (Ob.far (p := ⟨q4, 0, none⟩) h.M h.g4 (.int .i64 a.k)) h.g4 (.int .i64 a.pc)) h.g4 (.int .i64 a.mp)) h.g4 (.int .i64 a.op)) h.g4 (.int .u64 (uv a.key))) h.g4 (.int .u64 (uv a.val))) h.g4 (.int .u64 (uv a.v))
 have TF := tch_fresh (tch_fresh (tch_fresh (tch_fresh (tch_fresh (tch_fresh (tch_fresh h.t (p := ⟨q4, 0, none⟩) h.l4 (.int .i64 a.k)) (p := ⟨q4, 1, none⟩) h.l4 (.int .i64 a.pc)) (p := ⟨q4, 2, none⟩) h.l4 (.int .i64 a.mp)) (p := ⟨q4, 3, none⟩) h.l4 (.int .i64 a.op)) (p := ⟨q4, 4, none⟩) h.l4 (.int .u64 (uv a.key))) (p := ⟨q4, 5, none⟩) h.l4 (.int .u64 (uv a.val))) (p := ⟨q4, 6, none⟩) h.l4 (.int .u64 (uv a.v))
 exact bodyPost_ret (v := acVal a) (results_cell Tryd.results12 ht (act_load OF)) rfl ⟨rfl, XAt.ext MF h1 h2 h3 h4, TF⟩
end

set_option maxRecDepth 100000 in
set_option maxHeartbeats 16000000 in
theorem step_any (w : World) (g : Nat) (ea eb : BitVec 64) (mA cA : Option Addr) (nm cm n c : Nat) (S : StV) (ms : List Int) (l : List InstV) (cnt : BitVec 64) (hn : n = l.length) (hm : n ≤ 64) (hnm : nm = ms.length) (hnb : nm ≤ 4) (hpc : S.pc < n)
 (hr : rightV (l.getD S.pc ins0) = true) (hok : okI (l.getD S.pc ins0) S) (hoc : (l.getD S.pc ins0).op = 21 → okC ms (l.getD S.pc ins0).m S) (hto : (l.getD S.pc ins0).op ≠ 21 → (l.getD S.pc ins0).op ≠ 22 → 0 ≤ (S.pc : Int) + runD (l.getD S.pc ins0) S)
 (hcn : (l.getD S.pc ins0).op = 21 → (l.getD S.pc ins0).m = 5 → cnt = S.counts (S.regs 1).toNat + 1#64)
 (hts : ∀ p, p < 64 → 0 ≤ S.turns p) (hs : Sl w mA (ints ms)) (hap : ∀ a, mA = some a → ¬ a.block = g) (hc : Sl w cA (inss l)) (hcp : ∀ a, cA = some a → ¬ a.block = g)
 (hM : XAt w g (.slice mA nm cm) (.slice cA n c) ea eb S) :
 Calls Tryd.prog 12 #[.pointer (some ⟨g, 0, none⟩), .int .u64 (uv cnt)] w fun e w' => e = .returned (acVal (stepA ms (l.getD S.pc ins0) S)) ∧ XAt w' g (.slice mA nm cm) (.slice cA n c) ea eb (stepS ea eb (l.getD S.pc ins0) S) ∧ Tch (fun k => k = g) w w' := by
 obtain ⟨bc, oc, hcA, _, hcc⟩ := (ins_at hc (by omega))
 have HC := Lib.hid (hcc S.pc (by omega))
 subst hcA
 generalize l.getD S.pc ins0 = i at hr hok hoc hto hcn HC ⊢
 obtain ⟨A, hA⟩ : ∃ A, stepA ms i S = A := ⟨_, rfl⟩
 obtain ⟨S', hS'⟩ : ∃ S', stepS ea eb i S = S' := ⟨_, rfl⟩
 rw [hA, hS']
 have HA := Lib.hid hA
 have HS := Lib.hid hS'
 have HI := Lib.hid (right_is hr)
 have HOK := Lib.hid hok
 have HOC := Lib.hid hoc
 have HTO := Lib.hid hto
 have HCN := Lib.hid hcn
 have HTS := Lib.hid hts
 have HPC := Lib.hid (show S.pc < n ∧ n ≤ 64 from ⟨hpc, hm⟩)
 have HNM := Lib.hid (show nm = ms.length ∧ nm ≤ 4 from ⟨hnm, hnb⟩)
 have HMS := Lib.hid hs
 have HAP := Lib.hid hap
 have HM := Lib.hid hM
 have B0 := Lib.hid (Below.refl w.heap.size w)
 have HSR := Lib.hid (fun w hM => src_any w g (.slice mA nm cm) (.slice (some ⟨bc, oc, none⟩) n c) ea eb S i (right_is hr).b hM)
 obtain ⟨x, hx⟩ : ∃ x, srcU i S.regs = x := ⟨_, rfl⟩
 have HX := Lib.hid hx
 rw [hx] at HSR
 have gp1 : (S.pc : Int) < (n : Int) := by omega
 have gp0 : (0 : Int) ≤ (S.pc : Int) := by omega
 have gp2 : decide ((S.pc : Int) < 0) = false := by rw [decide_eq_false_iff_not]; omega
 have gp3 : decide ((n : Int) ≤ (S.pc : Int)) = false := by rw [decide_eq_false_iff_not]; omega
 have gp4 : decide (n ≤ S.pc) = false := by rw [decide_eq_false_iff_not]; omega
 clear hA hS' hok hoc hto hcn hts hpc hm hn hnm hnb hs hap hc hcp hM hr hcc hx
 obtain ⟨op, d, a, b, m⟩ := i
 unfold insVal at HSR
 dsimp only at HSR
 go_enter Tryd.func12, Tryd.ntmps12
 go_upto_region 1 with fail
 have O4 := Lib.hid (Ob.fresh w 57 [.int .i64 0, .int .i64 0, .int .i64 0, .int .i64 0, .int .u64 0, .int .u64 0, .int .u64 0])
 have B1 := Lib.hid (below_alloc (B0.out) (.cells #[.int .i64 0, .int .i64 0, .int .i64 0, .int .i64 0, .int .u64 0, .int .u64 0, .int .u64 0] 57))
 have Hq4 := Lib.hid (show w.heap.size ≤ w.heap.size by have := B0.out.size; omega)
 clear B0
 generalize (w.alloc (.cells #[.int .i64 0, .int .i64 0, .int .i64 0, .int .i64 0, .int .u64 0, .int .u64 0, .int .u64 0] 57)) = w1 at O4 B1 ⊢
 obtain ⟨q4, hq4⟩ : ∃ q4, w.heap.size = q4 := ⟨_, rfl⟩
 have Hq4 := Lib.hid (Nat.le_of_eq hq4)
 rw [hq4] at O4 ⊢
 clear hq4
 have M1 := Lib.hid (HM.out.below B1.out)
 have y92 := M1.out.pc_
 have y1 := M1.out.cs
 go_quiet (fail)
 have B2 := Lib.hid (below_drewN B1.out nq)
 have M2 := Lib.hid (show XAt (w1.drewN nq) g (.slice mA nm cm) (.slice (some ⟨bc, oc, none⟩) n c) ea eb S from M1.out)
 have O4b := Lib.hid (O4.out.drewN nq)
 clear M1 O4 B1 y92 y1 HM
 generalize w1.drewN nq = w2 at B2 M2 O4b ⊢
 have Y1 := Lib.hid M2.out.cs
 have Y92 := Lib.hid M2.out.pc_
 have HC2 := Lib.hid (And.intro (keepS B2.out HC.out.1) (And.intro (keepS B2.out HC.out.2.1) (And.intro (keepS B2.out HC.out.2.2.1) (And.intro (keepS B2.out HC.out.2.2.2.1) (keepS B2.out HC.out.2.2.2.2)))))
 go_upto_region 4 with fail
 have KS := Lib.hid (show ∀ w', Below w2.heap.size w2 w' → (w'.cell? ⟨g, 1, none⟩ = some (.slice (some ⟨bc, oc, none⟩) n c) ∧ w'.cell? ⟨g, 92, none⟩ = some (.int .i64 S.pc) ∧ w'.cell? ⟨bc, oc + S.pc * 5, none⟩ = some (.int .i64 op) ∧ w'.cell? ⟨bc, oc + S.pc * 5 + 1, none⟩ = some (.int .i64 d) ∧ w'.cell? ⟨bc, oc + S.pc * 5 + 2, none⟩ = some (.int .i64 a) ∧ w'.cell? ⟨bc, oc + S.pc * 5 + 3, none⟩ = some (.int .i64 b) ∧ w'.cell? ⟨bc, oc + S.pc * 5 + 4, none⟩ = some (.int .i64 m)) from fun w' hb => ⟨keepS hb Y1.out, keepS hb Y92.out, keepS hb HC2.out.1, keepS hb HC2.out.2.1, keepS hb HC2.out.2.2.1, keepS hb HC2.out.2.2.2.1, keepS hb HC2.out.2.2.2.2⟩)
 obtain ⟨wd, hwd⟩ : ∃ wd, w2.drew = wd := ⟨_, rfl⟩
 have BD := Lib.hid (show Below w2.heap.size w2 wd from hwd ▸ below_drewN (Below.refl w2.heap.size w2) 1)
 refine wp_region_held_drew (S := fun w' => (w'.cell? ⟨g, 1, none⟩ = some (.slice (some ⟨bc, oc, none⟩) n c) ∧ w'.cell? ⟨g, 92, none⟩ = some (.int .i64 S.pc) ∧ w'.cell? ⟨bc, oc + S.pc * 5, none⟩ = some (.int .i64 op) ∧ w'.cell? ⟨bc, oc + S.pc * 5 + 1, none⟩ = some (.int .i64 d) ∧ w'.cell? ⟨bc, oc + S.pc * 5 + 2, none⟩ = some (.int .i64 a) ∧ w'.cell? ⟨bc, oc + S.pc * 5 + 3, none⟩ = some (.int .i64 b) ∧ w'.cell? ⟨bc, oc + S.pc * 5 + 4, none⟩ = some (.int .i64 m))) (by kernel_rfl) (hwd ▸ KS.out wd BD.out) (fun hHeld => ?_)
 refine tkq 0 32 rfl (by kernel_rfl) (by rfl) hHeld (fun _ _ _ h => h) (by intro w' hSw; go_simp; try with_reducible rfl) ?_
 simp only [Act.put, spa, spb, spc]
 refine tkq 1 33 rfl (by kernel_rfl) (by rfl) hHeld (fun _ _ _ h => h) (by intro w' hSw; go_simp; try with_reducible rfl) ?_
 simp only [Act.put, spa, spb, spc]
 refine tkq 2 34 rfl (by kernel_rfl) (by rfl) hHeld (fun _ _ _ h => h) (by intro w' hSw; go_simp; try with_reducible rfl) ?_
 simp only [Act.put, spa, spb, spc]
 refine tkq 3 35 rfl (by kernel_rfl) (by rfl) hHeld (fun _ _ _ h => h) (by intro w' hSw; go_simp; try with_reducible rfl) ?_
 simp only [Act.put, spa, spb, spc]
 refine tkq 4 36 rfl (by kernel_rfl) (by rfl) hHeld (fun _ _ _ h => h) (by intro w' hSw; go_simp; try with_reducible rfl) ?_
 simp only [Act.put, spa, spb, spc]
 refine tkq 5 37 rfl (by kernel_rfl) (by rfl) hHeld (fun _ _ _ h => h) (by intro w' hSw; go_simp; try with_reducible rfl) ?_
 simp only [Act.put, spa, spb, spc]
 refine tkq 6 38 rfl (by kernel_rfl) (by rfl) hHeld (fun _ _ _ h => h) (by intro w' hSw; go_simp; try with_reducible rfl) ?_
 simp only [Act.put, spa, spb, spc]
 refine tkq 7 39 rfl (by kernel_rfl) (by rfl) hHeld (fun _ _ _ h => h) (by intro w' hSw; go_simp; try with_reducible rfl) ?_
 simp only [Act.put, spa, spb, spc]
 refine tkq 8 40 rfl (by kernel_rfl) (by rfl) hHeld (fun _ _ _ h => h) (by intro w' hSw; go_simp; try with_reducible rfl) ?_
 simp only [Act.put, spa, spb, spc]
 refine tkq 9 41 rfl (by kernel_rfl) (by rfl) hHeld (fun _ _ _ h => h) (by intro w' hSw; go_simp; try with_reducible rfl) ?_
 simp only [Act.put, spa, spb, spc]
 refine tkq 10 42 rfl (by kernel_rfl) (by rfl) hHeld (fun _ _ _ h => h) (by intro w' hSw; go_simp; try with_reducible rfl) ?_
 simp only [Act.put, spa, spb, spc]
 refine rdq 11 ⟨some 5, _, _, _, _, _⟩ (by kernel_rfl) rfl (fun K' hK => ?_)
 go_simp
 refine hK.out _ _ (KS.out _ (below_alloc BD.out (.cells #[.int .i64 0, .int .i64 0, .int .i64 0, .int .i64 0, .int .i64 0] 70))) (fun hHeld => ?_)
 clear hK K'
 clear hHeld
 have NI := Lib.hid (Ob.fresh wd 70 [.int .i64 0, .int .i64 0, .int .i64 0, .int .i64 0, .int .i64 0])
 have BA := Lib.hid (below_alloc (BD.out) (.cells #[.int .i64 0, .int .i64 0, .int .i64 0, .int .i64 0, .int .i64 0] 70))
 have Hq5 := Lib.hid (show w2.heap.size ≤ wd.heap.size by have := BD.out.size; omega)
 clear BD
 generalize (wd.alloc (.cells #[.int .i64 0, .int .i64 0, .int .i64 0, .int .i64 0, .int .i64 0] 70)) = wa at NI BA ⊢
 obtain ⟨q5, hq5⟩ : ∃ q5, wd.heap.size = q5 := ⟨_, rfl⟩
 rw [hq5] at NI Hq5 ⊢
 clear hq5
 have hHeld := KS.out _ BA.out
 refine rdq 12 ⟨none, _, _, _, _, _⟩ (by kernel_rfl) rfl (fun K' hK => ?_)
 have z0 := NI.out.c0
 have z1 := NI.out.c1
 have z2 := NI.out.c2
 have z3 := NI.out.c3
 have z4 := NI.out.c4
 have zf : ∀ x, wa.frozen? ⟨q5, x, none⟩ = false := NI.out.frozen
 go_simp
 refine hK.out _ _ (KS.out _ (Below.setCell (Below.setCell (Below.setCell (Below.setCell (Below.setCell BA.out (p := ⟨q5, 0, none⟩) Hq5.out (.int .i64 op)) (p := ⟨q5, 1, none⟩) Hq5.out (.int .i64 d)) (p := ⟨q5, 2, none⟩) Hq5.out (.int .i64 a)) (p := ⟨q5, 3, none⟩) Hq5.out (.int .i64 b)) (p := ⟨q5, 4, none⟩) Hq5.out (.int .i64 m))) (fun hHeld => ?_)
 clear hK K'
 clear hHeld z0 z1 z2 z3 z4 zf
 have BF := Lib.hid (Below.setCell (Below.setCell (Below.setCell (Below.setCell (Below.setCell BA.out (p := ⟨q5, 0, none⟩) Hq5.out (.int .i64 op)) (p := ⟨q5, 1, none⟩) Hq5.out (.int .i64 d)) (p := ⟨q5, 2, none⟩) Hq5.out (.int .i64 a)) (p := ⟨q5, 3, none⟩) Hq5.out (.int .i64 b)) (p := ⟨q5, 4, none⟩) Hq5.out (.int .i64 m))
 have IF := Lib.hid (show Ob (((((wa.setCell ⟨q5, 0, none⟩ (.int .i64 op)).setCell ⟨q5, 1, none⟩ (.int .i64 d)).setCell ⟨q5, 2, none⟩ (.int .i64 a)).setCell ⟨q5, 3, none⟩ (.int .i64 b)).setCell ⟨q5, 4, none⟩ (.int .i64 m)) q5 70 [.int .i64 op, .int .i64 d, .int .i64 a, .int .i64 b, .int .i64 m] from (((((NI.out.set_ 0 _).set_ 1 _).set_ 2 _).set_ 3 _).set_ 4 _))
 refine wpAnyH_done (by kernel_rfl) ?_ _
 clear KS hwd NI BA
 generalize (((((wa.setCell ⟨q5, 0, none⟩ (.int .i64 op)).setCell ⟨q5, 1, none⟩ (.int .i64 d)).setCell ⟨q5, 2, none⟩ (.int .i64 a)).setCell ⟨q5, 3, none⟩ (.int .i64 b)).setCell ⟨q5, 4, none⟩ (.int .i64 m)) = w3 at BF IF ⊢
 have B3 := Lib.hid (B2.out.trans (BF.out.mono B2.out.size))
 have M3 := Lib.hid (M2.out.below BF.out)
 have O4c := Lib.hid (O4b.out.below BF.out O4b.out.lt)
 clear B2 BF M2 O4b Y1 Y92 HC2 HC gp2 gp3 gp4 gp1 gp0
 have y92 := M3.out.pc_
 go_upto_region 6 with fail
 clear y92
 have N46 := Lib.hid (show q4 ≠ w3.heap.size from Nat.ne_of_lt O4c.out.lt)
 have BM4 := Lib.hid (M3.out.below (below_alloc (Below.refl w3.heap.size w3) (.cells #[.int .i64 1, .int .i64 S.pc, .int .i64 0, .int .i64 0, .int .u64 0, .int .u64 0, .int .u64 0] 57)))
 have O6 := Lib.hid (Ob.fresh w3 57 [.int .i64 1, .int .i64 S.pc, .int .i64 0, .int .i64 0, .int .u64 0, .int .u64 0, .int .u64 0])
 have O4d := Lib.hid (Ob.alloc (O4c.out) (.cells #[.int .i64 1, .int .i64 S.pc, .int .i64 0, .int .i64 0, .int .u64 0, .int .u64 0, .int .u64 0] 57))
 have I4 := Lib.hid (Ob.alloc (IF.out) (.cells #[.int .i64 1, .int .i64 S.pc, .int .i64 0, .int .i64 0, .int .u64 0, .int .u64 0, .int .u64 0] 57))
 have B4 := Lib.hid (below_alloc (B3.out) (.cells #[.int .i64 1, .int .i64 S.pc, .int .i64 0, .int .i64 0, .int .u64 0, .int .u64 0, .int .u64 0] 57))
 have Hq6 := Lib.hid (show w.heap.size ≤ w3.heap.size by have := B3.out.size; omega)
 clear B3 O4c IF
 generalize (w3.alloc (.cells #[.int .i64 1, .int .i64 S.pc, .int .i64 0, .int .i64 0, .int .u64 0, .int .u64 0, .int .u64 0] 57)) = w4 at BM4 O6 O4d I4 B4 ⊢
 obtain ⟨q6, hq6⟩ : ∃ q6, w3.heap.size = q6 := ⟨_, rfl⟩
 rw [hq6] at O6 N46 Hq6 ⊢
 clear hq6
 have M4 := Lib.hid (show XAt w4 g (.slice mA nm cm) (.slice (some ⟨bc, oc, none⟩) n c) ea eb S from BM4.out)
 have X4 := Lib.hid (show XSt w w4 g q4 q5 q6 (.slice mA nm cm) (.slice (some ⟨bc, oc, none⟩) n c) ea eb S ⟨op, d, a, b, m⟩ ⟨1, S.pc, 0, 0, 0#64, 0#64, 0#64⟩ from
  ⟨M4.out, O4d.out, I4.out, O6.out, Tch.of_below B4.out, Hq4.out, Hq6.out, N46.out⟩)
 clear M3 M4 BM4 O4d I4 O6 B4 Hq4 Hq6 Hq5 N46
 obtain ⟨ra, rfl⟩ : ∃ ra : Nat, a = ra := ⟨a.toNat, by have := HI.out.a0; dsimp only at this; omega⟩
 obtain ⟨rd, rfl⟩ : ∃ rd : Nat, d = rd := ⟨d.toNat, by have := HI.out.d0; dsimp only at this; omega⟩
 have HRA := Lib.hid (show ra < 8 by have := HI.out.a1; dsimp only at this; omega)
 have HRD := Lib.hid (show rd ≤ 63 by have := HI.out.d1; dsimp only at this; omega)
 have h1 : decide ((rd : Int) < 0) = false := by rw [decide_eq_false_iff_not]; omega
 have h2 : decide ((63 : Int) < (rd : Int)) = false := by have := HRD.out; rw [decide_eq_false_iff_not]; omega
 have h3 : decide (63 < rd) = false := by have := HRD.out; rw [decide_eq_false_iff_not]; omega
 have h4 : decide ((ra : Int) < 0) = false := by rw [decide_eq_false_iff_not]; omega
 have h5 : decide ((7 : Int) < (ra : Int)) = false := by have := HRA.out; rw [decide_eq_false_iff_not]; omega
 have h6 : decide (7 < ra) = false := by have := HRA.out; rw [decide_eq_false_iff_not]; omega
 have i0 : w4.cell? ⟨q5, 0, none⟩ = some (.int .i64 op) := X4.out.o5.cell 0
 have i1 : w4.cell? ⟨q5, 1, none⟩ = some (.int .i64 (rd : Int)) := X4.out.o5.cell 1
 have i2 : w4.cell? ⟨q5, 2, none⟩ = some (.int .i64 (ra : Int)) := X4.out.o5.cell 2
 have i3 : w4.cell? ⟨q5, 3, none⟩ = some (.int .i64 b) := X4.out.o5.cell 3
 have i4 : w4.cell? ⟨q5, 4, none⟩ = some (.int .i64 m) := X4.out.o5.cell 4
 have y92 := X4.out.M.pc_
 have gpc : wrap64 ((S.pc : Int) + 1) = (S.pc : Int) + 1 := by have := HPC.out; unfold wrap64; omega
 go_wp2_with fail
 refine (HSR.out w4 X4.out.M).mono ?_
 rintro e w5 ⟨rfl, b5⟩
 have X5 := Lib.hid (X4.out.below b5)
 clear b5 X4 y92 i0 i1 i2 i3 i4 HSR
 have hop : op = 0 ∨ op = 11 ∨ op = 12 ∨ op = 13 ∨ op = 14 ∨ op = 15 ∨ op = 20 ∨ op = 21 ∨ op = 22 ∨ (1 ≤ op ∧ op ≤ 10) ∨ (16 ≤ op ∧ op ≤ 19) := by have h1 := HI.out.o0; have h2 := HI.out.o1; dsimp only at h1 h2; omega
 clear h1 h2 h3 h4 h5 h6
 rcases hop with rfl | rfl | rfl | rfl | rfl | rfl | rfl | rfl | rfl | hop | hop
 · have hrd : rd < 8 := by have := HI.out.d8 (by first | decide | (dsimp only; omega)); dsimp only at this; omega
   have HR8 := Lib.hid hrd
   have g1 : (rd : Int) < 8 := by omega
   have g0 : (0 : Int) ≤ (rd : Int) := by omega
   have h7 : decide ((7 : Int) < (rd : Int)) = false := by rw [decide_eq_false_iff_not]; omega
   have h8 : decide (7 < rd) = false := by rw [decide_eq_false_iff_not]; omega
   clear hrd
   have HS2 := Lib.hid (show ({ S with steps := S.steps + 1, regs := upd S.regs rd x, pc := S.pc + 1 } : StV) = S' from by rw [← HS.out, ← HX.out]; rfl)
   have HA2 := Lib.hid (show (⟨1, S.pc, 0, 0, 0#64, 0#64, 0#64⟩ : ActV) = A from by rw [← HA.out]; rfl)
   clear HS HA
   have i0 : w5.cell? ⟨q5, 0, none⟩ = some (.int .i64 0) := X5.out.o5.cell 0
   have i1 : w5.cell? ⟨q5, 1, none⟩ = some (.int .i64 (rd : Int)) := X5.out.o5.cell 1
   have i2 : w5.cell? ⟨q5, 2, none⟩ = some (.int .i64 (ra : Int)) := X5.out.o5.cell 2
   have i3 : w5.cell? ⟨q5, 3, none⟩ = some (.int .i64 b) := X5.out.o5.cell 3
   have i4 : w5.cell? ⟨q5, 4, none⟩ = some (.int .i64 m) := X5.out.o5.cell 4
   go_upto_region 19 with fail
   clear i0 i1 i2 i3 i4
   obtain ⟨wd, hwd⟩ : ∃ wd, w5.drew = wd := ⟨_, rfl⟩
   have XD := Lib.hid (hwd ▸ X5.out.drew)
   clear X5
   refine wp_region_held_drew (S := fun w' => (w'.cell? ⟨q5, 0, none⟩ = some (.int .i64 0) ∧ w'.cell? ⟨q5, 1, none⟩ = some (.int .i64 (rd : Int)) ∧ w'.cell? ⟨q5, 2, none⟩ = some (.int .i64 (ra : Int)) ∧ w'.cell? ⟨q5, 3, none⟩ = some (.int .i64 b) ∧ w'.cell? ⟨q5, 4, none⟩ = some (.int .i64 m))) (by kernel_rfl) (by rw [hwd]; exact ⟨XD.out.o5.cell 0, XD.out.o5.cell 1, XD.out.o5.cell 2, XD.out.o5.cell 3, XD.out.o5.cell 4⟩) (fun hHeld => ?_)
   refine tkq 0 117 rfl (by kernel_rfl) (by rfl) hHeld (fun _ _ _ h => h) (by intro w' hSw; go_simp; try with_reducible rfl) ?_
   simp only [Act.put, spa, spb, spc]
   refine tkq 1 118 rfl (by kernel_rfl) (by rfl) hHeld (fun _ _ _ h => h) (by intro w' hSw; go_simp; try with_reducible rfl) ?_
   simp only [Act.put, spa, spb, spc]
   refine tkq 2 119 rfl (by kernel_rfl) (by rfl) hHeld (fun _ _ _ h => h) (by intro w' hSw; go_simp; try with_reducible rfl) ?_
   simp only [Act.put, spa, spb, spc]
   refine tkq 3 120 rfl (by kernel_rfl) (by rfl) hHeld (fun _ _ _ h => h) (by intro w' hSw; go_simp; try with_reducible rfl) ?_
   simp only [Act.put, spa, spb, spc]
   refine tkq 4 121 rfl (by kernel_rfl) (by rfl) hHeld (fun _ _ _ h => h) (by intro w' hSw; go_simp; try with_reducible rfl) ?_
   simp only [Act.put, spa, spb, spc]
   refine tkq 5 122 rfl (by kernel_rfl) (by rfl) hHeld (fun _ _ _ h => h) (by intro w' hSw; go_simp; try with_reducible rfl) ?_
   simp only [Act.put, spa, spb, spc]
   refine tkq 6 123 rfl (by kernel_rfl) (by rfl) hHeld (fun _ _ _ h => h) (by intro w' hSw; go_simp; try with_reducible rfl) ?_
   simp only [Act.put, spa, spb, spc]
   refine rdq 7 ⟨none, _, _, _, _, _⟩ (by kernel_rfl) rfl (fun K' hK => ?_)
   have r0 := XD.out.M.reg HR8.out
   have fz : ∀ x, wd.frozen? ⟨g, x, none⟩ = false := Ob.frozen XD.out.M
   go_simp
   have XY := Lib.hid (XD.out.setReg HR8.out x)
   refine hK.out _ _ ⟨XY.out.o5.cell 0, XY.out.o5.cell 1, XY.out.o5.cell 2, XY.out.o5.cell 3, XY.out.o5.cell 4⟩ (fun hHeld => ?_)
   clear hK K'
   clear hHeld r0 fz
   refine wpAnyH_done (by kernel_rfl) ?_ _
   clear hwd XD
   generalize wd.setCell ⟨g, 4 + rd, none⟩ (.int .u64 (uv x)) = w6 at XY ⊢
   have y92 := XY.out.M.pc_
   have zg : ∀ x, w6.frozen? ⟨g, x, none⟩ = false := Ob.frozen XY.out.M
   go_upto_region 66 with fail
   clear y92 zg
   have XP := Lib.hid (XY.out.setPc (S.pc + 1))
   push_cast at XP
   generalize w6.setCell ⟨g, 92, none⟩ (.int .i64 ((S.pc : Int) + 1)) = wp at XP ⊢
   obtain ⟨v0, v1, v2, v3, v4, v5, v6⟩ := acc_at XP.out.o6
   obtain ⟨x0, x1, x2, x3, x4, x5, x6⟩ := acc_at XP.out.o4
   simp only [ac0, uv_zero] at v0 v1 v2 v3 v4 v5 v6 x0 x1 x2 x3 x4 x5 x6
   have z4 : ∀ x, wp.frozen? ⟨q4, x, none⟩ = false := XP.out.o4.frozen
   go_wp2_with fail
   exact XP.out.fin rfl HA2.out HS2.out rfl rfl rfl rfl
 · have hrd : rd < 8 := by have := HI.out.d8 (by first | decide | (dsimp only; omega)); dsimp only at this; omega
   have HR8 := Lib.hid hrd
   have g1 : (rd : Int) < 8 := by omega
   have g0 : (0 : Int) ≤ (rd : Int) := by omega
   have h7 : decide ((7 : Int) < (rd : Int)) = false := by rw [decide_eq_false_iff_not]; omega
   have h8 : decide (7 < rd) = false := by rw [decide_eq_false_iff_not]; omega
   clear hrd
   have hx16 : x.toNat < 16 := by have := HOK.out (by first | decide | (dsimp only; omega)); rw [HX.out] at this; exact this
   obtain ⟨j, hj⟩ : ∃ j, x.toNat = j := ⟨_, rfl⟩
   have HXJ := Lib.hid hj
   rw [hj] at hx16
   have gx : uv x = (j : Int) := by unfold uv; omega
   have HJ16 := Lib.hid hx16
   have gj1 : (j : Int) < 16 := by omega
   have gj0 : (0 : Int) ≤ (j : Int) := by omega
   have gj2 : decide ((15 : Int) < (j : Int)) = false := by rw [decide_eq_false_iff_not]; omega
   have gj3 : decide (15 < j) = false := by rw [decide_eq_false_iff_not]; omega
   have gj4 : decide ((15 : Int) < uv x) = false := by rw [gx, decide_eq_false_iff_not]; omega
   clear hj hx16
   have HS2 := Lib.hid (show ({ S with steps := S.steps + 1, regs := upd S.regs rd (S.words j), pc := S.pc + 1 } : StV) = S' from by rw [← HS.out, ← HXJ.out, ← HX.out]; rfl)
   have HA2 := Lib.hid (show (⟨1, S.pc, 0, 0, 0#64, 0#64, 0#64⟩ : ActV) = A from by rw [← HA.out]; rfl)
   clear HS HA
   have i0 : w5.cell? ⟨q5, 0, none⟩ = some (.int .i64 11) := X5.out.o5.cell 0
   have i1 : w5.cell? ⟨q5, 1, none⟩ = some (.int .i64 (rd : Int)) := X5.out.o5.cell 1
   have i2 : w5.cell? ⟨q5, 2, none⟩ = some (.int .i64 (ra : Int)) := X5.out.o5.cell 2
   have i3 : w5.cell? ⟨q5, 3, none⟩ = some (.int .i64 b) := X5.out.o5.cell 3
   have i4 : w5.cell? ⟨q5, 4, none⟩ = some (.int .i64 m) := X5.out.o5.cell 4
   rw [gx]
   go_upto_region 27 with fail
   clear i0 i1 i2 i3 i4
   obtain ⟨wd, hwd⟩ : ∃ wd, w5.drew = wd := ⟨_, rfl⟩
   have XD := Lib.hid (hwd ▸ X5.out.drew)
   clear X5
   refine wp_region_held_drew (S := fun w' => (w'.cell? ⟨q5, 0, none⟩ = some (.int .i64 11) ∧ w'.cell? ⟨q5, 1, none⟩ = some (.int .i64 (rd : Int)) ∧ w'.cell? ⟨q5, 2, none⟩ = some (.int .i64 (ra : Int)) ∧ w'.cell? ⟨q5, 3, none⟩ = some (.int .i64 b) ∧ w'.cell? ⟨q5, 4, none⟩ = some (.int .i64 m) ∧ w'.cell? ⟨g, 12 + j, none⟩ = some (.int .u64 (uv (S.words j))))) (by kernel_rfl) (by rw [hwd]; exact ⟨XD.out.o5.cell 0, XD.out.o5.cell 1, XD.out.o5.cell 2, XD.out.o5.cell 3, XD.out.o5.cell 4, XD.out.M.word HJ16.out⟩) (fun hHeld => ?_)
   refine tkq 0 168 rfl (by kernel_rfl) (by rfl) hHeld (fun _ _ _ h => h) (by intro w' hSw; go_simp; try with_reducible rfl) ?_
   simp only [Act.put, spa, spb, spc]
   refine tkq 1 169 rfl (by kernel_rfl) (by rfl) hHeld (fun _ _ _ h => h) (by intro w' hSw; go_simp; try with_reducible rfl) ?_
   simp only [Act.put, spa, spb, spc]
   refine tkq 2 170 rfl (by kernel_rfl) (by rfl) hHeld (fun _ _ _ h => h) (by intro w' hSw; go_simp; try with_reducible rfl) ?_
   simp only [Act.put, spa, spb, spc]
   refine tkq 3 171 rfl (by kernel_rfl) (by rfl) hHeld (fun _ _ _ h => h) (by intro w' hSw; go_simp; try with_reducible rfl) ?_
   simp only [Act.put, spa, spb, spc]
   refine tkq 4 172 rfl (by kernel_rfl) (by rfl) hHeld (fun _ _ _ h => h) (by intro w' hSw; go_simp; try with_reducible rfl) ?_
   simp only [Act.put, spa, spb, spc]
   refine tkq 5 173 rfl (by kernel_rfl) (by rfl) hHeld (fun _ _ _ h => h) (by intro w' hSw; go_simp; try with_reducible rfl) ?_
   simp only [Act.put, spa, spb, spc]
   refine tkq 6 174 rfl (by kernel_rfl) (by rfl) hHeld (fun _ _ _ h => h) (by intro w' hSw; go_simp; try with_reducible rfl) ?_
   simp only [Act.put, spa, spb, spc]
   refine tkq 7 175 rfl (by kernel_rfl) (by rfl) hHeld (fun _ _ _ h => h) (by intro w' hSw; go_simp; try with_reducible rfl) ?_
   simp only [Act.put, spa, spb, spc]
   refine tkq 8 176 rfl (by kernel_rfl) (by rfl) hHeld (fun _ _ _ h => h) (by intro w' hSw; go_simp; try with_reducible rfl) ?_
   simp only [Act.put, spa, spb, spc]
   refine tkq 9 177 rfl (by kernel_rfl) (by rfl) hHeld (fun _ _ _ h => h) (by intro w' hSw; go_simp; try with_reducible rfl) ?_
   simp only [Act.put, spa, spb, spc]
   refine tkq 10 178 rfl (by kernel_rfl) (by rfl) hHeld (fun _ _ _ h => h) (by intro w' hSw; go_simp; try with_reducible rfl) ?_
   simp only [Act.put, spa, spb, spc]
   refine tkq 11 179 rfl (by kernel_rfl) (by rfl) hHeld (fun _ _ _ h => h) (by intro w' hSw; go_simp; try with_reducible rfl) ?_
   simp only [Act.put, spa, spb, spc]
   refine rdq 12 ⟨none, _, _, _, _, _⟩ (by kernel_rfl) rfl (fun K' hK => ?_)
   have r0 := XD.out.M.reg HR8.out
   have fz : ∀ x, wd.frozen? ⟨g, x, none⟩ = false := Ob.frozen XD.out.M
   go_simp
   have XY := Lib.hid (XD.out.setReg HR8.out (S.words j))
   refine hK.out _ _ ⟨XY.out.o5.cell 0, XY.out.o5.cell 1, XY.out.o5.cell 2, XY.out.o5.cell 3, XY.out.o5.cell 4, XY.out.M.word HJ16.out⟩ (fun hHeld => ?_)
   clear hK K'
   clear hHeld r0 fz
   refine wpAnyH_done (by kernel_rfl) ?_ _
   clear hwd XD
   generalize wd.setCell ⟨g, 4 + rd, none⟩ (.int .u64 (uv (S.words j))) = w6 at XY ⊢
   have y92 := XY.out.M.pc_
   have zg : ∀ x, w6.frozen? ⟨g, x, none⟩ = false := Ob.frozen XY.out.M
   go_upto_region 66 with fail
   clear y92 zg
   have XP := Lib.hid (XY.out.setPc (S.pc + 1))
   push_cast at XP
   generalize w6.setCell ⟨g, 92, none⟩ (.int .i64 ((S.pc : Int) + 1)) = wp at XP ⊢
   obtain ⟨v0, v1, v2, v3, v4, v5, v6⟩ := acc_at XP.out.o6
   obtain ⟨x0, x1, x2, x3, x4, x5, x6⟩ := acc_at XP.out.o4
   simp only [ac0, uv_zero] at v0 v1 v2 v3 v4 v5 v6 x0 x1 x2 x3 x4 x5 x6
   have z4 : ∀ x, wp.frozen? ⟨q4, x, none⟩ = false := XP.out.o4.frozen
   go_wp2_with fail
   exact XP.out.fin rfl HA2.out HS2.out rfl rfl rfl rfl
 · have hx16 : x.toNat < 16 := by have := HOK.out (by first | decide | (dsimp only; omega)); rw [HX.out] at this; exact this
   obtain ⟨j, hj⟩ : ∃ j, x.toNat = j := ⟨_, rfl⟩
   have HXJ := Lib.hid hj
   rw [hj] at hx16
   have gx : uv x = (j : Int) := by unfold uv; omega
   have HJ16 := Lib.hid hx16
   have gj1 : (j : Int) < 16 := by omega
   have gj0 : (0 : Int) ≤ (j : Int) := by omega
   have gj2 : decide ((15 : Int) < (j : Int)) = false := by rw [decide_eq_false_iff_not]; omega
   have gj3 : decide (15 < j) = false := by rw [decide_eq_false_iff_not]; omega
   have gj4 : decide ((15 : Int) < uv x) = false := by rw [gx, decide_eq_false_iff_not]; omega
   clear hj hx16
   have g3 : (ra : Int) < 8 := by have := HRA.out; omega
   have g4 : (0 : Int) ≤ (ra : Int) := by omega
   have HS2 := Lib.hid (show ({ S with steps := S.steps + 1, words := upd S.words j (S.regs ra), pc := S.pc + 1 } : StV) = S' from by rw [← HS.out, ← HXJ.out, ← HX.out]; rfl)
   have HA2 := Lib.hid (show (⟨1, S.pc, 0, 0, 0#64, 0#64, 0#64⟩ : ActV) = A from by rw [← HA.out]; rfl)
   clear HS HA
   have i0 : w5.cell? ⟨q5, 0, none⟩ = some (.int .i64 12) := X5.out.o5.cell 0
   have i1 : w5.cell? ⟨q5, 1, none⟩ = some (.int .i64 (rd : Int)) := X5.out.o5.cell 1
   have i2 : w5.cell? ⟨q5, 2, none⟩ = some (.int .i64 (ra : Int)) := X5.out.o5.cell 2
   have i3 : w5.cell? ⟨q5, 3, none⟩ = some (.int .i64 b) := X5.out.o5.cell 3
   have i4 : w5.cell? ⟨q5, 4, none⟩ = some (.int .i64 m) := X5.out.o5.cell 4
   rw [gx]
   go_upto_region 28 with fail
   clear i0 i1 i2 i3 i4
   obtain ⟨wd, hwd⟩ : ∃ wd, w5.drew = wd := ⟨_, rfl⟩
   have XD := Lib.hid (hwd ▸ X5.out.drew)
   clear X5
   refine wp_region_held_drew (S := fun w' => (w'.cell? ⟨q5, 0, none⟩ = some (.int .i64 12) ∧ w'.cell? ⟨q5, 1, none⟩ = some (.int .i64 (rd : Int)) ∧ w'.cell? ⟨q5, 2, none⟩ = some (.int .i64 (ra : Int)) ∧ w'.cell? ⟨q5, 3, none⟩ = some (.int .i64 b) ∧ w'.cell? ⟨q5, 4, none⟩ = some (.int .i64 m) ∧ w'.cell? ⟨g, 4 + ra, none⟩ = some (.int .u64 (uv (S.regs ra))))) (by kernel_rfl) (by rw [hwd]; exact ⟨XD.out.o5.cell 0, XD.out.o5.cell 1, XD.out.o5.cell 2, XD.out.o5.cell 3, XD.out.o5.cell 4, XD.out.M.reg HRA.out⟩) (fun hHeld => ?_)
   refine tkq 0 180 rfl (by kernel_rfl) (by rfl) hHeld (fun _ _ _ h => h) (by intro w' hSw; go_simp; try with_reducible rfl) ?_
   simp only [Act.put, spa, spb, spc]
   refine tkq 1 181 rfl (by kernel_rfl) (by rfl) hHeld (fun _ _ _ h => h) (by intro w' hSw; go_simp; try with_reducible rfl) ?_
   simp only [Act.put, spa, spb, spc]
   refine tkq 2 182 rfl (by kernel_rfl) (by rfl) hHeld (fun _ _ _ h => h) (by intro w' hSw; go_simp; try with_reducible rfl) ?_
   simp only [Act.put, spa, spb, spc]
   refine tkq 3 183 rfl (by kernel_rfl) (by rfl) hHeld (fun _ _ _ h => h) (by intro w' hSw; go_simp; try with_reducible rfl) ?_
   simp only [Act.put, spa, spb, spc]
   refine tkq 4 184 rfl (by kernel_rfl) (by rfl) hHeld (fun _ _ _ h => h) (by intro w' hSw; go_simp; try with_reducible rfl) ?_
   simp only [Act.put, spa, spb, spc]
   refine tkq 5 185 rfl (by kernel_rfl) (by rfl) hHeld (fun _ _ _ h => h) (by intro w' hSw; go_simp; try with_reducible rfl) ?_
   simp only [Act.put, spa, spb, spc]
   refine tkq 6 186 rfl (by kernel_rfl) (by rfl) hHeld (fun _ _ _ h => h) (by intro w' hSw; go_simp; try with_reducible rfl) ?_
   simp only [Act.put, spa, spb, spc]
   refine tkq 7 187 rfl (by kernel_rfl) (by rfl) hHeld (fun _ _ _ h => h) (by intro w' hSw; go_simp; try with_reducible rfl) ?_
   simp only [Act.put, spa, spb, spc]
   refine tkq 8 188 rfl (by kernel_rfl) (by rfl) hHeld (fun _ _ _ h => h) (by intro w' hSw; go_simp; try with_reducible rfl) ?_
   simp only [Act.put, spa, spb, spc]
   refine tkq 9 189 rfl (by kernel_rfl) (by rfl) hHeld (fun _ _ _ h => h) (by intro w' hSw; go_simp; try with_reducible rfl) ?_
   simp only [Act.put, spa, spb, spc]
   refine tkq 10 190 rfl (by kernel_rfl) (by rfl) hHeld (fun _ _ _ h => h) (by intro w' hSw; go_simp; try with_reducible rfl) ?_
   simp only [Act.put, spa, spb, spc]
   refine tkq 11 191 rfl (by kernel_rfl) (by rfl) hHeld (fun _ _ _ h => h) (by intro w' hSw; go_simp; try with_reducible rfl) ?_
   simp only [Act.put, spa, spb, spc]
   refine rdq 12 ⟨none, _, _, _, _, _⟩ (by kernel_rfl) rfl (fun K' hK => ?_)
   have r0 := XD.out.M.word HJ16.out
   have fz : ∀ x, wd.frozen? ⟨g, x, none⟩ = false := Ob.frozen XD.out.M
   go_simp
   have XY := Lib.hid (XD.out.setWord HJ16.out (S.regs ra))
   refine hK.out _ _ ⟨XY.out.o5.cell 0, XY.out.o5.cell 1, XY.out.o5.cell 2, XY.out.o5.cell 3, XY.out.o5.cell 4, XY.out.M.reg HRA.out⟩ (fun hHeld => ?_)
   clear hK K'
   clear hHeld r0 fz
   refine wpAnyH_done (by kernel_rfl) ?_ _
   clear hwd XD
   generalize wd.setCell ⟨g, 12 + j, none⟩ (.int .u64 (uv (S.regs ra))) = w6 at XY ⊢
   have y92 := XY.out.M.pc_
   have zg : ∀ x, w6.frozen? ⟨g, x, none⟩ = false := Ob.frozen XY.out.M
   go_upto_region 66 with fail
   clear y92 zg
   have XP := Lib.hid (XY.out.setPc (S.pc + 1))
   push_cast at XP
   generalize w6.setCell ⟨g, 92, none⟩ (.int .i64 ((S.pc : Int) + 1)) = wp at XP ⊢
   obtain ⟨v0, v1, v2, v3, v4, v5, v6⟩ := acc_at XP.out.o6
   obtain ⟨x0, x1, x2, x3, x4, x5, x6⟩ := acc_at XP.out.o4
   simp only [ac0, uv_zero] at v0 v1 v2 v3 v4 v5 v6 x0 x1 x2 x3 x4 x5 x6
   have z4 : ∀ x, wp.frozen? ⟨q4, x, none⟩ = false := XP.out.o4.frozen
   go_wp2_with fail
   exact XP.out.fin rfl HA2.out HS2.out rfl rfl rfl rfl
 · have hrd : rd < 8 := by have := HI.out.d8 (by first | decide | (dsimp only; omega)); dsimp only at this; omega
   have HR8 := Lib.hid hrd
   have g1 : (rd : Int) < 8 := by omega
   have g0 : (0 : Int) ≤ (rd : Int) := by omega
   have h7 : decide ((7 : Int) < (rd : Int)) = false := by rw [decide_eq_false_iff_not]; omega
   have h8 : decide (7 < rd) = false := by rw [decide_eq_false_iff_not]; omega
   clear hrd
   have hm : m = 0 ∨ m = 1 := HI.out.f rfl
   rcases hm with rfl | rfl
   · have HS2 := Lib.hid (show ({ S with steps := S.steps + 1, regs := upd S.regs rd ea, pc := S.pc + 1 } : StV) = S' from by rw [← HS.out]; rfl)
     have HA2 := Lib.hid (show (⟨1, S.pc, 0, 0, 0#64, 0#64, 0#64⟩ : ActV) = A from by rw [← HA.out]; rfl)
     clear HS HA
     have i0 : w5.cell? ⟨q5, 0, none⟩ = some (.int .i64 13) := X5.out.o5.cell 0
     have i1 : w5.cell? ⟨q5, 1, none⟩ = some (.int .i64 (rd : Int)) := X5.out.o5.cell 1
     have i2 : w5.cell? ⟨q5, 2, none⟩ = some (.int .i64 (ra : Int)) := X5.out.o5.cell 2
     have i3 : w5.cell? ⟨q5, 3, none⟩ = some (.int .i64 b) := X5.out.o5.cell 3
     have i4 : w5.cell? ⟨q5, 4, none⟩ = some (.int .i64 0) := X5.out.o5.cell 4
     go_upto_region 30 with fail
     clear i0 i1 i2 i3 i4
     obtain ⟨wd, hwd⟩ : ∃ wd, w5.drew = wd := ⟨_, rfl⟩
     have XD := Lib.hid (hwd ▸ X5.out.drew)
     clear X5
     refine wp_region_held_drew (S := fun w' => (w'.cell? ⟨q5, 0, none⟩ = some (.int .i64 13) ∧ w'.cell? ⟨q5, 1, none⟩ = some (.int .i64 (rd : Int)) ∧ w'.cell? ⟨q5, 2, none⟩ = some (.int .i64 (ra : Int)) ∧ w'.cell? ⟨q5, 3, none⟩ = some (.int .i64 b) ∧ w'.cell? ⟨q5, 4, none⟩ = some (.int .i64 0) ∧ w'.cell? ⟨g, 2, none⟩ = some (.int .u64 (uv ea)))) (by kernel_rfl) (by rw [hwd]; exact ⟨XD.out.o5.cell 0, XD.out.o5.cell 1, XD.out.o5.cell 2, XD.out.o5.cell 3, XD.out.o5.cell 4, XD.out.M.ea_⟩) (fun hHeld => ?_)
     refine tkq 0 201 rfl (by kernel_rfl) (by rfl) hHeld (fun _ _ _ h => h) (by intro w' hSw; go_simp; try with_reducible rfl) ?_
     simp only [Act.put, spa, spb, spc]
     refine tkq 1 202 rfl (by kernel_rfl) (by rfl) hHeld (fun _ _ _ h => h) (by intro w' hSw; go_simp; try with_reducible rfl) ?_
     simp only [Act.put, spa, spb, spc]
     refine tkq 2 203 rfl (by kernel_rfl) (by rfl) hHeld (fun _ _ _ h => h) (by intro w' hSw; go_simp; try with_reducible rfl) ?_
     simp only [Act.put, spa, spb, spc]
     refine tkq 3 204 rfl (by kernel_rfl) (by rfl) hHeld (fun _ _ _ h => h) (by intro w' hSw; go_simp; try with_reducible rfl) ?_
     simp only [Act.put, spa, spb, spc]
     refine tkq 4 205 rfl (by kernel_rfl) (by rfl) hHeld (fun _ _ _ h => h) (by intro w' hSw; go_simp; try with_reducible rfl) ?_
     simp only [Act.put, spa, spb, spc]
     refine tkq 5 206 rfl (by kernel_rfl) (by rfl) hHeld (fun _ _ _ h => h) (by intro w' hSw; go_simp; try with_reducible rfl) ?_
     simp only [Act.put, spa, spb, spc]
     refine tkq 6 207 rfl (by kernel_rfl) (by rfl) hHeld (fun _ _ _ h => h) (by intro w' hSw; go_simp; try with_reducible rfl) ?_
     simp only [Act.put, spa, spb, spc]
     refine tkq 7 208 rfl (by kernel_rfl) (by rfl) hHeld (fun _ _ _ h => h) (by intro w' hSw; go_simp; try with_reducible rfl) ?_
     simp only [Act.put, spa, spb, spc]
     refine tkq 8 209 rfl (by kernel_rfl) (by rfl) hHeld (fun _ _ _ h => h) (by intro w' hSw; go_simp; try with_reducible rfl) ?_
     simp only [Act.put, spa, spb, spc]
     refine tkq 9 210 rfl (by kernel_rfl) (by rfl) hHeld (fun _ _ _ h => h) (by intro w' hSw; go_simp; try with_reducible rfl) ?_
     simp only [Act.put, spa, spb, spc]
     refine tkq 10 211 rfl (by kernel_rfl) (by rfl) hHeld (fun _ _ _ h => h) (by intro w' hSw; go_simp; try with_reducible rfl) ?_
     simp only [Act.put, spa, spb, spc]
     refine rdq 11 ⟨none, _, _, _, _, _⟩ (by kernel_rfl) rfl (fun K' hK => ?_)
     have r0 := XD.out.M.reg HR8.out
     have fz : ∀ x, wd.frozen? ⟨g, x, none⟩ = false := Ob.frozen XD.out.M
     go_simp
     have XY := Lib.hid (XD.out.setReg HR8.out ea)
     refine hK.out _ _ ⟨XY.out.o5.cell 0, XY.out.o5.cell 1, XY.out.o5.cell 2, XY.out.o5.cell 3, XY.out.o5.cell 4, XY.out.M.ea_⟩ (fun hHeld => ?_)
     clear hK K'
     clear hHeld r0 fz
     refine wpAnyH_done (by kernel_rfl) ?_ _
     clear hwd XD
     generalize wd.setCell ⟨g, 4 + rd, none⟩ (.int .u64 (uv ea)) = w6 at XY ⊢
     have y92 := XY.out.M.pc_
     have zg : ∀ x, w6.frozen? ⟨g, x, none⟩ = false := Ob.frozen XY.out.M
     go_upto_region 66 with fail
     clear y92 zg
     have XP := Lib.hid (XY.out.setPc (S.pc + 1))
     push_cast at XP
     generalize w6.setCell ⟨g, 92, none⟩ (.int .i64 ((S.pc : Int) + 1)) = wp at XP ⊢
     obtain ⟨v0, v1, v2, v3, v4, v5, v6⟩ := acc_at XP.out.o6
     obtain ⟨x0, x1, x2, x3, x4, x5, x6⟩ := acc_at XP.out.o4
     simp only [ac0, uv_zero] at v0 v1 v2 v3 v4 v5 v6 x0 x1 x2 x3 x4 x5 x6
     have z4 : ∀ x, wp.frozen? ⟨q4, x, none⟩ = false := XP.out.o4.frozen
     go_wp2_with fail
     exact XP.out.fin rfl HA2.out HS2.out rfl rfl rfl rfl
   have HS2 := Lib.hid (show ({ S with steps := S.steps + 1, regs := upd S.regs rd eb, pc := S.pc + 1 } : StV) = S' from by rw [← HS.out]; rfl)
   have HA2 := Lib.hid (show (⟨1, S.pc, 0, 0, 0#64, 0#64, 0#64⟩ : ActV) = A from by rw [← HA.out]; rfl)
   clear HS HA
   have i0 : w5.cell? ⟨q5, 0, none⟩ = some (.int .i64 13) := X5.out.o5.cell 0
   have i1 : w5.cell? ⟨q5, 1, none⟩ = some (.int .i64 (rd : Int)) := X5.out.o5.cell 1
   have i2 : w5.cell? ⟨q5, 2, none⟩ = some (.int .i64 (ra : Int)) := X5.out.o5.cell 2
   have i3 : w5.cell? ⟨q5, 3, none⟩ = some (.int .i64 b) := X5.out.o5.cell 3
   have i4 : w5.cell? ⟨q5, 4, none⟩ = some (.int .i64 1) := X5.out.o5.cell 4
   go_upto_region 32 with fail
   clear i0 i1 i2 i3 i4
   obtain ⟨wd, hwd⟩ : ∃ wd, w5.drew = wd := ⟨_, rfl⟩
   have XD := Lib.hid (hwd ▸ X5.out.drew)
   clear X5
   refine wp_region_held_drew (S := fun w' => (w'.cell? ⟨q5, 0, none⟩ = some (.int .i64 13) ∧ w'.cell? ⟨q5, 1, none⟩ = some (.int .i64 (rd : Int)) ∧ w'.cell? ⟨q5, 2, none⟩ = some (.int .i64 (ra : Int)) ∧ w'.cell? ⟨q5, 3, none⟩ = some (.int .i64 b) ∧ w'.cell? ⟨q5, 4, none⟩ = some (.int .i64 1) ∧ w'.cell? ⟨g, 3, none⟩ = some (.int .u64 (uv eb)))) (by kernel_rfl) (by rw [hwd]; exact ⟨XD.out.o5.cell 0, XD.out.o5.cell 1, XD.out.o5.cell 2, XD.out.o5.cell 3, XD.out.o5.cell 4, XD.out.M.eb_⟩) (fun hHeld => ?_)
   refine tkq 0 216 rfl (by kernel_rfl) (by rfl) hHeld (fun _ _ _ h => h) (by intro w' hSw; go_simp; try with_reducible rfl) ?_
   simp only [Act.put, spa, spb, spc]
   refine tkq 1 217 rfl (by kernel_rfl) (by rfl) hHeld (fun _ _ _ h => h) (by intro w' hSw; go_simp; try with_reducible rfl) ?_
   simp only [Act.put, spa, spb, spc]
   refine tkq 2 218 rfl (by kernel_rfl) (by rfl) hHeld (fun _ _ _ h => h) (by intro w' hSw; go_simp; try with_reducible rfl) ?_
   simp only [Act.put, spa, spb, spc]
   refine tkq 3 219 rfl (by kernel_rfl) (by rfl) hHeld (fun _ _ _ h => h) (by intro w' hSw; go_simp; try with_reducible rfl) ?_
   simp only [Act.put, spa, spb, spc]
   refine tkq 4 220 rfl (by kernel_rfl) (by rfl) hHeld (fun _ _ _ h => h) (by intro w' hSw; go_simp; try with_reducible rfl) ?_
   simp only [Act.put, spa, spb, spc]
   refine tkq 5 221 rfl (by kernel_rfl) (by rfl) hHeld (fun _ _ _ h => h) (by intro w' hSw; go_simp; try with_reducible rfl) ?_
   simp only [Act.put, spa, spb, spc]
   refine tkq 6 222 rfl (by kernel_rfl) (by rfl) hHeld (fun _ _ _ h => h) (by intro w' hSw; go_simp; try with_reducible rfl) ?_
   simp only [Act.put, spa, spb, spc]
   refine tkq 7 223 rfl (by kernel_rfl) (by rfl) hHeld (fun _ _ _ h => h) (by intro w' hSw; go_simp; try with_reducible rfl) ?_
   simp only [Act.put, spa, spb, spc]
   refine tkq 8 224 rfl (by kernel_rfl) (by rfl) hHeld (fun _ _ _ h => h) (by intro w' hSw; go_simp; try with_reducible rfl) ?_
   simp only [Act.put, spa, spb, spc]
   refine tkq 9 225 rfl (by kernel_rfl) (by rfl) hHeld (fun _ _ _ h => h) (by intro w' hSw; go_simp; try with_reducible rfl) ?_
   simp only [Act.put, spa, spb, spc]
   refine tkq 10 226 rfl (by kernel_rfl) (by rfl) hHeld (fun _ _ _ h => h) (by intro w' hSw; go_simp; try with_reducible rfl) ?_
   simp only [Act.put, spa, spb, spc]
   refine rdq 11 ⟨none, _, _, _, _, _⟩ (by kernel_rfl) rfl (fun K' hK => ?_)
   have r0 := XD.out.M.reg HR8.out
   have fz : ∀ x, wd.frozen? ⟨g, x, none⟩ = false := Ob.frozen XD.out.M
   go_simp
   have XY := Lib.hid (XD.out.setReg HR8.out eb)
   refine hK.out _ _ ⟨XY.out.o5.cell 0, XY.out.o5.cell 1, XY.out.o5.cell 2, XY.out.o5.cell 3, XY.out.o5.cell 4, XY.out.M.eb_⟩ (fun hHeld => ?_)
   clear hK K'
   clear hHeld r0 fz
   refine wpAnyH_done (by kernel_rfl) ?_ _
   clear hwd XD
   generalize wd.setCell ⟨g, 4 + rd, none⟩ (.int .u64 (uv eb)) = w6 at XY ⊢
   have y92 := XY.out.M.pc_
   have zg : ∀ x, w6.frozen? ⟨g, x, none⟩ = false := Ob.frozen XY.out.M
   go_upto_region 66 with fail
   clear y92 zg
   have XP := Lib.hid (XY.out.setPc (S.pc + 1))
   push_cast at XP
   generalize w6.setCell ⟨g, 92, none⟩ (.int .i64 ((S.pc : Int) + 1)) = wp at XP ⊢
   obtain ⟨v0, v1, v2, v3, v4, v5, v6⟩ := acc_at XP.out.o6
   obtain ⟨x0, x1, x2, x3, x4, x5, x6⟩ := acc_at XP.out.o4
   simp only [ac0, uv_zero] at v0 v1 v2 v3 v4 v5 v6 x0 x1 x2 x3 x4 x5 x6
   have z4 : ∀ x, wp.frozen? ⟨q4, x, none⟩ = false := XP.out.o4.frozen
   go_wp2_with fail
   exact XP.out.fin rfl HA2.out HS2.out rfl rfl rfl rfl
 · have hrd : rd < 8 := by have := HI.out.d8 (by first | decide | (dsimp only; omega)); dsimp only at this; omega
   have HR8 := Lib.hid hrd
   have g1 : (rd : Int) < 8 := by omega
   have g0 : (0 : Int) ≤ (rd : Int) := by omega
   have h7 : decide ((7 : Int) < (rd : Int)) = false := by rw [decide_eq_false_iff_not]; omega
   have h8 : decide (7 < rd) = false := by rw [decide_eq_false_iff_not]; omega
   clear hrd
   have gw := wrapu m
   have HS2 := Lib.hid (show ({ S with steps := S.steps + 1, regs := upd S.regs rd (ofI m), pc := S.pc + 1 } : StV) = S' from by rw [← HS.out]; rfl)
   have HA2 := Lib.hid (show (⟨1, S.pc, 0, 0, 0#64, 0#64, 0#64⟩ : ActV) = A from by rw [← HA.out]; rfl)
   clear HS HA
   have i0 : w5.cell? ⟨q5, 0, none⟩ = some (.int .i64 14) := X5.out.o5.cell 0
   have i1 : w5.cell? ⟨q5, 1, none⟩ = some (.int .i64 (rd : Int)) := X5.out.o5.cell 1
   have i2 : w5.cell? ⟨q5, 2, none⟩ = some (.int .i64 (ra : Int)) := X5.out.o5.cell 2
   have i3 : w5.cell? ⟨q5, 3, none⟩ = some (.int .i64 b) := X5.out.o5.cell 3
   have i4 : w5.cell? ⟨q5, 4, none⟩ = some (.int .i64 m) := X5.out.o5.cell 4
   go_upto_region 34 with fail
   clear i0 i1 i2 i3 i4
   obtain ⟨wd, hwd⟩ : ∃ wd, w5.drew = wd := ⟨_, rfl⟩
   have XD := Lib.hid (hwd ▸ X5.out.drew)
   clear X5
   refine wp_region_held_drew (S := fun w' => (w'.cell? ⟨q5, 0, none⟩ = some (.int .i64 14) ∧ w'.cell? ⟨q5, 1, none⟩ = some (.int .i64 (rd : Int)) ∧ w'.cell? ⟨q5, 2, none⟩ = some (.int .i64 (ra : Int)) ∧ w'.cell? ⟨q5, 3, none⟩ = some (.int .i64 b) ∧ w'.cell? ⟨q5, 4, none⟩ = some (.int .i64 m))) (by kernel_rfl) (by rw [hwd]; exact ⟨XD.out.o5.cell 0, XD.out.o5.cell 1, XD.out.o5.cell 2, XD.out.o5.cell 3, XD.out.o5.cell 4⟩) (fun hHeld => ?_)
   refine tkq 0 231 rfl (by kernel_rfl) (by rfl) hHeld (fun _ _ _ h => h) (by intro w' hSw; go_simp; try with_reducible rfl) ?_
   simp only [Act.put, spa, spb, spc]
   refine tkq 1 232 rfl (by kernel_rfl) (by rfl) hHeld (fun _ _ _ h => h) (by intro w' hSw; go_simp; try with_reducible rfl) ?_
   simp only [Act.put, spa, spb, spc]
   refine tkq 2 233 rfl (by kernel_rfl) (by rfl) hHeld (fun _ _ _ h => h) (by intro w' hSw; go_simp; try with_reducible rfl) ?_
   simp only [Act.put, spa, spb, spc]
   refine tkq 3 234 rfl (by kernel_rfl) (by rfl) hHeld (fun _ _ _ h => h) (by intro w' hSw; go_simp; try with_reducible rfl) ?_
   simp only [Act.put, spa, spb, spc]
   refine tkq 4 235 rfl (by kernel_rfl) (by rfl) hHeld (fun _ _ _ h => h) (by intro w' hSw; go_simp; try with_reducible rfl) ?_
   simp only [Act.put, spa, spb, spc]
   refine tkq 5 236 rfl (by kernel_rfl) (by rfl) hHeld (fun _ _ _ h => h) (by intro w' hSw; go_simp; try with_reducible rfl) ?_
   simp only [Act.put, spa, spb, spc]
   refine tkq 6 237 rfl (by kernel_rfl) (by rfl) hHeld (fun _ _ _ h => h) (by intro w' hSw; go_simp; try with_reducible rfl) ?_
   simp only [Act.put, spa, spb, spc]
   refine tkq 7 238 rfl (by kernel_rfl) (by rfl) hHeld (fun _ _ _ h => h) (by intro w' hSw; go_simp; try with_reducible rfl) ?_
   simp only [Act.put, spa, spb, spc]
   refine tkq 8 239 rfl (by kernel_rfl) (by rfl) hHeld (fun _ _ _ h => h) (by intro w' hSw; go_simp; try with_reducible rfl) ?_
   simp only [Act.put, spa, spb, spc]
   refine rdq 9 ⟨none, _, _, _, _, _⟩ (by kernel_rfl) rfl (fun K' hK => ?_)
   have r0 := XD.out.M.reg HR8.out
   have fz : ∀ x, wd.frozen? ⟨g, x, none⟩ = false := Ob.frozen XD.out.M
   go_simp
   have XY := Lib.hid (XD.out.setReg HR8.out (ofI m))
   refine hK.out _ _ ⟨XY.out.o5.cell 0, XY.out.o5.cell 1, XY.out.o5.cell 2, XY.out.o5.cell 3, XY.out.o5.cell 4⟩ (fun hHeld => ?_)
   clear hK K'
   clear hHeld r0 fz
   refine wpAnyH_done (by kernel_rfl) ?_ _
   clear hwd XD
   generalize wd.setCell ⟨g, 4 + rd, none⟩ (.int .u64 (uv (ofI m))) = w6 at XY ⊢
   have y92 := XY.out.M.pc_
   have zg : ∀ x, w6.frozen? ⟨g, x, none⟩ = false := Ob.frozen XY.out.M
   go_upto_region 66 with fail
   clear y92 zg
   have XP := Lib.hid (XY.out.setPc (S.pc + 1))
   push_cast at XP
   generalize w6.setCell ⟨g, 92, none⟩ (.int .i64 ((S.pc : Int) + 1)) = wp at XP ⊢
   obtain ⟨v0, v1, v2, v3, v4, v5, v6⟩ := acc_at XP.out.o6
   obtain ⟨x0, x1, x2, x3, x4, x5, x6⟩ := acc_at XP.out.o4
   simp only [ac0, uv_zero] at v0 v1 v2 v3 v4 v5 v6 x0 x1 x2 x3 x4 x5 x6
   have z4 : ∀ x, wp.frozen? ⟨q4, x, none⟩ = false := XP.out.o4.frozen
   go_wp2_with fail
   exact XP.out.fin rfl HA2.out HS2.out rfl rfl rfl rfl
 · have gto : wrap64 ((S.pc : Int) + 1 + (rd : Int)) = (S.pc : Int) + 1 + (rd : Int) := by have h1 := HRD.out; have h2 := HPC.out; unfold wrap64; omega
   have gto2 : IntKind.i64.wrap ((S.pc : Int) + 1 + (rd : Int)) = (S.pc : Int) + 1 + (rd : Int) := by have h1 := HRD.out; have h2 := HPC.out; rw [IntKind.wrap_i64]; omega
   have HS2 := Lib.hid (show ({ S with steps := S.steps + 1, pc := S.pc + 1 + rd } : StV) = S' from by rw [← HS.out, show S.pc + 1 + rd = ((S.pc : Int) + ((rd : Int) + 1)).toNat by omega]; rfl)
   have HA2 := Lib.hid (show (⟨1, S.pc, 0, 0, 0#64, 0#64, 0#64⟩ : ActV) = A from by rw [← HA.out]; rfl)
   clear HS HA
   have i0 : w5.cell? ⟨q5, 0, none⟩ = some (.int .i64 15) := X5.out.o5.cell 0
   have i1 : w5.cell? ⟨q5, 1, none⟩ = some (.int .i64 (rd : Int)) := X5.out.o5.cell 1
   have i2 : w5.cell? ⟨q5, 2, none⟩ = some (.int .i64 (ra : Int)) := X5.out.o5.cell 2
   have i3 : w5.cell? ⟨q5, 3, none⟩ = some (.int .i64 b) := X5.out.o5.cell 3
   have i4 : w5.cell? ⟨q5, 4, none⟩ = some (.int .i64 m) := X5.out.o5.cell 4
   go_upto_region 36 with fail
   have y92 := X5.out.M.pc_
   have zg : ∀ x, w5.frozen? ⟨g, x, none⟩ = false := Ob.frozen X5.out.M
   go_upto_region 66 with fail
   clear y92 zg i0 i1 i2 i3 i4 gto gto2
   have XP := Lib.hid (X5.out.setPc (S.pc + 1 + rd))
   push_cast at XP
   generalize w5.setCell ⟨g, 92, none⟩ (.int .i64 ((S.pc : Int) + 1 + (rd : Int))) = wp at XP ⊢
   obtain ⟨v0, v1, v2, v3, v4, v5, v6⟩ := acc_at XP.out.o6
   obtain ⟨x0, x1, x2, x3, x4, x5, x6⟩ := acc_at XP.out.o4
   simp only [ac0, uv_zero] at v0 v1 v2 v3 v4 v5 v6 x0 x1 x2 x3 x4 x5 x6
   have z4 : ∀ x, wp.frozen? ⟨q4, x, none⟩ = false := XP.out.o4.frozen
   go_wp2_with fail
   exact XP.out.fin rfl HA2.out HS2.out rfl rfl rfl rfl
 · have HDL := Lib.hid (show (if S.regs ra ≠ 0#64 ∧ S.turns S.pc < m then ({ S with steps := S.steps + 1, turns := updI S.turns S.pc (S.turns S.pc + 1), pc := ((S.pc : Int) + -(rd : Int)).toNat } : StV) else { S with steps := S.steps + 1, turns := updI S.turns S.pc 0, pc := S.pc + 1 }) = S' from by
    have e1 : runS ea eb ⟨20, (rd : Int), (ra : Int), b, m⟩ { S with steps := S.steps + 1 } = (if S.regs ra ≠ 0#64 ∧ S.turns S.pc < m then ({ S with steps := S.steps + 1, turns := updI S.turns S.pc (S.turns S.pc + 1) } : StV) else { S with steps := S.steps + 1, turns := updI S.turns S.pc 0 }) := rfl
    have e2 : runD ⟨20, (rd : Int), (ra : Int), b, m⟩ S = (if S.regs ra ≠ 0#64 ∧ S.turns S.pc < m then -(rd : Int) else 1) := rfl
    have e3 : stepS ea eb ⟨20, (rd : Int), (ra : Int), b, m⟩ S = { runS ea eb ⟨20, (rd : Int), (ra : Int), b, m⟩ { S with steps := S.steps + 1 } with pc := ((S.pc : Int) + runD ⟨20, (rd : Int), (ra : Int), b, m⟩ S).toNat } := rfl
    rw [← HS.out, e3, e1, e2]
    by_cases h : S.regs ra ≠ 0#64 ∧ S.turns S.pc < m
    · rw [if_pos h, if_pos h, if_pos h]
    rw [if_neg h, if_neg h, if_neg h]; rfl)
   have HA2 := Lib.hid (show (⟨1, S.pc, 0, 0, 0#64, 0#64, 0#64⟩ : ActV) = A from by rw [← HA.out]; rfl)
   have HT0 := Lib.hid (HTO.out (by decide) (by decide))
   have HT1 := Lib.hid (show runD ⟨20, (rd : Int), (ra : Int), b, m⟩ S = (if S.regs ra ≠ 0#64 ∧ S.turns S.pc < m then -(rd : Int) else 1) from rfl)
   rw [HT1.out] at HT0
   clear HS HA HT1
   have HP64 := Lib.hid (show S.pc < 64 by have := HPC.out; omega)
   have gp1 : (S.pc : Int) < 64 := by have := HPC.out; omega
   have gp0 : (0 : Int) ≤ (S.pc : Int) := by omega
   have g3 : (ra : Int) < 8 := by have := HRA.out; omega
   have g4 : (0 : Int) ≤ (ra : Int) := by omega
   have i0 : w5.cell? ⟨q5, 0, none⟩ = some (.int .i64 20) := X5.out.o5.cell 0
   have i1 : w5.cell? ⟨q5, 1, none⟩ = some (.int .i64 (rd : Int)) := X5.out.o5.cell 1
   have i2 : w5.cell? ⟨q5, 2, none⟩ = some (.int .i64 (ra : Int)) := X5.out.o5.cell 2
   have i3 : w5.cell? ⟨q5, 3, none⟩ = some (.int .i64 b) := X5.out.o5.cell 3
   have i4 : w5.cell? ⟨q5, 4, none⟩ = some (.int .i64 m) := X5.out.o5.cell 4
   have mr := X5.out.M.reg HRA.out
   have mp := X5.out.M.pc_
   have mt := X5.out.M.turn HP64.out
   go_upto_region 41 with fail
   by_cases hy : S.regs ra = 0#64
   · have HNO := Lib.hid (show ¬ (S.regs ra ≠ 0#64 ∧ S.turns S.pc < m) from fun h => h.1 hy)
     rw [hy, uv_zero] at mr
     have HS2 := Lib.hid (show ({ S with steps := S.steps + 1, turns := updI S.turns S.pc 0, pc := S.pc + 1 } : StV) = S' from by rw [← HDL.out, if_neg HNO.out])
     clear HDL HT0
     go_quiet (fail)
     have X6 := Lib.hid (X5.out.drewN nq)
     clear X5 i0 i1 i2 i3 i4 mr mp mt
     generalize w5.drewN nq = w6 at X6 ⊢
     have mp := X6.out.M.pc_
     go_upto_region 44 with fail
     clear mp
     obtain ⟨wd, hwd⟩ : ∃ wd, w6.drew = wd := ⟨_, rfl⟩
     have XD := Lib.hid (hwd ▸ X6.out.drew)
     clear X6
     refine wp_region_held_drew (S := fun w' => (w'.cell? ⟨g, 92, none⟩ = some (.int .i64 S.pc))) (by kernel_rfl) (hwd ▸ XD.out.M.pc_) (fun hHeld => ?_)
     refine tkq 0 318 rfl (by kernel_rfl) (by rfl) hHeld (fun _ _ _ h => h) (by intro w' hSw; go_simp; try with_reducible rfl) ?_
     simp only [Act.put, spa, spb, spc]
     refine tkq 1 319 rfl (by kernel_rfl) (by rfl) hHeld (fun _ _ _ h => h) (by intro w' hSw; go_simp; try with_reducible rfl) ?_
     simp only [Act.put, spa, spb, spc]
     refine tkq 2 320 rfl (by kernel_rfl) (by rfl) hHeld (fun _ _ _ h => h) (by intro w' hSw; go_simp; try with_reducible rfl) ?_
     simp only [Act.put, spa, spb, spc]
     refine tkq 3 321 rfl (by kernel_rfl) (by rfl) hHeld (fun _ _ _ h => h) (by intro w' hSw; go_simp; try with_reducible rfl) ?_
     simp only [Act.put, spa, spb, spc]
     refine tkq 4 322 rfl (by kernel_rfl) (by rfl) hHeld (fun _ _ _ h => h) (by intro w' hSw; go_simp; try with_reducible rfl) ?_
     simp only [Act.put, spa, spb, spc]
     refine tkq 5 323 rfl (by kernel_rfl) (by rfl) hHeld (fun _ _ _ h => h) (by intro w' hSw; go_simp; try with_reducible rfl) ?_
     simp only [Act.put, spa, spb, spc]
     refine tkq 6 324 rfl (by kernel_rfl) (by rfl) hHeld (fun _ _ _ h => h) (by intro w' hSw; go_simp; try with_reducible rfl) ?_
     simp only [Act.put, spa, spb, spc]
     refine tkq 7 325 rfl (by kernel_rfl) (by rfl) hHeld (fun _ _ _ h => h) (by intro w' hSw; go_simp; try with_reducible rfl) ?_
     simp only [Act.put, spa, spb, spc]
     refine rdq 8 ⟨none, _, _, _, _, _⟩ (by kernel_rfl) rfl (fun K' hK => ?_)
     have r0 := XD.out.M.turn HP64.out
     have fz : ∀ x, wd.frozen? ⟨g, x, none⟩ = false := Ob.frozen XD.out.M
     go_simp
     have XY := Lib.hid (XD.out.setTurn HP64.out 0)
     refine hK.out _ _ XY.out.M.pc_ (fun hHeld => ?_)
     clear hK K'
     clear hHeld r0 fz
     refine wpAnyH_done (by kernel_rfl) ?_ _
     clear hwd XD
     generalize wd.setCell ⟨g, 28 + S.pc, none⟩ (.int .i64 0) = w7 at XY ⊢
     have y92 := XY.out.M.pc_
     have zg : ∀ x, w7.frozen? ⟨g, x, none⟩ = false := Ob.frozen XY.out.M
     go_upto_region 66 with fail
     clear y92 zg
     have XP := Lib.hid (XY.out.setPc (S.pc + 1))
     push_cast at XP
     generalize w7.setCell ⟨g, 92, none⟩ (.int .i64 ((S.pc : Int) + 1)) = wp at XP ⊢
     obtain ⟨v0, v1, v2, v3, v4, v5, v6⟩ := acc_at XP.out.o6
     obtain ⟨x0, x1, x2, x3, x4, x5, x6⟩ := acc_at XP.out.o4
     simp only [ac0, uv_zero] at v0 v1 v2 v3 v4 v5 v6 x0 x1 x2 x3 x4 x5 x6
     have z4 : ∀ x, wp.frozen? ⟨q4, x, none⟩ = false := XP.out.o4.frozen
     go_wp2_with fail
     exact XP.out.fin rfl HA2.out HS2.out rfl rfl rfl rfl
   have hyi : (uv (S.regs ra) != 0) = true := by rw [← uv_zero, uv_bne]; simpa using hy
   by_cases ht : S.turns S.pc < m
   · have HS2 := Lib.hid (show ({ S with steps := S.steps + 1, turns := updI S.turns S.pc (S.turns S.pc + 1), pc := ((S.pc : Int) + -(rd : Int)).toNat } : StV) = S' from by rw [← HDL.out, if_pos ⟨hy, ht⟩])
     have hback : 0 ≤ (S.pc : Int) + -(rd : Int) := by have := HT0.out; rw [if_pos ⟨hy, ht⟩] at this; exact this
     obtain ⟨np, hnp⟩ : ∃ np, ((S.pc : Int) + -(rd : Int)).toNat = np := ⟨_, rfl⟩
     rw [hnp] at HS2
     have gt1 : IntKind.i64.wrap (S.turns S.pc + 1) = S.turns S.pc + 1 := by have h1 := HTS.out S.pc HP64.out; have h2 := (HI.out.l rfl).2.2; dsimp only at h2; rw [IntKind.wrap_i64]; omega
     have gb1 : IntKind.i64.wrap ((S.pc : Int) - (rd : Int)) = (np : Int) := by have h1 := HRD.out; have h2 := HPC.out; rw [IntKind.wrap_i64]; omega
     clear HDL HT0 hback hnp
     go_quiet (fail)
     have X6 := Lib.hid (X5.out.drewN nq)
     clear X5 i0 i1 i2 i3 i4 mr mp mt
     generalize w5.drewN nq = w6 at X6 ⊢
     have mp := X6.out.M.pc_
     go_upto_region 42 with fail
     clear mp
     obtain ⟨wd, hwd⟩ : ∃ wd, w6.drew = wd := ⟨_, rfl⟩
     have XD := Lib.hid (hwd ▸ X6.out.drew)
     clear X6
     refine wp_region_held_drew (S := fun w' => (w'.cell? ⟨g, 92, none⟩ = some (.int .i64 S.pc))) (by kernel_rfl) (hwd ▸ XD.out.M.pc_) (fun hHeld => ?_)
     refine tkq 0 298 rfl (by kernel_rfl) (by rfl) hHeld (fun _ _ _ h => h) (by intro w' hSw; go_simp; try with_reducible rfl) ?_
     simp only [Act.put, spa, spb, spc]
     refine tkq 1 299 rfl (by kernel_rfl) (by rfl) hHeld (fun _ _ _ h => h) (by intro w' hSw; go_simp; try with_reducible rfl) ?_
     simp only [Act.put, spa, spb, spc]
     refine tkq 2 300 rfl (by kernel_rfl) (by rfl) hHeld (fun _ _ _ h => h) (by intro w' hSw; go_simp; try with_reducible rfl) ?_
     simp only [Act.put, spa, spb, spc]
     refine tkq 3 301 rfl (by kernel_rfl) (by rfl) hHeld (fun _ _ _ h => h) (by intro w' hSw; go_simp; try with_reducible rfl) ?_
     simp only [Act.put, spa, spb, spc]
     refine tkq 4 302 rfl (by kernel_rfl) (by rfl) hHeld (fun _ _ _ h => h) (by intro w' hSw; go_simp; try with_reducible rfl) ?_
     simp only [Act.put, spa, spb, spc]
     refine tkq 5 303 rfl (by kernel_rfl) (by rfl) hHeld (fun _ _ _ h => h) (by intro w' hSw; go_simp; try with_reducible rfl) ?_
     simp only [Act.put, spa, spb, spc]
     refine tkq 6 304 rfl (by kernel_rfl) (by rfl) hHeld (fun _ _ _ h => h) (by intro w' hSw; go_simp; try with_reducible rfl) ?_
     simp only [Act.put, spa, spb, spc]
     refine tkq 7 305 rfl (by kernel_rfl) (by rfl) hHeld (fun _ _ _ h => h) (by intro w' hSw; go_simp; try with_reducible rfl) ?_
     simp only [Act.put, spa, spb, spc]
     refine tkq 10 308 rfl (by kernel_rfl) (by rfl) hHeld (fun _ _ _ h => h) (by intro w' hSw; go_simp; try with_reducible rfl) ?_
     simp only [Act.put, spa, spb, spc]
     refine tkq 11 309 rfl (by kernel_rfl) (by rfl) hHeld (fun _ _ _ h => h) (by intro w' hSw; go_simp; try with_reducible rfl) ?_
     simp only [Act.put, spa, spb, spc]
     refine rdq 8 ⟨some 306, _, _, _, _, _⟩ (by kernel_rfl) rfl (fun K' hK => ?_)
     have r0 := XD.out.M.turn HP64.out
     go_simp
     refine hK.out _ _ XD.out.M.pc_ (fun hHeld => ?_)
     clear hK K'
     clear r0
     refine tkq 9 307 rfl (by kernel_rfl) (by rfl) hHeld (fun _ _ _ h => h) (by intro w' hSw; go_simp; try with_reducible rfl) ?_
     simp only [Act.put, spa, spb, spc]
     refine tkq 12 310 rfl (by kernel_rfl) (by rfl) hHeld (fun _ _ _ h => h) (by intro w' hSw; go_simp; try with_reducible rfl) ?_
     simp only [Act.put, spa, spb, spc]
     refine rdq 13 ⟨none, _, _, _, _, _⟩ (by kernel_rfl) rfl (fun K' hK => ?_)
     have r0 := XD.out.M.turn HP64.out
     have fz : ∀ x, wd.frozen? ⟨g, x, none⟩ = false := Ob.frozen XD.out.M
     go_simp
     have XY := Lib.hid (XD.out.setTurn HP64.out (S.turns S.pc + 1))
     refine hK.out _ _ XY.out.M.pc_ (fun hHeld => ?_)
     clear hK K'
     clear hHeld r0 fz
     refine wpAnyH_done (by kernel_rfl) ?_ _
     clear hwd XD
     generalize wd.setCell ⟨g, 28 + S.pc, none⟩ (.int .i64 (S.turns S.pc + 1)) = w7 at XY ⊢
     go_upto_region 43 with fail
     have XE := Lib.hid XY.out.drew
     clear XY
     refine wp_region_held_drew (S := fun w' => (w'.cell? ⟨g, 92, none⟩ = some (.int .i64 S.pc) ∧ w'.cell? ⟨q5, 1, none⟩ = some (.int .i64 (rd : Int)))) (by kernel_rfl) (show (w7.drew.cell? ⟨g, 92, none⟩ = some (.int .i64 S.pc) ∧ w7.drew.cell? ⟨q5, 1, none⟩ = some (.int .i64 (rd : Int))) from ⟨XE.out.M.pc_, XE.out.o5.cell 1⟩) (fun hHeld => ?_)
     refine tkq 0 311 rfl (by kernel_rfl) (by rfl) hHeld (fun _ _ _ h => h) (by intro w' hSw; go_simp; try with_reducible rfl) ?_
     simp only [Act.put, spa, spb, spc]
     refine tkq 1 312 rfl (by kernel_rfl) (by rfl) hHeld (fun _ _ _ h => h) (by intro w' hSw; go_simp; try with_reducible rfl) ?_
     simp only [Act.put, spa, spb, spc]
     refine tkq 2 313 rfl (by kernel_rfl) (by rfl) hHeld (fun _ _ _ h => h) (by intro w' hSw; go_simp; try with_reducible rfl) ?_
     simp only [Act.put, spa, spb, spc]
     refine tkq 3 314 rfl (by kernel_rfl) (by rfl) hHeld (fun _ _ _ h => h) (by intro w' hSw; go_simp; try with_reducible rfl) ?_
     simp only [Act.put, spa, spb, spc]
     refine tkq 4 315 rfl (by kernel_rfl) (by rfl) hHeld (fun _ _ _ h => h) (by intro w' hSw; go_simp; try with_reducible rfl) ?_
     simp only [Act.put, spa, spb, spc]
     refine tkq 5 316 rfl (by kernel_rfl) (by rfl) hHeld (fun _ _ _ h => h) (by intro w' hSw; go_simp; try with_reducible rfl) ?_
     simp only [Act.put, spa, spb, spc]
     refine tkq 6 317 rfl (by kernel_rfl) (by rfl) hHeld (fun _ _ _ h => h) (by intro w' hSw; go_simp; try with_reducible rfl) ?_
     simp only [Act.put, spa, spb, spc]
     refine tkq 7 7 rfl (by kernel_rfl) (by rfl) hHeld (fun _ _ _ h => h) (by intro w' hSw; go_simp; try with_reducible rfl) ?_
     simp only [Act.put, spa, spb, spc]
     refine wpAnyH_done (by kernel_rfl) ?_ _
     clear hHeld
     generalize w7.drew = we at XE ⊢
     have y92 := XE.out.M.pc_
     have zg : ∀ x, we.frozen? ⟨g, x, none⟩ = false := Ob.frozen XE.out.M
     go_upto_region 66 with fail
     clear y92 zg
     have XP := Lib.hid (XE.out.setPc (np))
     push_cast at XP
     generalize we.setCell ⟨g, 92, none⟩ (.int .i64 ((np : Int))) = wp at XP ⊢
     obtain ⟨v0, v1, v2, v3, v4, v5, v6⟩ := acc_at XP.out.o6
     obtain ⟨x0, x1, x2, x3, x4, x5, x6⟩ := acc_at XP.out.o4
     simp only [ac0, uv_zero] at v0 v1 v2 v3 v4 v5 v6 x0 x1 x2 x3 x4 x5 x6
     have z4 : ∀ x, wp.frozen? ⟨q4, x, none⟩ = false := XP.out.o4.frozen
     go_wp2_with fail
     exact XP.out.fin rfl HA2.out HS2.out rfl rfl rfl rfl
   have HNO := Lib.hid (show ¬ (S.regs ra ≠ 0#64 ∧ S.turns S.pc < m) from fun h => ht h.2)
   have hti : decide (S.turns S.pc < m) = false := by simpa using ht
   have HS2 := Lib.hid (show ({ S with steps := S.steps + 1, turns := updI S.turns S.pc 0, pc := S.pc + 1 } : StV) = S' from by rw [← HDL.out, if_neg HNO.out])
   clear HDL HT0
   go_quiet (fail)
   have X6 := Lib.hid (X5.out.drewN nq)
   clear X5 i0 i1 i2 i3 i4 mr mp mt
   generalize w5.drewN nq = w6 at X6 ⊢
   have mp := X6.out.M.pc_
   go_upto_region 44 with fail
   clear mp
   obtain ⟨wd, hwd⟩ : ∃ wd, w6.drew = wd := ⟨_, rfl⟩
   have XD := Lib.hid (hwd ▸ X6.out.drew)
   clear X6
   refine wp_region_held_drew (S := fun w' => (w'.cell? ⟨g, 92, none⟩ = some (.int .i64 S.pc))) (by kernel_rfl) (hwd ▸ XD.out.M.pc_) (fun hHeld => ?_)
   refine tkq 0 318 rfl (by kernel_rfl) (by rfl) hHeld (fun _ _ _ h => h) (by intro w' hSw; go_simp; try with_reducible rfl) ?_
   simp only [Act.put, spa, spb, spc]
   refine tkq 1 319 rfl (by kernel_rfl) (by rfl) hHeld (fun _ _ _ h => h) (by intro w' hSw; go_simp; try with_reducible rfl) ?_
   simp only [Act.put, spa, spb, spc]
   refine tkq 2 320 rfl (by kernel_rfl) (by rfl) hHeld (fun _ _ _ h => h) (by intro w' hSw; go_simp; try with_reducible rfl) ?_
   simp only [Act.put, spa, spb, spc]
   refine tkq 3 321 rfl (by kernel_rfl) (by rfl) hHeld (fun _ _ _ h => h) (by intro w' hSw; go_simp; try with_reducible rfl) ?_
   simp only [Act.put, spa, spb, spc]
   refine tkq 4 322 rfl (by kernel_rfl) (by rfl) hHeld (fun _ _ _ h => h) (by intro w' hSw; go_simp; try with_reducible rfl) ?_
   simp only [Act.put, spa, spb, spc]
   refine tkq 5 323 rfl (by kernel_rfl) (by rfl) hHeld (fun _ _ _ h => h) (by intro w' hSw; go_simp; try with_reducible rfl) ?_
   simp only [Act.put, spa, spb, spc]
   refine tkq 6 324 rfl (by kernel_rfl) (by rfl) hHeld (fun _ _ _ h => h) (by intro w' hSw; go_simp; try with_reducible rfl) ?_
   simp only [Act.put, spa, spb, spc]
   refine tkq 7 325 rfl (by kernel_rfl) (by rfl) hHeld (fun _ _ _ h => h) (by intro w' hSw; go_simp; try with_reducible rfl) ?_
   simp only [Act.put, spa, spb, spc]
   refine rdq 8 ⟨none, _, _, _, _, _⟩ (by kernel_rfl) rfl (fun K' hK => ?_)
   have r0 := XD.out.M.turn HP64.out
   have fz : ∀ x, wd.frozen? ⟨g, x, none⟩ = false := Ob.frozen XD.out.M
   go_simp
   have XY := Lib.hid (XD.out.setTurn HP64.out 0)
   refine hK.out _ _ XY.out.M.pc_ (fun hHeld => ?_)
   clear hK K'
   clear hHeld r0 fz
   refine wpAnyH_done (by kernel_rfl) ?_ _
   clear hwd XD
   generalize wd.setCell ⟨g, 28 + S.pc, none⟩ (.int .i64 0) = w7 at XY ⊢
   have y92 := XY.out.M.pc_
   have zg : ∀ x, w7.frozen? ⟨g, x, none⟩ = false := Ob.frozen XY.out.M
   go_upto_region 66 with fail
   clear y92 zg
   have XP := Lib.hid (XY.out.setPc (S.pc + 1))
   push_cast at XP
   generalize w7.setCell ⟨g, 92, none⟩ (.int .i64 ((S.pc : Int) + 1)) = wp at XP ⊢
   obtain ⟨v0, v1, v2, v3, v4, v5, v6⟩ := acc_at XP.out.o6
   obtain ⟨x0, x1, x2, x3, x4, x5, x6⟩ := acc_at XP.out.o4
   simp only [ac0, uv_zero] at v0 v1 v2 v3 v4 v5 v6 x0 x1 x2 x3 x4 x5 x6
   have z4 : ∀ x, wp.frozen? ⟨q4, x, none⟩ = false := XP.out.o4.frozen
   go_wp2_with fail
   exact XP.out.fin rfl HA2.out HS2.out rfl rfl rfl rfl
 · obtain ⟨h, rfl⟩ : ∃ h : Nat, m = h := ⟨m.toNat, by have := (HI.out.c rfl).1; dsimp only at this; omega⟩
   have HH := Lib.hid (show h < 7 by have := (HI.out.c rfl).2; dsimp only at this; omega)
   have HK := Lib.hid (HOC.out rfl)
   by_cases h5 : h < 5
   · have hr1 := HK.out.1 (by omega)
     obtain ⟨r1, hr1e⟩ : ∃ r1, (S.regs 1).toNat = r1 := ⟨_, rfl⟩
     have HR1 := Lib.hid hr1e
     rw [hr1e] at hr1
     have HA5 := Lib.hid (show (⟨2, S.pc, ms.getD r1 0, h, S.regs 2, if (h : Int) = 2 ∨ (h : Int) = 4 then S.regs 3 else 0#64, 0#64⟩ : ActV) = A from by rw [← HA.out, ← hr1e]; exact (if_pos (show (h : Int) < 5 by omega)).symm)
     have HS2 := Lib.hid (show ({ S with steps := S.steps + 1, st := 1 } : StV) = S' from by rw [← HS.out]; exact (if_pos (show (h : Int) < 5 by omega)).symm)
     clear HA HS hr1e
     obtain ⟨bm, om, hmA, hmc⟩ := int_at HMS.out (by omega)
     have HM0 := Lib.hid (hmc r1 hr1)
     have HNB := Lib.hid (HAP.out _ hmA)
     subst hmA
     obtain ⟨mv, hmv⟩ : ∃ mv, ms.getD r1 0 = mv := ⟨_, rfl⟩
     rw [hmv] at HM0 HA5
     clear hmc hmv
     have gr1 : (r1 : Int) < (nm : Int) := by have := HNM.out.1; omega
     have gr0 : (0 : Int) ≤ (r1 : Int) := by omega
     have gr2 : decide ((nm : Int) ≤ (r1 : Int)) = false := by rw [decide_eq_false_iff_not]; omega
     have gr3 : decide (nm ≤ r1) = false := by rw [decide_eq_false_iff_not]; omega
     have gu : uv (S.regs 1) = (r1 : Int) := by rw [← HR1.out]; rfl
     have gnm : IntKind.u64.wrap (nm : Int) = (nm : Int) := by have := HNM.out.2; rw [IntKind.wrap_u64]; omega
     have gh1 : decide ((0 : Int) ≤ (h : Int)) = true := by rw [decide_eq_true_eq]; omega
     have gh2 : decide ((h : Int) < 5) = true := by rw [decide_eq_true_eq]; omega
     have gh3 : decide (h < 5) = true := by rw [decide_eq_true_eq]; omega
     clear hr1
     have i0 : w5.cell? ⟨q5, 0, none⟩ = some (.int .i64 21) := X5.out.o5.cell 0
     have i1 : w5.cell? ⟨q5, 1, none⟩ = some (.int .i64 (rd : Int)) := X5.out.o5.cell 1
     have i2 : w5.cell? ⟨q5, 2, none⟩ = some (.int .i64 (ra : Int)) := X5.out.o5.cell 2
     have i3 : w5.cell? ⟨q5, 3, none⟩ = some (.int .i64 b) := X5.out.o5.cell 3
     have i4 : w5.cell? ⟨q5, 4, none⟩ = some (.int .i64 (h : Int)) := X5.out.o5.cell 4
     have y0 := X5.out.M.ms
     have y5 : w5.cell? ⟨g, 5, none⟩ = some (.int .u64 (uv (S.regs 1))) := X5.out.M.reg (r := 1) (by decide)
     have k0 : w5.cell? ⟨q6, 0, none⟩ = some (.int .i64 1) := X5.out.o6.cell 0
     have fz : ∀ x, w5.frozen? ⟨q6, x, none⟩ = false := X5.out.o6.frozen
     go_upto_region 51 with fail
     clear i0 i1 i2 i3 i4 k0 fz y0 y5 gr2 gr3 gnm gh1 gh2 gh3
     have X6 := Lib.hid (X5.out.setK 2)
     clear X5
     generalize w5.setCell ⟨q6, 0, none⟩ (.int .i64 2) = w6 at X6 ⊢
     obtain ⟨wd, hwd⟩ : ∃ wd, w6.drew = wd := ⟨_, rfl⟩
     have XD := Lib.hid (hwd ▸ X6.out.drew)
     clear X6
     refine wp_region_held_drew (S := fun w' => (w'.cell? ⟨g, 0, none⟩ = some (.slice (some ⟨bm, om, none⟩) nm cm) ∧ w'.cell? ⟨g, 6, none⟩ = some (.int .u64 (uv (S.regs 2))) ∧ w'.cell? ⟨bm, om + r1, none⟩ = some (.int .i64 mv) ∧ w'.cell? ⟨q5, 4, none⟩ = some (.int .i64 (h : Int)))) (by kernel_rfl) (by rw [hwd]; exact ⟨XD.out.M.ms, XD.out.M.reg (r := 2) (by decide), cell_tch XD.out.t HM0.out HNB.out, XD.out.o5.cell 4⟩) (fun hHeld => ?_)
     refine tkq 0 359 rfl (by kernel_rfl) (by rfl) hHeld (fun _ _ _ h => h) (by intro w' hSw; go_simp; try with_reducible rfl) ?_
     simp only [Act.put, spa, spb, spc]
     refine tkq 1 360 rfl (by kernel_rfl) (by rfl) hHeld (fun _ _ _ h => h) (by intro w' hSw; go_simp; try with_reducible rfl) ?_
     simp only [Act.put, spa, spb, spc]
     refine tkq 2 361 rfl (by kernel_rfl) (by rfl) hHeld (fun _ _ _ h => h) (by intro w' hSw; go_simp; try with_reducible rfl) ?_
     simp only [Act.put, spa, spb, spc]
     refine tkq 3 362 rfl (by kernel_rfl) (by rfl) hHeld (fun _ _ _ h => h) (by intro w' hSw; go_simp; try with_reducible rfl) ?_
     simp only [Act.put, spa, spb, spc]
     refine tkq 4 363 rfl (by kernel_rfl) (by rfl) hHeld (fun _ _ _ h => h) (by intro w' hSw; go_simp; try with_reducible rfl) ?_
     simp only [Act.put, spa, spb, spc]
     refine tkq 5 364 rfl (by kernel_rfl) (by rfl) hHeld (fun _ _ _ h => h) (by intro w' hSw; go_simp; try with_reducible rfl) ?_
     simp only [Act.put, spa, spb, spc]
     refine tkq 6 365 rfl (by kernel_rfl) (by rfl) hHeld (fun _ _ _ h => h) (by intro w' hSw; go_simp; try with_reducible rfl) ?_
     simp only [Act.put, spa, spb, spc]
     refine tkq 7 366 rfl (by kernel_rfl) (by rfl) hHeld (fun _ _ _ h => h) (by intro w' hSw; go_simp; try with_reducible rfl) ?_
     simp only [Act.put, spa, spb, spc]
     refine tkq 8 367 rfl (by kernel_rfl) (by rfl) hHeld (fun _ _ _ h => h) (by intro w' hSw; go_simp; try with_reducible rfl) ?_
     simp only [Act.put, spa, spb, spc]
     refine tkq 9 368 rfl (by kernel_rfl) (by rfl) hHeld (fun _ _ _ h => h) (by intro w' hSw; go_simp; try with_reducible rfl) ?_
     simp only [Act.put, spa, spb, spc]
     refine tkq 10 369 rfl (by kernel_rfl) (by rfl) hHeld (fun _ _ _ h => h) (by intro w' hSw; go_simp; try with_reducible rfl) ?_
     simp only [Act.put, spa, spb, spc]
     refine tkq 11 370 rfl (by kernel_rfl) (by rfl) hHeld (fun _ _ _ h => h) (by intro w' hSw; go_simp; try with_reducible rfl) ?_
     simp only [Act.put, spa, spb, spc]
     refine tkq 12 371 rfl (by kernel_rfl) (by rfl) hHeld (fun _ _ _ h => h) (by intro w' hSw; go_simp; try with_reducible rfl) ?_
     simp only [Act.put, spa, spb, spc]
     refine tkq 13 372 rfl (by kernel_rfl) (by rfl) hHeld (fun _ _ _ h => h) (by intro w' hSw; go_simp; try with_reducible rfl) ?_
     simp only [Act.put, spa, spb, spc]
     refine tkq 14 373 rfl (by kernel_rfl) (by rfl) hHeld (fun _ _ _ h => h) (by intro w' hSw; go_simp; try with_reducible rfl) ?_
     simp only [Act.put, spa, spb, spc]
     refine tkq 15 374 rfl (by kernel_rfl) (by rfl) hHeld (fun _ _ _ h => h) (by intro w' hSw; go_simp; try with_reducible rfl) ?_
     simp only [Act.put, spa, spb, spc]
     refine tkq 16 375 rfl (by kernel_rfl) (by rfl) hHeld (fun _ _ _ h => h) (by intro w' hSw; go_simp; try with_reducible rfl) ?_
     simp only [Act.put, spa, spb, spc]
     refine rdq 17 ⟨none, _, _, _, _, _⟩ (by kernel_rfl) rfl (fun K' hK => ?_)
     have y2 : wd.cell? ⟨q6, 2, none⟩ = some (.int .i64 0) := XD.out.o6.cell 2
     have y3 : wd.cell? ⟨q6, 3, none⟩ = some (.int .i64 0) := XD.out.o6.cell 3
     have y4 : wd.cell? ⟨q6, 4, none⟩ = some (.int .u64 0) := XD.out.o6.cell 4
     have y5 : wd.cell? ⟨q6, 5, none⟩ = some (.int .u64 0) := XD.out.o6.cell 5
     have z5 : ∀ x, wd.frozen? ⟨q6, x, none⟩ = false := XD.out.o6.frozen
     go_simp
     have XY := Lib.hid ((((XD.out.setMp mv).setOp (h : Int)).setKey (S.regs 2)).setVal 0#64)
     try simp only [uv_zero] at XY
     refine hK.out _ _ ⟨XY.out.M.ms, XY.out.M.reg (r := 2) (by decide), cell_tch XY.out.t HM0.out HNB.out, XY.out.o5.cell 4⟩ (fun hHeld => ?_)
     clear hK K'
     clear hHeld y2 y3 y4 y5 z5
     refine wpAnyH_done (by kernel_rfl) ?_ _
     clear hwd XD
     generalize ((((wd.setCell ⟨q6, 2, none⟩ (.int .i64 mv)).setCell ⟨q6, 3, none⟩ (.int .i64 (h : Int))).setCell ⟨q6, 4, none⟩ (.int .u64 (uv (S.regs 2)))).setCell ⟨q6, 5, none⟩ (.int .u64 0)) = w7 at XY ⊢
     have i4 : w7.cell? ⟨q5, 4, none⟩ = some (.int .i64 (h : Int)) := XY.out.o5.cell 4
     by_cases hv : h = 2 ∨ h = 4
     · rcases hv with rfl | rfl
       · have HA2 := Lib.hid (show (⟨2, S.pc, mv, ((2 : Nat) : Int), S.regs 2, S.regs 3, 0#64⟩ : ActV) = A from by rw [← HA5.out]; congr 1)
         clear HA5
         have y3 : w7.cell? ⟨g, 7, none⟩ = some (.int .u64 (uv (S.regs 3))) := XY.out.M.reg (r := 3) (by decide)
         have x5 : w7.cell? ⟨q6, 5, none⟩ = some (.int .u64 0) := XY.out.o6.cell 5
         have z5 : ∀ x, w7.frozen? ⟨q6, x, none⟩ = false := XY.out.o6.frozen
         go_upto_region 54 with fail
         clear y3 x5 z5 i4
         have XZ := Lib.hid (XY.out.setVal (S.regs 3))
         generalize w7.setCell ⟨q6, 5, none⟩ (.int .u64 (uv (S.regs 3))) = w8 at XZ ⊢
         obtain ⟨v0, v1, v2, v3, v4, v5, v6⟩ := acc_at XZ.out.o6
         obtain ⟨x0, x1, x2, x3, x4, x5, x6⟩ := acc_at XZ.out.o4
         simp only [ac0, uv_zero] at v0 v1 v2 v3 v4 v5 v6 x0 x1 x2 x3 x4 x5 x6
         have z4 : ∀ x, w8.frozen? ⟨q4, x, none⟩ = false := XZ.out.o4.frozen
         go_wp2_with fail
         exact XZ.out.fin rfl HA2.out HS2.out rfl rfl rfl rfl
       have HA2 := Lib.hid (show (⟨2, S.pc, mv, ((4 : Nat) : Int), S.regs 2, S.regs 3, 0#64⟩ : ActV) = A from by rw [← HA5.out]; congr 1)
       clear HA5
       have y3 : w7.cell? ⟨g, 7, none⟩ = some (.int .u64 (uv (S.regs 3))) := XY.out.M.reg (r := 3) (by decide)
       have x5 : w7.cell? ⟨q6, 5, none⟩ = some (.int .u64 0) := XY.out.o6.cell 5
       have z5 : ∀ x, w7.frozen? ⟨q6, x, none⟩ = false := XY.out.o6.frozen
       go_upto_region 54 with fail
       clear y3 x5 z5 i4
       have XZ := Lib.hid (XY.out.setVal (S.regs 3))
       generalize w7.setCell ⟨q6, 5, none⟩ (.int .u64 (uv (S.regs 3))) = w8 at XZ ⊢
       obtain ⟨v0, v1, v2, v3, v4, v5, v6⟩ := acc_at XZ.out.o6
       obtain ⟨x0, x1, x2, x3, x4, x5, x6⟩ := acc_at XZ.out.o4
       simp only [ac0, uv_zero] at v0 v1 v2 v3 v4 v5 v6 x0 x1 x2 x3 x4 x5 x6
       have z4 : ∀ x, w8.frozen? ⟨q4, x, none⟩ = false := XZ.out.o4.frozen
       go_wp2_with fail
       exact XZ.out.fin rfl HA2.out HS2.out rfl rfl rfl rfl
     have HA2 := Lib.hid (show (⟨2, S.pc, mv, h, S.regs 2, 0#64, 0#64⟩ : ActV) = A from by rw [← HA5.out]; congr 1; exact (if_neg (by omega)).symm)
     clear HA5
     have e2 : ((h : Int) == 2) = false := by rw [beq_eq_false_iff_ne]; omega
     have e4 : ((h : Int) == 4) = false := by rw [beq_eq_false_iff_ne]; omega
     obtain ⟨v0, v1, v2, v3, v4, v5, v6⟩ := acc_at XY.out.o6
     obtain ⟨x0, x1, x2, x3, x4, x5, x6⟩ := acc_at XY.out.o4
     simp only [ac0, uv_zero] at v0 v1 v2 v3 v4 v5 v6 x0 x1 x2 x3 x4 x5 x6
     have z4 : ∀ x, w7.frozen? ⟨q4, x, none⟩ = false := XY.out.o4.frozen
     go_wp2_with fail
     exact XY.out.fin rfl HA2.out HS2.out rfl rfl rfl rfl
   have hc : h = 5 ∨ h = 6 := by have := HH.out; omega
   clear h5
   rcases hc with rfl | rfl
   · have hr1 := HK.out.2 rfl
     have g15 : decide ((15 : Int) < uv (S.regs 1)) = false := by rw [decide_eq_false_iff_not]; unfold uv; omega
     have HA2 := Lib.hid (show (⟨1, S.pc, 0, 0, 0#64, 0#64, cnt⟩ : ActV) = A from by rw [← HA.out, HCN.out rfl rfl]; rfl)
     have HS2 := Lib.hid (show ({ S with steps := S.steps + 1, counts := upd S.counts (S.regs 1).toNat (S.counts (S.regs 1).toNat + 1#64), regs := upd S.regs 0 cnt, pc := S.pc + 1 } : StV) = S' from by rw [← HS.out, HCN.out rfl rfl]; rfl)
     clear HA HS hr1
     have i0 : w5.cell? ⟨q5, 0, none⟩ = some (.int .i64 21) := X5.out.o5.cell 0
     have i1 : w5.cell? ⟨q5, 1, none⟩ = some (.int .i64 (rd : Int)) := X5.out.o5.cell 1
     have i2 : w5.cell? ⟨q5, 2, none⟩ = some (.int .i64 (ra : Int)) := X5.out.o5.cell 2
     have i3 : w5.cell? ⟨q5, 3, none⟩ = some (.int .i64 b) := X5.out.o5.cell 3
     have i4 : w5.cell? ⟨q5, 4, none⟩ = some (.int .i64 ((5 : Nat) : Int)) := X5.out.o5.cell 4
     have y5 : w5.cell? ⟨g, 5, none⟩ = some (.int .u64 (uv (S.regs 1))) := X5.out.M.reg (r := 1) (by decide)
     have k0 : w5.cell? ⟨q6, 6, none⟩ = some (.int .u64 0) := X5.out.o6.cell 6
     have fz : ∀ x, w5.frozen? ⟨q6, x, none⟩ = false := X5.out.o6.frozen
     go_upto_region 60 with fail
     clear k0 fz y5 g15 i0 i1 i2 i3 i4
     have X6 := Lib.hid (X5.out.setV cnt)
     clear X5
     generalize w5.setCell ⟨q6, 6, none⟩ (.int .u64 (uv cnt)) = w6 at X6 ⊢
     have i0 : w6.cell? ⟨q5, 0, none⟩ = some (.int .i64 21) := X6.out.o5.cell 0
     have i1 : w6.cell? ⟨q5, 1, none⟩ = some (.int .i64 (rd : Int)) := X6.out.o5.cell 1
     have i2 : w6.cell? ⟨q5, 2, none⟩ = some (.int .i64 (ra : Int)) := X6.out.o5.cell 2
     have i3 : w6.cell? ⟨q5, 3, none⟩ = some (.int .i64 b) := X6.out.o5.cell 3
     have i4 : w6.cell? ⟨q5, 4, none⟩ = some (.int .i64 ((5 : Nat) : Int)) := X6.out.o5.cell 4
     have r0 : w6.cell? ⟨g, 4, none⟩ = some (.int .u64 (uv (S.regs 0))) := X6.out.M.reg (r := 0) (by decide)
     have zg : ∀ x, w6.frozen? ⟨g, x, none⟩ = false := Ob.frozen X6.out.M
     go_upto_region 65 with fail
     clear r0 zg
     have X7 := Lib.hid (show XSt w (w6.setCell ⟨g, 4, none⟩ (.int .u64 (uv cnt))) g q4 q5 q6 _ _ ea eb _ _ _ from X6.out.setReg (r := 0) (by decide) cnt)
     try simp only [uv_zero] at X7
     generalize w6.setCell ⟨g, 4, none⟩ (.int .u64 (uv cnt)) = w7 at X7 ⊢
     clear i0 i1 i2 i3 i4
     have y92 := X7.out.M.pc_
     have zg : ∀ x, w7.frozen? ⟨g, x, none⟩ = false := Ob.frozen X7.out.M
     go_upto_region 66 with fail
     clear y92 zg
     have XP := Lib.hid (X7.out.setPc (S.pc + 1))
     push_cast at XP
     generalize w7.setCell ⟨g, 92, none⟩ (.int .i64 ((S.pc : Int) + 1)) = wp at XP ⊢
     obtain ⟨v0, v1, v2, v3, v4, v5, v6⟩ := acc_at XP.out.o6
     obtain ⟨x0, x1, x2, x3, x4, x5, x6⟩ := acc_at XP.out.o4
     simp only [ac0, uv_zero] at v0 v1 v2 v3 v4 v5 v6 x0 x1 x2 x3 x4 x5 x6
     have z4 : ∀ x, wp.frozen? ⟨q4, x, none⟩ = false := XP.out.o4.frozen
     go_wp2_with fail
     exact XP.out.fin rfl HA2.out HS2.out rfl rfl rfl rfl
   have HA2 := Lib.hid (show (⟨3, S.pc, 0, 0, 0#64, 0#64, S.regs 1⟩ : ActV) = A from by rw [← HA.out]; rfl)
   have HS2 := Lib.hid (show ({ S with steps := S.steps + 1, regs := upd S.regs 0 0#64, pc := S.pc + 1 } : StV) = S' from by rw [← HS.out]; rfl)
   clear HA HS
   have i0 : w5.cell? ⟨q5, 0, none⟩ = some (.int .i64 21) := X5.out.o5.cell 0
   have i1 : w5.cell? ⟨q5, 1, none⟩ = some (.int .i64 (rd : Int)) := X5.out.o5.cell 1
   have i2 : w5.cell? ⟨q5, 2, none⟩ = some (.int .i64 (ra : Int)) := X5.out.o5.cell 2
   have i3 : w5.cell? ⟨q5, 3, none⟩ = some (.int .i64 b) := X5.out.o5.cell 3
   have i4 : w5.cell? ⟨q5, 4, none⟩ = some (.int .i64 ((6 : Nat) : Int)) := X5.out.o5.cell 4
   have y5 : w5.cell? ⟨g, 5, none⟩ = some (.int .u64 (uv (S.regs 1))) := X5.out.M.reg (r := 1) (by decide)
   have k0 : w5.cell? ⟨q6, 0, none⟩ = some (.int .i64 1) := X5.out.o6.cell 0
   have k6 : w5.cell? ⟨q6, 6, none⟩ = some (.int .u64 0) := X5.out.o6.cell 6
   have fz : ∀ x, w5.frozen? ⟨q6, x, none⟩ = false := X5.out.o6.frozen
   go_upto_region 64 with fail
   clear k0 k6 fz y5 i0 i1 i2 i3 i4
   have X6 := Lib.hid ((X5.out.setK 3).setV (S.regs 1))
   clear X5
   generalize (w5.setCell ⟨q6, 0, none⟩ (.int .i64 3)).setCell ⟨q6, 6, none⟩ (.int .u64 (uv (S.regs 1))) = w6 at X6 ⊢
   have r0 : w6.cell? ⟨g, 4, none⟩ = some (.int .u64 (uv (S.regs 0))) := X6.out.M.reg (r := 0) (by decide)
   have zg : ∀ x, w6.frozen? ⟨g, x, none⟩ = false := Ob.frozen X6.out.M
   go_upto_region 65 with fail
   clear r0 zg
   have X7 := Lib.hid (show XSt w (w6.setCell ⟨g, 4, none⟩ (.int .u64 (uv 0#64))) g q4 q5 q6 _ _ ea eb _ _ _ from X6.out.setReg (r := 0) (by decide) 0#64)
   try simp only [uv_zero] at X7
   generalize w6.setCell ⟨g, 4, none⟩ (.int .u64 0) = w7 at X7 ⊢
   have y92 := X7.out.M.pc_
   have zg : ∀ x, w7.frozen? ⟨g, x, none⟩ = false := Ob.frozen X7.out.M
   go_upto_region 66 with fail
   clear y92 zg
   have XP := Lib.hid (X7.out.setPc (S.pc + 1))
   push_cast at XP
   generalize w7.setCell ⟨g, 92, none⟩ (.int .i64 ((S.pc : Int) + 1)) = wp at XP ⊢
   obtain ⟨v0, v1, v2, v3, v4, v5, v6⟩ := acc_at XP.out.o6
   obtain ⟨x0, x1, x2, x3, x4, x5, x6⟩ := acc_at XP.out.o4
   simp only [ac0, uv_zero] at v0 v1 v2 v3 v4 v5 v6 x0 x1 x2 x3 x4 x5 x6
   have z4 : ∀ x, wp.frozen? ⟨q4, x, none⟩ = false := XP.out.o4.frozen
   go_wp2_with fail
   exact XP.out.fin rfl HA2.out HS2.out rfl rfl rfl rfl
 · have g3 : (ra : Int) < 8 := by have := HRA.out; omega
   have g4 : (0 : Int) ≤ (ra : Int) := by omega
   have HA2 := Lib.hid (show (⟨4, S.pc, 0, 0, 0#64, 0#64, S.regs ra⟩ : ActV) = A from by rw [← HA.out]; rfl)
   have HS2 := Lib.hid (show ({ S with steps := S.steps + 1, st := 2 } : StV) = S' from by rw [← HS.out]; rfl)
   clear HS HA
   have i0 : w5.cell? ⟨q5, 0, none⟩ = some (.int .i64 22) := X5.out.o5.cell 0
   have i1 : w5.cell? ⟨q5, 1, none⟩ = some (.int .i64 (rd : Int)) := X5.out.o5.cell 1
   have i2 : w5.cell? ⟨q5, 2, none⟩ = some (.int .i64 (ra : Int)) := X5.out.o5.cell 2
   have i3 : w5.cell? ⟨q5, 3, none⟩ = some (.int .i64 b) := X5.out.o5.cell 3
   have i4 : w5.cell? ⟨q5, 4, none⟩ = some (.int .i64 m) := X5.out.o5.cell 4
   have k0 : w5.cell? ⟨q6, 0, none⟩ = some (.int .i64 1) := X5.out.o6.cell 0
   have fz : ∀ x, w5.frozen? ⟨q6, x, none⟩ = false := X5.out.o6.frozen
   go_upto_region 16 with fail
   clear i0 i1 i2 i3 i4 k0 fz
   have X6 := Lib.hid (X5.out.setK 4)
   clear X5
   generalize w5.setCell ⟨q6, 0, none⟩ (.int .i64 4) = w6 at X6 ⊢
   obtain ⟨wd, hwd⟩ : ∃ wd, w6.drew = wd := ⟨_, rfl⟩
   have XD := Lib.hid (hwd ▸ X6.out.drew)
   clear X6
   refine wp_region_held_drew (S := fun w' => (w'.cell? ⟨q5, 2, none⟩ = some (.int .i64 (ra : Int)) ∧ w'.cell? ⟨g, 4 + ra, none⟩ = some (.int .u64 (uv (S.regs ra))))) (by kernel_rfl) (by rw [hwd]; exact ⟨XD.out.o5.cell 2, XD.out.M.reg HRA.out⟩) (fun hHeld => ?_)
   refine tkq 0 104 rfl (by kernel_rfl) (by rfl) hHeld (fun _ _ _ h => h) (by intro w' hSw; go_simp; try with_reducible rfl) ?_
   simp only [Act.put, spa, spb, spc]
   refine tkq 1 105 rfl (by kernel_rfl) (by rfl) hHeld (fun _ _ _ h => h) (by intro w' hSw; go_simp; try with_reducible rfl) ?_
   simp only [Act.put, spa, spb, spc]
   refine tkq 2 106 rfl (by kernel_rfl) (by rfl) hHeld (fun _ _ _ h => h) (by intro w' hSw; go_simp; try with_reducible rfl) ?_
   simp only [Act.put, spa, spb, spc]
   refine tkq 3 107 rfl (by kernel_rfl) (by rfl) hHeld (fun _ _ _ h => h) (by intro w' hSw; go_simp; try with_reducible rfl) ?_
   simp only [Act.put, spa, spb, spc]
   refine tkq 4 108 rfl (by kernel_rfl) (by rfl) hHeld (fun _ _ _ h => h) (by intro w' hSw; go_simp; try with_reducible rfl) ?_
   simp only [Act.put, spa, spb, spc]
   refine tkq 5 109 rfl (by kernel_rfl) (by rfl) hHeld (fun _ _ _ h => h) (by intro w' hSw; go_simp; try with_reducible rfl) ?_
   simp only [Act.put, spa, spb, spc]
   refine tkq 6 110 rfl (by kernel_rfl) (by rfl) hHeld (fun _ _ _ h => h) (by intro w' hSw; go_simp; try with_reducible rfl) ?_
   simp only [Act.put, spa, spb, spc]
   refine tkq 7 111 rfl (by kernel_rfl) (by rfl) hHeld (fun _ _ _ h => h) (by intro w' hSw; go_simp; try with_reducible rfl) ?_
   simp only [Act.put, spa, spb, spc]
   refine rdq 8 ⟨none, _, _, _, _, _⟩ (by kernel_rfl) rfl (fun K' hK => ?_)
   have r0 : wd.cell? ⟨q6, 6, none⟩ = some (.int .u64 0) := XD.out.o6.cell 6
   have fz : ∀ x, wd.frozen? ⟨q6, x, none⟩ = false := XD.out.o6.frozen
   go_simp
   have XY := Lib.hid (XD.out.setV (S.regs ra))
   refine hK.out _ _ ⟨XY.out.o5.cell 2, XY.out.M.reg HRA.out⟩ (fun hHeld => ?_)
   clear hK K'
   clear hHeld r0 fz
   refine wpAnyH_done (by kernel_rfl) ?_ _
   clear hwd XD
   generalize wd.setCell ⟨q6, 6, none⟩ (.int .u64 (uv (S.regs ra))) = w7 at XY ⊢
   obtain ⟨v0, v1, v2, v3, v4, v5, v6⟩ := acc_at XY.out.o6
   obtain ⟨x0, x1, x2, x3, x4, x5, x6⟩ := acc_at XY.out.o4
   simp only [ac0, uv_zero] at v0 v1 v2 v3 v4 v5 v6 x0 x1 x2 x3 x4 x5 x6
   have z4 : ∀ x, w7.frozen? ⟨q4, x, none⟩ = false := XY.out.o4.frozen
   go_wp2_with fail
   exact XY.out.fin rfl HA2.out HS2.out rfl rfl rfl rfl
 · have hrd : rd < 8 := by have := HI.out.d8 (by first | decide | (dsimp only; omega)); dsimp only at this; omega
   have HR8 := Lib.hid hrd
   have g1 : (rd : Int) < 8 := by omega
   have g0 : (0 : Int) ≤ (rd : Int) := by omega
   have h7 : decide ((7 : Int) < (rd : Int)) = false := by rw [decide_eq_false_iff_not]; omega
   have h8 : decide (7 < rd) = false := by rw [decide_eq_false_iff_not]; omega
   clear hrd
   have g3 : (ra : Int) < 8 := by have := HRA.out; omega
   have g4 : (0 : Int) ≤ (ra : Int) := by omega
   have hok : AM.doOk op = true := decide_eq_true hop
   have HS2 := Lib.hid (show ({ S with steps := S.steps + 1, regs := upd S.regs rd (AM.doV op (S.regs ra) x), pc := S.pc + 1 } : StV) = S' from by
    have e1 : runS ea eb ⟨op, (rd : Int), (ra : Int), b, m⟩ { S with steps := S.steps + 1 } = { S with steps := S.steps + 1, regs := upd S.regs rd (AM.doV op (S.regs ra) x) } := by
     unfold runS
     rw [if_neg (by first | omega | (dsimp only; omega)), if_neg (by first | omega | (dsimp only; omega)), if_neg (by first | omega | (dsimp only; omega)), if_neg (by first | omega | (dsimp only; omega)), if_neg (by first | omega | (dsimp only; omega)), if_neg (by first | omega | (dsimp only; omega)), if_neg (by first | omega | (dsimp only; omega)), if_pos hok, ← HX.out]; rfl
    have e2 : runD ⟨op, (rd : Int), (ra : Int), b, m⟩ S = 1 := by unfold runD; rw [if_neg (by first | omega | (dsimp only; omega)), if_neg (by first | omega | (dsimp only; omega)), if_pos hok]
    rw [← HS.out]; unfold stepS; rw [if_neg (by first | omega | (dsimp only; omega)), if_neg (by first | omega | (dsimp only; omega)), e1, e2]; rfl)
   have HA2 := Lib.hid (show (⟨1, S.pc, 0, 0, 0#64, 0#64, 0#64⟩ : ActV) = A from by rw [← HA.out]; unfold stepA; rw [if_neg (by first | omega | (dsimp only; omega)), if_neg (by first | omega | (dsimp only; omega))])
   have HDO := Lib.hid (fun w => two_any op (S.regs ra) x w hop)
   clear HS HA
   have n0 : (op == 0) = false := by rw [beq_eq_false_iff_ne]; omega
   have n11 : (op == 11) = false := by rw [beq_eq_false_iff_ne]; omega
   have n12 : (op == 12) = false := by rw [beq_eq_false_iff_ne]; omega
   have n13 : (op == 13) = false := by rw [beq_eq_false_iff_ne]; omega
   have n14 : (op == 14) = false := by rw [beq_eq_false_iff_ne]; omega
   have n15 : (op == 15) = false := by rw [beq_eq_false_iff_ne]; omega
   have n20 : (op == 20) = false := by rw [beq_eq_false_iff_ne]; omega
   have n21 : (op == 21) = false := by rw [beq_eq_false_iff_ne]; omega
   have n22 : (op == 22) = false := by rw [beq_eq_false_iff_ne]; omega
   have d1 : decide ((0 : Int) ≤ op) = true := by first | (rw [decide_eq_true_eq]; omega) | (rw [decide_eq_false_iff_not]; omega)
   have d2 : decide (op ≤ 11) = true := by first | (rw [decide_eq_true_eq]; omega) | (rw [decide_eq_false_iff_not]; omega)
   have d3 : decide ((1 : Int) ≤ op) = true := by first | (rw [decide_eq_true_eq]; omega) | (rw [decide_eq_false_iff_not]; omega)
   have d4 : decide (op ≤ 10) = true := by first | (rw [decide_eq_true_eq]; omega) | (rw [decide_eq_false_iff_not]; omega)
   have d5 : decide ((16 : Int) ≤ op) = false := by first | (rw [decide_eq_true_eq]; omega) | (rw [decide_eq_false_iff_not]; omega)
   have d6 : decide (op ≤ 19) = true := by first | (rw [decide_eq_true_eq]; omega) | (rw [decide_eq_false_iff_not]; omega)
   have i0 : w5.cell? ⟨q5, 0, none⟩ = some (.int .i64 op) := X5.out.o5.cell 0
   have i1 : w5.cell? ⟨q5, 1, none⟩ = some (.int .i64 (rd : Int)) := X5.out.o5.cell 1
   have i2 : w5.cell? ⟨q5, 2, none⟩ = some (.int .i64 (ra : Int)) := X5.out.o5.cell 2
   have i3 : w5.cell? ⟨q5, 3, none⟩ = some (.int .i64 b) := X5.out.o5.cell 3
   have i4 : w5.cell? ⟨q5, 4, none⟩ = some (.int .i64 m) := X5.out.o5.cell 4
   go_upto_region 21 with fail
   clear i0 i1 i2 i3 i4 n0 n11 n12 n13 n14 n15 n20 n21 n22 d1 d2 d3 d4 d5 d6
   obtain ⟨wd, hwd⟩ : ∃ wd, w5.drew = wd := ⟨_, rfl⟩
   have XD := Lib.hid (hwd ▸ X5.out.drew)
   clear X5
   refine wp_region_held_drew (S := fun w' => (w'.cell? ⟨q5, 0, none⟩ = some (.int .i64 op) ∧ w'.cell? ⟨q5, 1, none⟩ = some (.int .i64 (rd : Int)) ∧ w'.cell? ⟨q5, 2, none⟩ = some (.int .i64 (ra : Int)) ∧ w'.cell? ⟨q5, 3, none⟩ = some (.int .i64 b) ∧ w'.cell? ⟨q5, 4, none⟩ = some (.int .i64 m))) (by kernel_rfl) (by rw [hwd]; exact ⟨XD.out.o5.cell 0, XD.out.o5.cell 1, XD.out.o5.cell 2, XD.out.o5.cell 3, XD.out.o5.cell 4⟩) (fun hHeld => ?_)
   refine tkq 0 133 rfl (by kernel_rfl) (by rfl) hHeld (fun _ _ _ h => h) (by intro w' hSw; go_simp; try with_reducible rfl) ?_
   simp only [Act.put, spa, spb, spc]
   refine tkq 1 134 rfl (by kernel_rfl) (by rfl) hHeld (fun _ _ _ h => h) (by intro w' hSw; go_simp; try with_reducible rfl) ?_
   simp only [Act.put, spa, spb, spc]
   refine tkq 2 135 rfl (by kernel_rfl) (by rfl) hHeld (fun _ _ _ h => h) (by intro w' hSw; go_simp; try with_reducible rfl) ?_
   simp only [Act.put, spa, spb, spc]
   refine tkq 3 136 rfl (by kernel_rfl) (by rfl) hHeld (fun _ _ _ h => h) (by intro w' hSw; go_simp; try with_reducible rfl) ?_
   simp only [Act.put, spa, spb, spc]
   refine tkq 4 137 rfl (by kernel_rfl) (by rfl) hHeld (fun _ _ _ h => h) (by intro w' hSw; go_simp; try with_reducible rfl) ?_
   simp only [Act.put, spa, spb, spc]
   refine tkq 5 138 rfl (by kernel_rfl) (by rfl) hHeld (fun _ _ _ h => h) (by intro w' hSw; go_simp; try with_reducible rfl) ?_
   simp only [Act.put, spa, spb, spc]
   refine tkq 6 139 rfl (by kernel_rfl) (by rfl) hHeld (fun _ _ _ h => h) (by intro w' hSw; go_simp; try with_reducible rfl) ?_
   simp only [Act.put, spa, spb, spc]
   refine tkq 7 140 rfl (by kernel_rfl) (by rfl) hHeld (fun _ _ _ h => h) (by intro w' hSw; go_simp; try with_reducible rfl) ?_
   simp only [Act.put, spa, spb, spc]
   refine tkq 8 141 rfl (by kernel_rfl) (by rfl) hHeld (fun _ _ _ h => h) (by intro w' hSw; go_simp; try with_reducible rfl) ?_
   simp only [Act.put, spa, spb, spc]
   refine tkq 9 142 rfl (by kernel_rfl) (by rfl) hHeld (fun _ _ _ h => h) (by intro w' hSw; go_simp; try with_reducible rfl) ?_
   simp only [Act.put, spa, spb, spc]
   refine tkq 10 143 rfl (by kernel_rfl) (by rfl) hHeld (fun _ _ _ h => h) (by intro w' hSw; go_simp; try with_reducible rfl) ?_
   simp only [Act.put, spa, spb, spc]
   refine tkq 12 145 rfl (by kernel_rfl) (by rfl) hHeld (fun _ _ _ h => h) (by intro w' hSw; go_simp; try with_reducible rfl) ?_
   simp only [Act.put, spa, spb, spc]
   refine tkq 14 147 rfl (by kernel_rfl) (by rfl) hHeld (fun _ _ _ h => h) (by intro w' hSw; go_simp; try with_reducible rfl) ?_
   simp only [Act.put, spa, spb, spc]
   refine tkq 15 148 rfl (by kernel_rfl) (by rfl) hHeld (fun _ _ _ h => h) (by intro w' hSw; go_simp; try with_reducible rfl) ?_
   simp only [Act.put, spa, spb, spc]
   refine rdq 11 ⟨some 144, _, _, _, _, _⟩ (by kernel_rfl) rfl (fun K' hK => ?_)
   have r1 := XD.out.M.reg HRA.out
   go_simp
   refine hK.out _ _ ⟨XD.out.o5.cell 0, XD.out.o5.cell 1, XD.out.o5.cell 2, XD.out.o5.cell 3, XD.out.o5.cell 4⟩ (fun hHeld => ?_)
   clear hK K'
   clear r1
   refine rdq 13 ⟨some 146, _, _, _, _, _⟩ (by kernel_rfl) rfl (fun K' hK => ?_)
   go_simp
   refine (HDO.out wd).mono ?_
   rintro e wy ⟨rfl, rfl⟩
   refine hK.out _ _ ⟨XD.out.o5.cell 0, XD.out.o5.cell 1, XD.out.o5.cell 2, XD.out.o5.cell 3, XD.out.o5.cell 4⟩ (fun hHeld => ?_)
   clear hK K'
   refine tkq 16 149 rfl (by kernel_rfl) (by rfl) hHeld (fun _ _ _ h => h) (by intro w' hSw; go_simp; try with_reducible rfl) ?_
   simp only [Act.put, spa, spb, spc]
   refine rdq 17 ⟨none, _, _, _, _, _⟩ (by kernel_rfl) rfl (fun K' hK => ?_)
   have r0 := XD.out.M.reg HR8.out
   have fz : ∀ x, wd.frozen? ⟨g, x, none⟩ = false := Ob.frozen XD.out.M
   go_simp
   have XY := Lib.hid (XD.out.setReg HR8.out (AM.doV op (S.regs ra) x))
   refine hK.out _ _ ⟨XY.out.o5.cell 0, XY.out.o5.cell 1, XY.out.o5.cell 2, XY.out.o5.cell 3, XY.out.o5.cell 4⟩ (fun hHeld => ?_)
   clear hK K'
   clear hHeld r0 fz
   refine wpAnyH_done (by kernel_rfl) ?_ _
   clear hwd XD
   generalize wd.setCell ⟨g, 4 + rd, none⟩ (.int .u64 (uv (AM.doV op (S.regs ra) x))) = w6 at XY ⊢
   have y92 := XY.out.M.pc_
   have zg : ∀ x, w6.frozen? ⟨g, x, none⟩ = false := Ob.frozen XY.out.M
   go_upto_region 66 with fail
   clear y92 zg
   have XP := Lib.hid (XY.out.setPc (S.pc + 1))
   push_cast at XP
   generalize w6.setCell ⟨g, 92, none⟩ (.int .i64 ((S.pc : Int) + 1)) = wp at XP ⊢
   obtain ⟨v0, v1, v2, v3, v4, v5, v6⟩ := acc_at XP.out.o6
   obtain ⟨x0, x1, x2, x3, x4, x5, x6⟩ := acc_at XP.out.o4
   simp only [ac0, uv_zero] at v0 v1 v2 v3 v4 v5 v6 x0 x1 x2 x3 x4 x5 x6
   have z4 : ∀ x, wp.frozen? ⟨q4, x, none⟩ = false := XP.out.o4.frozen
   go_wp2_with fail
   exact XP.out.fin rfl HA2.out HS2.out rfl rfl rfl rfl
 have g3 : (ra : Int) < 8 := by have := HRA.out; omega
 have g4 : (0 : Int) ≤ (ra : Int) := by omega
 have gto : wrap64 ((S.pc : Int) + 1 + (rd : Int)) = (S.pc : Int) + 1 + (rd : Int) := by have h1 := HRD.out; have h2 := HPC.out; unfold wrap64; omega
 have gto2 : IntKind.i64.wrap ((S.pc : Int) + 1 + (rd : Int)) = (S.pc : Int) + 1 + (rd : Int) := by have h1 := HRD.out; have h2 := HPC.out; rw [IntKind.wrap_i64]; omega
 have hok : AM.doOk op = false := by unfold AM.doOk; rw [decide_eq_false_iff_not]; omega
 have HS1 := Lib.hid (show ({ S with steps := S.steps + 1, pc := ((S.pc : Int) + (if AM.hdV op (S.regs ra) x = true then (rd : Int) + 1 else 1)).toNat } : StV) = S' from by
  have e1 : runS ea eb ⟨op, (rd : Int), (ra : Int), b, m⟩ { S with steps := S.steps + 1 } = { S with steps := S.steps + 1 } := by
   unfold runS
   rw [if_neg (by first | omega | (dsimp only; omega)), if_neg (by first | omega | (dsimp only; omega)), if_neg (by first | omega | (dsimp only; omega)), if_neg (by first | omega | (dsimp only; omega)), if_neg (by first | omega | (dsimp only; omega)), if_neg (by first | omega | (dsimp only; omega)), if_neg (by first | omega | (dsimp only; omega)), if_neg (by rw [hok]; decide)]
  have e2 : runD ⟨op, (rd : Int), (ra : Int), b, m⟩ S = (if AM.hdV op (S.regs ra) x = true then (rd : Int) + 1 else 1) := by rw [← HX.out]; exact (if_neg (show ¬ op = 15 by omega)).trans ((if_neg (show ¬ op = 20 by omega)).trans (if_neg (by rw [show AM.doOk op = false from hok]; decide)))
  have e3 : stepS ea eb ⟨op, (rd : Int), (ra : Int), b, m⟩ S = { runS ea eb ⟨op, (rd : Int), (ra : Int), b, m⟩ { S with steps := S.steps + 1 } with pc := ((S.pc : Int) + runD ⟨op, (rd : Int), (ra : Int), b, m⟩ S).toNat } := (if_neg (show ¬ op = 21 by omega)).trans (if_neg (show ¬ op = 22 by omega))
  rw [← HS.out, e3, e1, e2])
 have HA2 := Lib.hid (show (⟨1, S.pc, 0, 0, 0#64, 0#64, 0#64⟩ : ActV) = A from by rw [← HA.out]; exact ((if_neg (show ¬ op = 21 by omega)).trans (if_neg (show ¬ op = 22 by omega))).symm)
 have HDO := Lib.hid (fun w => holds_any op (S.regs ra) x w hop)
 obtain ⟨hv, hhv⟩ : ∃ hv, AM.hdV op (S.regs ra) x = hv := ⟨_, rfl⟩
 rw [hhv] at HDO HS1
 clear HS HA hhv hok
 have n0 : (op == 0) = false := by rw [beq_eq_false_iff_ne]; omega
 have n11 : (op == 11) = false := by rw [beq_eq_false_iff_ne]; omega
 have n12 : (op == 12) = false := by rw [beq_eq_false_iff_ne]; omega
 have n13 : (op == 13) = false := by rw [beq_eq_false_iff_ne]; omega
 have n14 : (op == 14) = false := by rw [beq_eq_false_iff_ne]; omega
 have n15 : (op == 15) = false := by rw [beq_eq_false_iff_ne]; omega
 have n20 : (op == 20) = false := by rw [beq_eq_false_iff_ne]; omega
 have n21 : (op == 21) = false := by rw [beq_eq_false_iff_ne]; omega
 have n22 : (op == 22) = false := by rw [beq_eq_false_iff_ne]; omega
 have d1 : decide ((0 : Int) ≤ op) = true := by first | (rw [decide_eq_true_eq]; omega) | (rw [decide_eq_false_iff_not]; omega)
 have d2 : decide (op ≤ 11) = false := by first | (rw [decide_eq_true_eq]; omega) | (rw [decide_eq_false_iff_not]; omega)
 have d3 : decide ((1 : Int) ≤ op) = true := by first | (rw [decide_eq_true_eq]; omega) | (rw [decide_eq_false_iff_not]; omega)
 have d4 : decide (op ≤ 10) = false := by first | (rw [decide_eq_true_eq]; omega) | (rw [decide_eq_false_iff_not]; omega)
 have d5 : decide ((16 : Int) ≤ op) = true := by first | (rw [decide_eq_true_eq]; omega) | (rw [decide_eq_false_iff_not]; omega)
 have d6 : decide (op ≤ 19) = true := by first | (rw [decide_eq_true_eq]; omega) | (rw [decide_eq_false_iff_not]; omega)
 have i0 : w5.cell? ⟨q5, 0, none⟩ = some (.int .i64 op) := X5.out.o5.cell 0
 have i1 : w5.cell? ⟨q5, 1, none⟩ = some (.int .i64 (rd : Int)) := X5.out.o5.cell 1
 have i2 : w5.cell? ⟨q5, 2, none⟩ = some (.int .i64 (ra : Int)) := X5.out.o5.cell 2
 have i3 : w5.cell? ⟨q5, 3, none⟩ = some (.int .i64 b) := X5.out.o5.cell 3
 have i4 : w5.cell? ⟨q5, 4, none⟩ = some (.int .i64 m) := X5.out.o5.cell 4
 go_upto_region 38 with fail
 clear i0 i1 i2 i3 i4 n0 n11 n12 n13 n14 n15 n20 n21 n22 d1 d2 d3 d4 d5 d6
 obtain ⟨wd, hwd⟩ : ∃ wd, w5.drew = wd := ⟨_, rfl⟩
 have XD := Lib.hid (hwd ▸ X5.out.drew)
 clear X5
 refine wp_region_held_drew (S := fun w' => (w'.cell? ⟨q5, 0, none⟩ = some (.int .i64 op) ∧ w'.cell? ⟨q5, 1, none⟩ = some (.int .i64 (rd : Int)) ∧ w'.cell? ⟨q5, 2, none⟩ = some (.int .i64 (ra : Int)) ∧ w'.cell? ⟨q5, 3, none⟩ = some (.int .i64 b) ∧ w'.cell? ⟨q5, 4, none⟩ = some (.int .i64 m) ∧ w'.cell? ⟨g, 4 + ra, none⟩ = some (.int .u64 (uv (S.regs ra))))) (by kernel_rfl) (by rw [hwd]; exact ⟨XD.out.o5.cell 0, XD.out.o5.cell 1, XD.out.o5.cell 2, XD.out.o5.cell 3, XD.out.o5.cell 4, XD.out.M.reg HRA.out⟩) (fun hHeld => ?_)
 refine tkq 0 257 rfl (by kernel_rfl) (by rfl) hHeld (fun _ _ _ h => h) (by intro w' hSw; go_simp; try with_reducible rfl) ?_
 simp only [Act.put, spa, spb, spc]
 refine tkq 1 258 rfl (by kernel_rfl) (by rfl) hHeld (fun _ _ _ h => h) (by intro w' hSw; go_simp; try with_reducible rfl) ?_
 simp only [Act.put, spa, spb, spc]
 refine tkq 2 259 rfl (by kernel_rfl) (by rfl) hHeld (fun _ _ _ h => h) (by intro w' hSw; go_simp; try with_reducible rfl) ?_
 simp only [Act.put, spa, spb, spc]
 refine tkq 3 260 rfl (by kernel_rfl) (by rfl) hHeld (fun _ _ _ h => h) (by intro w' hSw; go_simp; try with_reducible rfl) ?_
 simp only [Act.put, spa, spb, spc]
 refine tkq 4 261 rfl (by kernel_rfl) (by rfl) hHeld (fun _ _ _ h => h) (by intro w' hSw; go_simp; try with_reducible rfl) ?_
 simp only [Act.put, spa, spb, spc]
 refine tkq 5 262 rfl (by kernel_rfl) (by rfl) hHeld (fun _ _ _ h => h) (by intro w' hSw; go_simp; try with_reducible rfl) ?_
 simp only [Act.put, spa, spb, spc]
 refine tkq 6 263 rfl (by kernel_rfl) (by rfl) hHeld (fun _ _ _ h => h) (by intro w' hSw; go_simp; try with_reducible rfl) ?_
 simp only [Act.put, spa, spb, spc]
 refine tkq 7 264 rfl (by kernel_rfl) (by rfl) hHeld (fun _ _ _ h => h) (by intro w' hSw; go_simp; try with_reducible rfl) ?_
 simp only [Act.put, spa, spb, spc]
 refine tkq 8 265 rfl (by kernel_rfl) (by rfl) hHeld (fun _ _ _ h => h) (by intro w' hSw; go_simp; try with_reducible rfl) ?_
 simp only [Act.put, spa, spb, spc]
 refine tkq 9 266 rfl (by kernel_rfl) (by rfl) hHeld (fun _ _ _ h => h) (by intro w' hSw; go_simp; try with_reducible rfl) ?_
 simp only [Act.put, spa, spb, spc]
 refine rdq 10 ⟨some 267, _, _, _, _, _⟩ (by kernel_rfl) rfl (fun K' hK => ?_)
 go_simp
 refine (HDO.out wd).mono ?_
 rintro e wy ⟨rfl, rfl⟩
 refine hK.out _ _ ⟨XD.out.o5.cell 0, XD.out.o5.cell 1, XD.out.o5.cell 2, XD.out.o5.cell 3, XD.out.o5.cell 4, XD.out.M.reg HRA.out⟩ (fun hHeld => ?_)
 clear hK K'
 refine wpAnyH_done (by kernel_rfl) ?_ _
 clear hwd hHeld
 cases hv
 · have HS2 := Lib.hid (show ({ S with steps := S.steps + 1, pc := S.pc + 1 } : StV) = S' from HS1.out)
   have y92 := XD.out.M.pc_
   have zg : ∀ x, wd.frozen? ⟨g, x, none⟩ = false := Ob.frozen XD.out.M
   go_upto_region 66 with fail
   clear y92 zg
   have XP := Lib.hid (XD.out.setPc (S.pc + 1))
   push_cast at XP
   generalize wd.setCell ⟨g, 92, none⟩ (.int .i64 ((S.pc : Int) + 1)) = wp at XP ⊢
   obtain ⟨v0, v1, v2, v3, v4, v5, v6⟩ := acc_at XP.out.o6
   obtain ⟨x0, x1, x2, x3, x4, x5, x6⟩ := acc_at XP.out.o4
   simp only [ac0, uv_zero] at v0 v1 v2 v3 v4 v5 v6 x0 x1 x2 x3 x4 x5 x6
   have z4 : ∀ x, wp.frozen? ⟨q4, x, none⟩ = false := XP.out.o4.frozen
   go_wp2_with fail
   exact XP.out.fin rfl HA2.out HS2.out rfl rfl rfl rfl
 have HS2 := Lib.hid (show ({ S with steps := S.steps + 1, pc := S.pc + 1 + rd } : StV) = S' from by rw [← HS1.out, if_pos rfl, show S.pc + 1 + rd = ((S.pc : Int) + ((rd : Int) + 1)).toNat by omega])
 have i1 : wd.cell? ⟨q5, 1, none⟩ = some (.int .i64 (rd : Int)) := XD.out.o5.cell 1
 have y92 := XD.out.M.pc_
 have zg : ∀ x, wd.frozen? ⟨g, x, none⟩ = false := Ob.frozen XD.out.M
 go_upto_region 66 with fail
 clear y92 zg
 have XP := Lib.hid (XD.out.setPc (S.pc + 1 + rd))
 push_cast at XP
 generalize wd.setCell ⟨g, 92, none⟩ (.int .i64 ((S.pc : Int) + 1 + (rd : Int))) = wp at XP ⊢
 obtain ⟨v0, v1, v2, v3, v4, v5, v6⟩ := acc_at XP.out.o6
 obtain ⟨x0, x1, x2, x3, x4, x5, x6⟩ := acc_at XP.out.o4
 simp only [ac0, uv_zero] at v0 v1 v2 v3 v4 v5 v6 x0 x1 x2 x3 x4 x5 x6
 have z4 : ∀ x, wp.frozen? ⟨q4, x, none⟩ = false := XP.out.o4.frozen
 go_wp2_with fail
 exact XP.out.fin rfl HA2.out HS2.out rfl rfl rfl rfl

end Go.Proofs.YtjcffmcafjineaaDoor.Tp
end
