/-
  Layer 11: an instruction's source; what an instruction does that is neither a call nor an exit. Conditions: those of each theorem.
-/
import Derived.Test.YtikkmkomlajnfaaGreatDoorWm01
import Derived.Test.YtikkmkomlajnfaaGreatDoorWm07
import Derived.Deep.DeepCutAuto
set_option linter.unusedVariables false
set_option linter.unusedSimpArgs false
section
namespace Go.Proofs.YtikkmkomlajnfaaGreatDoor.En
set_option maxRecDepth 100000
set_option maxHeartbeats 16000000
open Go.RowKit
open Go.Proofs.YtikkmkomlajnfaaGreatDoor.Op (InstV insc insVal inss ins0 ins_at rightV right_is RightI Frm goesV writesV sourceV)

theorem keepS {w w' : World} (hb : Below w.heap.size w w') {p : Addr} {v : Value} (h : w.cell? p = some v) : w'.cell? p = some v := (hb.cell (cell_lt h)).trans h

theorem src_any (w : World) (g gs : Nat) (ea eb : BitVec 64) (mV cV : Value) (S : StV) (i : InstV) (hb : i.b = 8 ∨ (0 ≤ i.b ∧ i.b < 8)) (hM : MAt w g gs ea eb mV cV S) :
 Calls Tryz.prog 96 #[.pointer (some ⟨g, 0, none⟩), insVal i] w fun e w' => e = .returned (.int .u64 (uv (srcU i S.regs))) ∧ Below w.heap.size w w' := by
 obtain ⟨op, d, a, b, m⟩ := i
 dsimp only at hb
 unfold insVal
 dsimp only
 have HM := Lib.hid hM
 have B0 := Lib.hid (Below.refl w.heap.size w)
 clear hM
 go_enter Tryz.func96, Tryz.ntmps96
 go_upto_region 1 with fail
 have O1 := Lib.hid (Ob.fresh w 59 [.int .i64 op, .int .i64 d, .int .i64 a, .int .i64 b, .int .i64 m])
 have B1 := Lib.hid (below_alloc (B0.out) (.cells #[.int .i64 op, .int .i64 d, .int .i64 a, .int .i64 b, .int .i64 m] 59))
 have Hq1 := Lib.hid (show w.heap.size ≤ w.heap.size by have := B0.out.size; omega)
 clear B0
 generalize (w.alloc (.cells #[.int .i64 op, .int .i64 d, .int .i64 a, .int .i64 b, .int .i64 m] 59)) = w1 at O1 B1 ⊢
 obtain ⟨q1, hq1⟩ : ∃ q1, w.heap.size = q1 := ⟨_, rfl⟩
 have Hq1 := Lib.hid (Nat.le_of_eq hq1)
 rw [hq1] at O1 ⊢
 clear hq1
 have i0 := O1.out.c0
 have i1 := O1.out.c1
 have i2 := O1.out.c2
 have i3 := O1.out.c3
 have i4 := O1.out.c4
 by_cases h8 : b = 8
 · subst h8
   have gw := wrapu m
   have HE := Lib.hid (show srcU ⟨op, d, a, 8, m⟩ S.regs = ofI m from if_pos rfl)
   go_wp2_with fail
   go_ret
   exact ⟨by rw [HE.out] <;> first | done | rfl, B1.out⟩
 obtain ⟨r, rfl⟩ : ∃ r : Nat, b = r := ⟨b.toNat, by omega⟩
 have hr8 : r < 8 := by omega
 have h8i : ((r : Int) == 8) = false := by rw [beq_eq_false_iff_ne]; omega
 have g1 : (r : Int) < 8 := by omega
 have g0 : (0 : Int) ≤ (r : Int) := by omega
 have HE := Lib.hid (show srcU ⟨op, d, a, (r : Int), m⟩ S.regs = S.regs r from (if_neg h8).trans (by rw [Int.toNat_natCast]))
 have mr := (HM.out.below B1.out).reg hr8
 clear h8 hb hr8
 generalize S.regs r = x at mr HE
 go_upto_region 3 with fail
 go_quiet (fail)
 go_wp2_with fail
 go_ret
 exact ⟨by rw [HE.out] <;> first | done | rfl, below_drewN B1.out _⟩

/-- the state of a run of one instruction -/
structure RSt (w0 w : World) (g gs q : Nat) (ea eb : BitVec 64) (mV cV : Value) (S : StV) (i : InstV) : Prop where
 M : MAt w g gs ea eb mV cV S
 o : Ob w q 59 (insc i)
 t : Tch (Tg g gs) w0 w
section
variable {w0 w w' : World} {g gs q : Nat} {ea eb : BitVec 64} {mV cV : Value} {S : StV} {i : InstV}
theorem RSt.below (h : RSt w0 w g gs q ea eb mV cV S i) (hb : Below w.heap.size w w') : RSt w0 w' g gs q ea eb mV cV S i := ⟨h.M.below hb, h.o.below hb h.o.lt, h.t.trans (Tch.of_below hb)⟩
theorem RSt.drew (h : RSt w0 w g gs q ea eb mV cV S i) : RSt w0 w.drew g gs q ea eb mV cV S i := h.below (below_drewN (Below.refl _ _) 1)
theorem RSt.drewN (h : RSt w0 w g gs q ea eb mV cV S i) (n : Nat) : RSt w0 (w.drewN n) g gs q ea eb mV cV S i := h.below (below_drewN (Below.refl _ _) n)
theorem RSt.qg (h : RSt w0 w g gs q ea eb mV cV S i) : q ≠ g := h.o.ne_ h.M.o (by decide)
theorem RSt.qs (h : RSt w0 w g gs q ea eb mV cV S i) : q ≠ gs := h.o.ne_ h.M.s (by decide)
theorem RSt.setReg (h : RSt w0 w g gs q ea eb mV cV S i) {r : Nat} (hr : r < 8) (v : BitVec 64) : RSt w0 (w.setCell ⟨g, 5 + r, none⟩ (.int .u64 (uv v))) g gs q ea eb mV cV { S with regs := upd S.regs r v } i :=
 ⟨h.M.setReg hr v, h.o.far (p := ⟨g, 5 + r, none⟩) h.qg _, h.t.setCell (p := ⟨g, 5 + r, none⟩) (Or.inl rfl) _⟩
theorem RSt.setTurn (h : RSt w0 w g gs q ea eb mV cV S i) {p : Nat} (hp : p < 64) (v : Int) : RSt w0 (w.setCell ⟨g, 13 + p, none⟩ (.int .i64 v)) g gs q ea eb mV cV { S with turns := updI S.turns p v } i :=
 ⟨h.M.setTurn hp v, h.o.far (p := ⟨g, 13 + p, none⟩) h.qg _, h.t.setCell (p := ⟨g, 13 + p, none⟩) (Or.inl rfl) _⟩
theorem RSt.setWords (h : RSt w0 w g gs q ea eb mV cV S i) {ws : Nat → BitVec 64} (ho : Ob w' gs 146 (arr 16 ws ++ (arr 16 S.counts ++ []))) (k : Only w w' gs) : RSt w0 w' g gs q ea eb mV cV { S with words := ws } i :=
 ⟨⟨h.M.o.only k h.M.ne_, ho⟩, h.o.only k h.qs, h.t.trans ((Tch.of_only k).mono fun _ e => Or.inr e)⟩
end

theorem run_any (w : World) (g gs : Nat) (ea eb : BitVec 64) (mV cV : Value) (S : StV) (i : InstV) (hr : rightV i = true) (h21 : i.op ≠ 21) (h22 : i.op ≠ 22) (hpc : S.pc < 64) (hok : okI i S) (hts : ∀ p, p < 64 → 0 ≤ S.turns p) (hM : MAt w g gs ea eb mV cV S) :
 Calls Tryz.prog 61 #[.pointer (some ⟨g, 0, none⟩), insVal i] w fun e w' => e = .returned (.int .i64 (runD i S)) ∧ MAt w' g gs ea eb mV cV (runS ea eb i S) ∧ Tch (Tg g gs) w w' := by
 obtain ⟨D, hD⟩ : ∃ D, runD i S = D := ⟨_, rfl⟩
 obtain ⟨S', hS'⟩ : ∃ S', runS ea eb i S = S' := ⟨_, rfl⟩
 rw [hD, hS']
 have HD := Lib.hid hD
 have HS := Lib.hid hS'
 have HI := Lib.hid (right_is hr)
 have HOK := Lib.hid hok
 have HTS := Lib.hid hts
 have HPC := Lib.hid hpc
 have HSR := Lib.hid (fun w hM => src_any w g gs ea eb mV cV S i (right_is hr).b hM)
 have HM := Lib.hid hM
 have H21 := Lib.hid h21
 have H22 := Lib.hid h22
 have B0 := Lib.hid (Below.refl w.heap.size w)
 obtain ⟨x, hx⟩ : ∃ x, srcU i S.regs = x := ⟨_, rfl⟩
 have HX := Lib.hid hx
 rw [hx] at HSR
 clear hD hS' hok hts hpc hM h21 h22 hr hx
 obtain ⟨op, d, a, b, m⟩ := i
 unfold insVal at HSR ⊢
 dsimp only at HSR ⊢
 go_enter Tryz.func61, Tryz.ntmps61
 go_upto_region 1 with fail
 have O1 := Lib.hid (Ob.fresh w 59 [.int .i64 op, .int .i64 d, .int .i64 a, .int .i64 b, .int .i64 m])
 have B1 := Lib.hid (below_alloc (B0.out) (.cells #[.int .i64 op, .int .i64 d, .int .i64 a, .int .i64 b, .int .i64 m] 59))
 have Hq1 := Lib.hid (show w.heap.size ≤ w.heap.size by have := B0.out.size; omega)
 clear B0
 generalize (w.alloc (.cells #[.int .i64 op, .int .i64 d, .int .i64 a, .int .i64 b, .int .i64 m] 59)) = w1 at O1 B1 ⊢
 obtain ⟨q1, hq1⟩ : ∃ q1, w.heap.size = q1 := ⟨_, rfl⟩
 have Hq1 := Lib.hid (Nat.le_of_eq hq1)
 rw [hq1] at O1 ⊢
 clear hq1
 have R1 := Lib.hid (show RSt w w1 g gs q1 ea eb mV cV S ⟨op, d, a, b, m⟩ from ⟨HM.out.below B1.out, O1.out, Tch.of_below B1.out⟩)
 clear O1 B1 Hq1 HM
 obtain ⟨ra, rfl⟩ : ∃ ra : Nat, a = ra := ⟨a.toNat, by have := HI.out.a0; dsimp only at this; omega⟩
 have hra8 : ra < 8 := by have := HI.out.a1; dsimp only at this; omega
 have HRA := Lib.hid hra8
 clear hra8
 obtain ⟨rd, rfl⟩ : ∃ rd : Nat, d = rd := ⟨d.toNat, by have := HI.out.d0; dsimp only at this; omega⟩
 have hop : op = 0 ∨ op = 11 ∨ op = 12 ∨ op = 13 ∨ op = 14 ∨ op = 15 ∨ op = 20 ∨ (1 ≤ op ∧ op ≤ 10) ∨ (16 ≤ op ∧ op ≤ 19) := by have h1 := HI.out.o0; have h2 := HI.out.o1; have h3 := H21.out; have h4 := H22.out; dsimp only at h1 h2 h3 h4; omega
 clear H21 H22
 rcases hop with rfl | rfl | rfl | rfl | rfl | rfl | rfl | hop | hop
 · have hrd : rd < 8 := by have := HI.out.d8 (by first | decide | (dsimp only; omega)); dsimp only at this; omega
   have HRD := Lib.hid hrd
   have g1 : (rd : Int) < 8 := by omega
   have g0 : (0 : Int) ≤ (rd : Int) := by omega
   clear hrd
   have HD2 := Lib.hid (show (1 : Int) = D from by rw [← HD.out]; rfl)
   have HS2 := Lib.hid (show ({ S with regs := upd S.regs rd x } : StV) = S' from by rw [← HS.out, ← HX.out]; rfl)
   clear HD HS
   have i0 : w1.cell? ⟨q1, 0, none⟩ = some (.int .i64 0) := R1.out.o.cell 0
   have i1 : w1.cell? ⟨q1, 1, none⟩ = some (.int .i64 (rd : Int)) := R1.out.o.cell 1
   have i2 : w1.cell? ⟨q1, 2, none⟩ = some (.int .i64 (ra : Int)) := R1.out.o.cell 2
   have i3 : w1.cell? ⟨q1, 3, none⟩ = some (.int .i64 b) := R1.out.o.cell 3
   have i4 : w1.cell? ⟨q1, 4, none⟩ = some (.int .i64 m) := R1.out.o.cell 4
   go_upto_region 9 with fail
   clear i0 i1 i2 i3 i4
   obtain ⟨wd, hwd⟩ : ∃ wd, w1.drew = wd := ⟨_, rfl⟩
   have RD := Lib.hid (hwd ▸ R1.out.drew)
   clear R1
   refine wp_region_held_drew (S := fun w' => (w'.cell? ⟨q1, 0, none⟩ = some (.int .i64 0) ∧ w'.cell? ⟨q1, 1, none⟩ = some (.int .i64 (rd : Int)) ∧ w'.cell? ⟨q1, 2, none⟩ = some (.int .i64 (ra : Int)) ∧ w'.cell? ⟨q1, 3, none⟩ = some (.int .i64 b) ∧ w'.cell? ⟨q1, 4, none⟩ = some (.int .i64 m))) (by kernel_rfl) (by rw [hwd]; exact ⟨RD.out.o.cell 0, RD.out.o.cell 1, RD.out.o.cell 2, RD.out.o.cell 3, RD.out.o.cell 4⟩) (fun hHeld => ?_)
   refine tkq 0 57 rfl (by kernel_rfl) (by rfl) hHeld (fun _ _ _ h => h) (by intro w' hSw; go_simp; try with_reducible rfl) ?_
   simp only [Act.put, spa, spb, spc]
   refine tkq 1 58 rfl (by kernel_rfl) (by rfl) hHeld (fun _ _ _ h => h) (by intro w' hSw; go_simp; try with_reducible rfl) ?_
   simp only [Act.put, spa, spb, spc]
   refine tkq 2 59 rfl (by kernel_rfl) (by rfl) hHeld (fun _ _ _ h => h) (by intro w' hSw; go_simp; try with_reducible rfl) ?_
   simp only [Act.put, spa, spb, spc]
   refine tkq 3 60 rfl (by kernel_rfl) (by rfl) hHeld (fun _ _ _ h => h) (by intro w' hSw; go_simp; try with_reducible rfl) ?_
   simp only [Act.put, spa, spb, spc]
   refine tkq 4 61 rfl (by kernel_rfl) (by rfl) hHeld (fun _ _ _ h => h) (by intro w' hSw; go_simp; try with_reducible rfl) ?_
   simp only [Act.put, spa, spb, spc]
   refine tkq 6 63 rfl (by kernel_rfl) (by rfl) hHeld (fun _ _ _ h => h) (by intro w' hSw; go_simp; try with_reducible rfl) ?_
   simp only [Act.put, spa, spb, spc]
   refine tkq 7 64 rfl (by kernel_rfl) (by rfl) hHeld (fun _ _ _ h => h) (by intro w' hSw; go_simp; try with_reducible rfl) ?_
   simp only [Act.put, spa, spb, spc]
   refine rdq 5 ⟨some 62, _, _, _, _, _⟩ (by kernel_rfl) rfl (fun K' hK => ?_)
   go_simp
   refine (HSR.out _ RD.out.M).mono ?_
   rintro e wx ⟨rfl, bx⟩
   have RX := Lib.hid (RD.out.below bx)
   clear bx
   refine hK.out _ _ ⟨RX.out.o.cell 0, RX.out.o.cell 1, RX.out.o.cell 2, RX.out.o.cell 3, RX.out.o.cell 4⟩ (fun hHeld => ?_)
   clear hK K'
   refine tkq 8 65 rfl (by kernel_rfl) (by rfl) hHeld (fun _ _ _ h => h) (by intro w' hSw; go_simp; try with_reducible rfl) ?_
   simp only [Act.put, spa, spb, spc]
   refine rdq 9 ⟨none, _, _, _, _, _⟩ (by kernel_rfl) rfl (fun K' hK => ?_)
   have r0 := RX.out.M.reg HRD.out
   have fz := RX.out.M.o.frozen
   go_simp
   have RY := Lib.hid (RX.out.setReg HRD.out x)
   refine hK.out _ _ ⟨RY.out.o.cell 0, RY.out.o.cell 1, RY.out.o.cell 2, RY.out.o.cell 3, RY.out.o.cell 4⟩ (fun hHeld => ?_)
   clear hK K'
   clear hHeld r0 fz
   refine wpAnyH_done (by kernel_rfl) ?_ _
   go_wp2_with fail
   go_ret
   exact ⟨by rw [← HD2.out] <;> first | done | rfl, by rw [← HS2.out]; exact RY.out.M, RY.out.t⟩
 · have hrd : rd < 8 := by have := HI.out.d8 (by first | decide | (dsimp only; omega)); dsimp only at this; omega
   have HRD := Lib.hid hrd
   have g1 : (rd : Int) < 8 := by omega
   have g0 : (0 : Int) ≤ (rd : Int) := by omega
   clear hrd
   have hx16 : x.toNat < 16 := by have := HOK.out (by first | decide | (dsimp only; omega)); rw [HX.out] at this; exact this
   obtain ⟨j, hj⟩ : ∃ j, x.toNat = j := ⟨_, rfl⟩
   have HXJ := Lib.hid hj
   rw [hj] at hx16
   have gx1 : IntKind.i64.wrap (uv x) = (j : Int) := by rw [IntKind.wrap_i64]; unfold uv; omega
   have gx2 : wrap64 (uv x) = (j : Int) := by unfold wrap64 uv; omega
   have HJ16 := Lib.hid hx16
   clear hj hx16
   have HD2 := Lib.hid (show (1 : Int) = D from by rw [← HD.out]; rfl)
   have HS2 := Lib.hid (show ({ S with regs := upd S.regs rd (S.words j) } : StV) = S' from by rw [← HS.out, ← HXJ.out, ← HX.out]; rfl)
   clear HD HS
   have i0 : w1.cell? ⟨q1, 0, none⟩ = some (.int .i64 11) := R1.out.o.cell 0
   have i1 : w1.cell? ⟨q1, 1, none⟩ = some (.int .i64 (rd : Int)) := R1.out.o.cell 1
   have i2 : w1.cell? ⟨q1, 2, none⟩ = some (.int .i64 (ra : Int)) := R1.out.o.cell 2
   have i3 : w1.cell? ⟨q1, 3, none⟩ = some (.int .i64 b) := R1.out.o.cell 3
   have i4 : w1.cell? ⟨q1, 4, none⟩ = some (.int .i64 m) := R1.out.o.cell 4
   go_upto_region 11 with fail
   clear i0 i1 i2 i3 i4
   obtain ⟨wd, hwd⟩ : ∃ wd, w1.drew = wd := ⟨_, rfl⟩
   have RD := Lib.hid (hwd ▸ R1.out.drew)
   clear R1
   refine wp_region_held_drew (S := fun w' => (w'.cell? ⟨q1, 0, none⟩ = some (.int .i64 11) ∧ w'.cell? ⟨q1, 1, none⟩ = some (.int .i64 (rd : Int)) ∧ w'.cell? ⟨q1, 2, none⟩ = some (.int .i64 (ra : Int)) ∧ w'.cell? ⟨q1, 3, none⟩ = some (.int .i64 b) ∧ w'.cell? ⟨q1, 4, none⟩ = some (.int .i64 m) ∧ w'.cell? ⟨g, 4, none⟩ = some (.pointer (some ⟨gs, 0, none⟩)))) (by kernel_rfl) (by rw [hwd]; exact ⟨RD.out.o.cell 0, RD.out.o.cell 1, RD.out.o.cell 2, RD.out.o.cell 3, RD.out.o.cell 4, RD.out.M.sp⟩) (fun hHeld => ?_)
   refine tkq 0 69 rfl (by kernel_rfl) (by rfl) hHeld (fun _ _ _ h => h) (by intro w' hSw; go_simp; try with_reducible rfl) ?_
   simp only [Act.put, spa, spb, spc]
   refine tkq 1 70 rfl (by kernel_rfl) (by rfl) hHeld (fun _ _ _ h => h) (by intro w' hSw; go_simp; try with_reducible rfl) ?_
   simp only [Act.put, spa, spb, spc]
   refine tkq 2 71 rfl (by kernel_rfl) (by rfl) hHeld (fun _ _ _ h => h) (by intro w' hSw; go_simp; try with_reducible rfl) ?_
   simp only [Act.put, spa, spb, spc]
   refine tkq 3 72 rfl (by kernel_rfl) (by rfl) hHeld (fun _ _ _ h => h) (by intro w' hSw; go_simp; try with_reducible rfl) ?_
   simp only [Act.put, spa, spb, spc]
   refine tkq 4 73 rfl (by kernel_rfl) (by rfl) hHeld (fun _ _ _ h => h) (by intro w' hSw; go_simp; try with_reducible rfl) ?_
   simp only [Act.put, spa, spb, spc]
   refine tkq 5 74 rfl (by kernel_rfl) (by rfl) hHeld (fun _ _ _ h => h) (by intro w' hSw; go_simp; try with_reducible rfl) ?_
   simp only [Act.put, spa, spb, spc]
   refine tkq 6 75 rfl (by kernel_rfl) (by rfl) hHeld (fun _ _ _ h => h) (by intro w' hSw; go_simp; try with_reducible rfl) ?_
   simp only [Act.put, spa, spb, spc]
   refine tkq 7 76 rfl (by kernel_rfl) (by rfl) hHeld (fun _ _ _ h => h) (by intro w' hSw; go_simp; try with_reducible rfl) ?_
   simp only [Act.put, spa, spb, spc]
   refine tkq 8 77 rfl (by kernel_rfl) (by rfl) hHeld (fun _ _ _ h => h) (by intro w' hSw; go_simp; try with_reducible rfl) ?_
   simp only [Act.put, spa, spb, spc]
   refine tkq 9 78 rfl (by kernel_rfl) (by rfl) hHeld (fun _ _ _ h => h) (by intro w' hSw; go_simp; try with_reducible rfl) ?_
   simp only [Act.put, spa, spb, spc]
   refine tkq 10 79 rfl (by kernel_rfl) (by rfl) hHeld (fun _ _ _ h => h) (by intro w' hSw; go_simp; try with_reducible rfl) ?_
   simp only [Act.put, spa, spb, spc]
   refine tkq 17 85 rfl (by kernel_rfl) (by rfl) hHeld (fun _ _ _ h => h) (by intro w' hSw; go_simp; try with_reducible rfl) ?_
   simp only [Act.put, spa, spb, spc]
   refine tkq 18 86 rfl (by kernel_rfl) (by rfl) hHeld (fun _ _ _ h => h) (by intro w' hSw; go_simp; try with_reducible rfl) ?_
   simp only [Act.put, spa, spb, spc]
   refine rdq 11 ⟨some 80, _, _, _, _, _⟩ (by kernel_rfl) rfl (fun K' hK => ?_)
   go_simp
   refine (HSR.out _ RD.out.M).mono ?_
   rintro e wx ⟨rfl, bx⟩
   have RX := Lib.hid (RD.out.below bx)
   clear bx
   refine hK.out _ _ ⟨RX.out.o.cell 0, RX.out.o.cell 1, RX.out.o.cell 2, RX.out.o.cell 3, RX.out.o.cell 4, RX.out.M.sp⟩ (fun hHeld => ?_)
   clear hK K'
   refine tkq 12 81 rfl (by kernel_rfl) (by rfl) hHeld (fun _ _ _ h => h) (by intro w' hSw; go_simp; try with_reducible rfl) ?_
   simp only [Act.put, spa, spb, spc]
   refine rdq 13 ⟨some 82, _, _, _, _, _⟩ (by kernel_rfl) rfl (fun K' hK => ?_)
   go_simp
   refine (Sc.load_in gs 0 j 146 [] (arr 16 S.counts ++ []) S.words HJ16.out rfl wx RX.out.M.s).mono ?_
   rintro e wy ⟨rfl, rfl⟩
   refine hK.out _ _ ⟨RX.out.o.cell 0, RX.out.o.cell 1, RX.out.o.cell 2, RX.out.o.cell 3, RX.out.o.cell 4, RX.out.M.sp⟩ (fun hHeld => ?_)
   clear hK K'
   refine tkq 14 68 rfl (by kernel_rfl) (by rfl) hHeld (fun _ _ _ h => h) (by intro w' hSw; go_simp; try with_reducible rfl) ?_
   simp only [Act.put, spa, spb, spc]
   refine tkq 15 83 rfl (by kernel_rfl) (by rfl) hHeld (fun _ _ _ h => h) (by intro w' hSw; go_simp; try with_reducible rfl) ?_
   simp only [Act.put, spa, spb, spc]
   refine tkq 16 84 rfl (by kernel_rfl) (by rfl) hHeld (fun _ _ _ h => h) (by intro w' hSw; go_simp; try with_reducible rfl) ?_
   simp only [Act.put, spa, spb, spc]
   refine tkq 19 87 rfl (by kernel_rfl) (by rfl) hHeld (fun _ _ _ h => h) (by intro w' hSw; go_simp; try with_reducible rfl) ?_
   simp only [Act.put, spa, spb, spc]
   refine rdq 20 ⟨none, _, _, _, _, _⟩ (by kernel_rfl) rfl (fun K' hK => ?_)
   have r0 := RX.out.M.reg HRD.out
   have fz := RX.out.M.o.frozen
   go_simp
   have RY := Lib.hid (RX.out.setReg HRD.out (S.words j))
   refine hK.out _ _ ⟨RY.out.o.cell 0, RY.out.o.cell 1, RY.out.o.cell 2, RY.out.o.cell 3, RY.out.o.cell 4, RY.out.M.sp⟩ (fun hHeld => ?_)
   clear hK K'
   clear hHeld r0 fz
   refine wpAnyH_done (by kernel_rfl) ?_ _
   go_wp2_with fail
   go_ret
   exact ⟨by rw [← HD2.out] <;> first | done | rfl | exact congrArg (fun z => Ending.returned (Value.int .i64 z)) gd, by rw [← HS2.out]; exact RY.out.M, RY.out.t⟩
 · have hx16 : x.toNat < 16 := by have := HOK.out (by first | decide | (dsimp only; omega)); rw [HX.out] at this; exact this
   obtain ⟨j, hj⟩ : ∃ j, x.toNat = j := ⟨_, rfl⟩
   have HXJ := Lib.hid hj
   rw [hj] at hx16
   have gx1 : IntKind.i64.wrap (uv x) = (j : Int) := by rw [IntKind.wrap_i64]; unfold uv; omega
   have gx2 : wrap64 (uv x) = (j : Int) := by unfold wrap64 uv; omega
   have HJ16 := Lib.hid hx16
   clear hj hx16
   have g3 : (ra : Int) < 8 := by have := HRA.out; omega
   have g4 : (0 : Int) ≤ (ra : Int) := by omega
   have HD2 := Lib.hid (show (1 : Int) = D from by rw [← HD.out]; rfl)
   have HS2 := Lib.hid (show ({ S with words := upd S.words j (S.regs ra) } : StV) = S' from by rw [← HS.out, ← HXJ.out, ← HX.out]; rfl)
   clear HD HS
   have i0 : w1.cell? ⟨q1, 0, none⟩ = some (.int .i64 12) := R1.out.o.cell 0
   have i1 : w1.cell? ⟨q1, 1, none⟩ = some (.int .i64 (rd : Int)) := R1.out.o.cell 1
   have i2 : w1.cell? ⟨q1, 2, none⟩ = some (.int .i64 (ra : Int)) := R1.out.o.cell 2
   have i3 : w1.cell? ⟨q1, 3, none⟩ = some (.int .i64 b) := R1.out.o.cell 3
   have i4 : w1.cell? ⟨q1, 4, none⟩ = some (.int .i64 m) := R1.out.o.cell 4
   go_upto_region 13 with fail
   clear i0 i1 i2 i3 i4
   obtain ⟨wd, hwd⟩ : ∃ wd, w1.drew = wd := ⟨_, rfl⟩
   have RD := Lib.hid (hwd ▸ R1.out.drew)
   clear R1
   refine wp_region_held_drew (S := fun w' => (w'.cell? ⟨q1, 0, none⟩ = some (.int .i64 12) ∧ w'.cell? ⟨q1, 1, none⟩ = some (.int .i64 (rd : Int)) ∧ w'.cell? ⟨q1, 2, none⟩ = some (.int .i64 (ra : Int)) ∧ w'.cell? ⟨q1, 3, none⟩ = some (.int .i64 b) ∧ w'.cell? ⟨q1, 4, none⟩ = some (.int .i64 m) ∧ w'.cell? ⟨g, 4, none⟩ = some (.pointer (some ⟨gs, 0, none⟩)) ∧ w'.cell? ⟨g, 5 + ra, none⟩ = some (.int .u64 (uv (S.regs ra))))) (by kernel_rfl) (by rw [hwd]; exact ⟨RD.out.o.cell 0, RD.out.o.cell 1, RD.out.o.cell 2, RD.out.o.cell 3, RD.out.o.cell 4, RD.out.M.sp, RD.out.M.reg HRA.out⟩) (fun hHeld => ?_)
   refine tkq 0 90 rfl (by kernel_rfl) (by rfl) hHeld (fun _ _ _ h => h) (by intro w' hSw; go_simp; try with_reducible rfl) ?_
   simp only [Act.put, spa, spb, spc]
   refine tkq 1 91 rfl (by kernel_rfl) (by rfl) hHeld (fun _ _ _ h => h) (by intro w' hSw; go_simp; try with_reducible rfl) ?_
   simp only [Act.put, spa, spb, spc]
   refine tkq 2 92 rfl (by kernel_rfl) (by rfl) hHeld (fun _ _ _ h => h) (by intro w' hSw; go_simp; try with_reducible rfl) ?_
   simp only [Act.put, spa, spb, spc]
   refine tkq 3 93 rfl (by kernel_rfl) (by rfl) hHeld (fun _ _ _ h => h) (by intro w' hSw; go_simp; try with_reducible rfl) ?_
   simp only [Act.put, spa, spb, spc]
   refine tkq 4 94 rfl (by kernel_rfl) (by rfl) hHeld (fun _ _ _ h => h) (by intro w' hSw; go_simp; try with_reducible rfl) ?_
   simp only [Act.put, spa, spb, spc]
   refine tkq 5 95 rfl (by kernel_rfl) (by rfl) hHeld (fun _ _ _ h => h) (by intro w' hSw; go_simp; try with_reducible rfl) ?_
   simp only [Act.put, spa, spb, spc]
   refine tkq 6 96 rfl (by kernel_rfl) (by rfl) hHeld (fun _ _ _ h => h) (by intro w' hSw; go_simp; try with_reducible rfl) ?_
   simp only [Act.put, spa, spb, spc]
   refine tkq 7 97 rfl (by kernel_rfl) (by rfl) hHeld (fun _ _ _ h => h) (by intro w' hSw; go_simp; try with_reducible rfl) ?_
   simp only [Act.put, spa, spb, spc]
   refine tkq 10 100 rfl (by kernel_rfl) (by rfl) hHeld (fun _ _ _ h => h) (by intro w' hSw; go_simp; try with_reducible rfl) ?_
   simp only [Act.put, spa, spb, spc]
   refine tkq 11 101 rfl (by kernel_rfl) (by rfl) hHeld (fun _ _ _ h => h) (by intro w' hSw; go_simp; try with_reducible rfl) ?_
   simp only [Act.put, spa, spb, spc]
   refine tkq 12 102 rfl (by kernel_rfl) (by rfl) hHeld (fun _ _ _ h => h) (by intro w' hSw; go_simp; try with_reducible rfl) ?_
   simp only [Act.put, spa, spb, spc]
   refine tkq 13 103 rfl (by kernel_rfl) (by rfl) hHeld (fun _ _ _ h => h) (by intro w' hSw; go_simp; try with_reducible rfl) ?_
   simp only [Act.put, spa, spb, spc]
   refine tkq 14 104 rfl (by kernel_rfl) (by rfl) hHeld (fun _ _ _ h => h) (by intro w' hSw; go_simp; try with_reducible rfl) ?_
   simp only [Act.put, spa, spb, spc]
   refine tkq 15 105 rfl (by kernel_rfl) (by rfl) hHeld (fun _ _ _ h => h) (by intro w' hSw; go_simp; try with_reducible rfl) ?_
   simp only [Act.put, spa, spb, spc]
   refine tkq 16 106 rfl (by kernel_rfl) (by rfl) hHeld (fun _ _ _ h => h) (by intro w' hSw; go_simp; try with_reducible rfl) ?_
   simp only [Act.put, spa, spb, spc]
   refine rdq 8 ⟨some 98, _, _, _, _, _⟩ (by kernel_rfl) rfl (fun K' hK => ?_)
   go_simp
   refine (HSR.out _ RD.out.M).mono ?_
   rintro e wx ⟨rfl, bx⟩
   have RX := Lib.hid (RD.out.below bx)
   clear bx
   refine hK.out _ _ ⟨RX.out.o.cell 0, RX.out.o.cell 1, RX.out.o.cell 2, RX.out.o.cell 3, RX.out.o.cell 4, RX.out.M.sp, RX.out.M.reg HRA.out⟩ (fun hHeld => ?_)
   clear hK K'
   refine tkq 9 99 rfl (by kernel_rfl) (by rfl) hHeld (fun _ _ _ h => h) (by intro w' hSw; go_simp; try with_reducible rfl) ?_
   simp only [Act.put, spa, spb, spc]
   refine rdq 17 ⟨some 107, _, _, _, _, _⟩ (by kernel_rfl) rfl (fun K' hK => ?_)
   go_simp
   refine (Sc.store_in gs 0 j 146 [] (arr 16 S.counts ++ []) S.words (S.regs ra) HJ16.out rfl wx RX.out.M.s).mono ?_
   rintro e wy ⟨rfl, ho, hk⟩
   have RY := Lib.hid (RX.out.setWords (ws := upd S.words j (S.regs ra)) ho hk)
   clear ho hk
   refine hK.out _ _ ⟨RY.out.o.cell 0, RY.out.o.cell 1, RY.out.o.cell 2, RY.out.o.cell 3, RY.out.o.cell 4, RY.out.M.sp, RY.out.M.reg HRA.out⟩ (fun hHeld => ?_)
   clear hK K'
   refine wpAnyH_done (by kernel_rfl) ?_ _
   go_wp2_with fail
   go_ret
   exact ⟨by rw [← HD2.out] <;> first | done | rfl | exact congrArg (fun z => Ending.returned (Value.int .i64 z)) gd, by rw [← HS2.out]; exact RY.out.M, RY.out.t⟩
 · have hrd : rd < 8 := by have := HI.out.d8 (by first | decide | (dsimp only; omega)); dsimp only at this; omega
   have HRD := Lib.hid hrd
   have g1 : (rd : Int) < 8 := by omega
   have g0 : (0 : Int) ≤ (rd : Int) := by omega
   clear hrd
   have HD2 := Lib.hid (show (1 : Int) = D from by rw [← HD.out]; rfl)
   have HS1 := Lib.hid (show ({ S with regs := upd S.regs rd (if m = 1 then eb else ea) } : StV) = S' from by rw [← HS.out]; rfl)
   clear HD HS
   have i0 : w1.cell? ⟨q1, 0, none⟩ = some (.int .i64 13) := R1.out.o.cell 0
   have i1 : w1.cell? ⟨q1, 1, none⟩ = some (.int .i64 (rd : Int)) := R1.out.o.cell 1
   have i2 : w1.cell? ⟨q1, 2, none⟩ = some (.int .i64 (ra : Int)) := R1.out.o.cell 2
   have i3 : w1.cell? ⟨q1, 3, none⟩ = some (.int .i64 b) := R1.out.o.cell 3
   have i4 : w1.cell? ⟨q1, 4, none⟩ = some (.int .i64 m) := R1.out.o.cell 4
   go_upto_region 15 with fail
   clear i0 i1 i2 i3 i4
   obtain ⟨wd, hwd⟩ : ∃ wd, w1.drew = wd := ⟨_, rfl⟩
   have RD := Lib.hid (hwd ▸ R1.out.drew)
   clear R1
   refine wp_region_held_drew (S := fun w' => (w'.cell? ⟨q1, 0, none⟩ = some (.int .i64 13) ∧ w'.cell? ⟨q1, 1, none⟩ = some (.int .i64 (rd : Int)) ∧ w'.cell? ⟨q1, 2, none⟩ = some (.int .i64 (ra : Int)) ∧ w'.cell? ⟨q1, 3, none⟩ = some (.int .i64 b) ∧ w'.cell? ⟨q1, 4, none⟩ = some (.int .i64 m) ∧ w'.cell? ⟨g, 0, none⟩ = some (.int .u64 (uv ea)))) (by kernel_rfl) (by rw [hwd]; exact ⟨RD.out.o.cell 0, RD.out.o.cell 1, RD.out.o.cell 2, RD.out.o.cell 3, RD.out.o.cell 4, RD.out.M.ea_⟩) (fun hHeld => ?_)
   refine tkq 0 110 rfl (by kernel_rfl) (by rfl) hHeld (fun _ _ _ h => h) (by intro w' hSw; go_simp; try with_reducible rfl) ?_
   simp only [Act.put, spa, spb, spc]
   refine tkq 1 111 rfl (by kernel_rfl) (by rfl) hHeld (fun _ _ _ h => h) (by intro w' hSw; go_simp; try with_reducible rfl) ?_
   simp only [Act.put, spa, spb, spc]
   refine tkq 2 112 rfl (by kernel_rfl) (by rfl) hHeld (fun _ _ _ h => h) (by intro w' hSw; go_simp; try with_reducible rfl) ?_
   simp only [Act.put, spa, spb, spc]
   refine tkq 3 113 rfl (by kernel_rfl) (by rfl) hHeld (fun _ _ _ h => h) (by intro w' hSw; go_simp; try with_reducible rfl) ?_
   simp only [Act.put, spa, spb, spc]
   refine tkq 4 114 rfl (by kernel_rfl) (by rfl) hHeld (fun _ _ _ h => h) (by intro w' hSw; go_simp; try with_reducible rfl) ?_
   simp only [Act.put, spa, spb, spc]
   refine tkq 5 115 rfl (by kernel_rfl) (by rfl) hHeld (fun _ _ _ h => h) (by intro w' hSw; go_simp; try with_reducible rfl) ?_
   simp only [Act.put, spa, spb, spc]
   refine tkq 6 116 rfl (by kernel_rfl) (by rfl) hHeld (fun _ _ _ h => h) (by intro w' hSw; go_simp; try with_reducible rfl) ?_
   simp only [Act.put, spa, spb, spc]
   refine tkq 7 117 rfl (by kernel_rfl) (by rfl) hHeld (fun _ _ _ h => h) (by intro w' hSw; go_simp; try with_reducible rfl) ?_
   simp only [Act.put, spa, spb, spc]
   refine tkq 8 118 rfl (by kernel_rfl) (by rfl) hHeld (fun _ _ _ h => h) (by intro w' hSw; go_simp; try with_reducible rfl) ?_
   simp only [Act.put, spa, spb, spc]
   refine tkq 9 119 rfl (by kernel_rfl) (by rfl) hHeld (fun _ _ _ h => h) (by intro w' hSw; go_simp; try with_reducible rfl) ?_
   simp only [Act.put, spa, spb, spc]
   refine tkq 10 120 rfl (by kernel_rfl) (by rfl) hHeld (fun _ _ _ h => h) (by intro w' hSw; go_simp; try with_reducible rfl) ?_
   simp only [Act.put, spa, spb, spc]
   refine rdq 11 ⟨none, _, _, _, _, _⟩ (by kernel_rfl) rfl (fun K' hK => ?_)
   have r0 := RD.out.M.reg HRD.out
   have fz := RD.out.M.o.frozen
   go_simp
   have RY := Lib.hid (RD.out.setReg HRD.out ea)
   refine hK.out _ _ ⟨RY.out.o.cell 0, RY.out.o.cell 1, RY.out.o.cell 2, RY.out.o.cell 3, RY.out.o.cell 4, RY.out.M.ea_⟩ (fun hHeld => ?_)
   clear hK K'
   clear hHeld r0 fz
   refine wpAnyH_done (by kernel_rfl) ?_ _
   clear hwd RD
   generalize wd.setCell ⟨g, 5 + rd, none⟩ (.int .u64 (uv ea)) = w5 at RY ⊢
   have i1 : w5.cell? ⟨q1, 1, none⟩ = some (.int .i64 (rd : Int)) := RY.out.o.cell 1
   have i4 : w5.cell? ⟨q1, 4, none⟩ = some (.int .i64 m) := RY.out.o.cell 4
   by_cases hm : m = 1
   · subst hm
     have HS2 := Lib.hid (show ({ S with regs := upd (upd S.regs rd ea) rd eb } : StV) = S' from by rw [← HS1.out, if_pos rfl]; congr 1; funext k; unfold upd; by_cases e : k = rd <;> simp [e])
     clear HS1
     go_upto_region 17 with fail
     clear i1 i4
     obtain ⟨wd, hwd⟩ : ∃ wd, w5.drew = wd := ⟨_, rfl⟩
     have RD := Lib.hid (hwd ▸ RY.out.drew)
     clear RY
     refine wp_region_held_drew (S := fun w' => (w'.cell? ⟨q1, 1, none⟩ = some (.int .i64 (rd : Int)) ∧ w'.cell? ⟨g, 1, none⟩ = some (.int .u64 (uv eb)))) (by kernel_rfl) (by rw [hwd]; exact ⟨RD.out.o.cell 1, RD.out.M.eb_⟩) (fun hHeld => ?_)
     refine tkq 0 124 rfl (by kernel_rfl) (by rfl) hHeld (fun _ _ _ h => h) (by intro w' hSw; go_simp; try with_reducible rfl) ?_
     simp only [Act.put, spa, spb, spc]
     refine tkq 1 125 rfl (by kernel_rfl) (by rfl) hHeld (fun _ _ _ h => h) (by intro w' hSw; go_simp; try with_reducible rfl) ?_
     simp only [Act.put, spa, spb, spc]
     refine tkq 2 126 rfl (by kernel_rfl) (by rfl) hHeld (fun _ _ _ h => h) (by intro w' hSw; go_simp; try with_reducible rfl) ?_
     simp only [Act.put, spa, spb, spc]
     refine tkq 3 127 rfl (by kernel_rfl) (by rfl) hHeld (fun _ _ _ h => h) (by intro w' hSw; go_simp; try with_reducible rfl) ?_
     simp only [Act.put, spa, spb, spc]
     refine tkq 4 128 rfl (by kernel_rfl) (by rfl) hHeld (fun _ _ _ h => h) (by intro w' hSw; go_simp; try with_reducible rfl) ?_
     simp only [Act.put, spa, spb, spc]
     refine tkq 5 129 rfl (by kernel_rfl) (by rfl) hHeld (fun _ _ _ h => h) (by intro w' hSw; go_simp; try with_reducible rfl) ?_
     simp only [Act.put, spa, spb, spc]
     refine tkq 6 130 rfl (by kernel_rfl) (by rfl) hHeld (fun _ _ _ h => h) (by intro w' hSw; go_simp; try with_reducible rfl) ?_
     simp only [Act.put, spa, spb, spc]
     refine tkq 7 131 rfl (by kernel_rfl) (by rfl) hHeld (fun _ _ _ h => h) (by intro w' hSw; go_simp; try with_reducible rfl) ?_
     simp only [Act.put, spa, spb, spc]
     refine tkq 8 132 rfl (by kernel_rfl) (by rfl) hHeld (fun _ _ _ h => h) (by intro w' hSw; go_simp; try with_reducible rfl) ?_
     simp only [Act.put, spa, spb, spc]
     refine tkq 9 133 rfl (by kernel_rfl) (by rfl) hHeld (fun _ _ _ h => h) (by intro w' hSw; go_simp; try with_reducible rfl) ?_
     simp only [Act.put, spa, spb, spc]
     refine tkq 10 134 rfl (by kernel_rfl) (by rfl) hHeld (fun _ _ _ h => h) (by intro w' hSw; go_simp; try with_reducible rfl) ?_
     simp only [Act.put, spa, spb, spc]
     refine rdq 11 ⟨none, _, _, _, _, _⟩ (by kernel_rfl) rfl (fun K' hK => ?_)
     have r0 := RD.out.M.reg HRD.out
     have fz := RD.out.M.o.frozen
     go_simp
     have RY := Lib.hid (RD.out.setReg HRD.out eb)
     refine hK.out _ _ ⟨RY.out.o.cell 1, RY.out.M.eb_⟩ (fun hHeld => ?_)
     clear hK K'
     clear hHeld r0 fz
     refine wpAnyH_done (by kernel_rfl) ?_ _
     go_wp2_with fail
     go_ret
     exact ⟨by rw [← HD2.out] <;> first | done | rfl | exact congrArg (fun z => Ending.returned (Value.int .i64 z)) gd, by rw [← HS2.out]; exact RY.out.M, RY.out.t⟩
   have HS2 := Lib.hid (show ({ S with regs := upd S.regs rd ea } : StV) = S' from by rw [← HS1.out, if_neg hm])
   have hmi : (m == 1) = false := by rw [beq_eq_false_iff_ne]; exact hm
   clear HS1 hm
   go_wp2_with fail
   go_ret
   exact ⟨by rw [← HD2.out] <;> first | done | rfl | exact congrArg (fun z => Ending.returned (Value.int .i64 z)) gd, by rw [← HS2.out]; exact RY.out.M, RY.out.t⟩
 · have hrd : rd < 8 := by have := HI.out.d8 (by first | decide | (dsimp only; omega)); dsimp only at this; omega
   have HRD := Lib.hid hrd
   have g1 : (rd : Int) < 8 := by omega
   have g0 : (0 : Int) ≤ (rd : Int) := by omega
   clear hrd
   have HD2 := Lib.hid (show (1 : Int) = D from by rw [← HD.out]; rfl)
   have HS2 := Lib.hid (show ({ S with regs := upd S.regs rd (ofI m) } : StV) = S' from by rw [← HS.out]; rfl)
   clear HD HS
   have gw := wrapu m
   have i0 : w1.cell? ⟨q1, 0, none⟩ = some (.int .i64 14) := R1.out.o.cell 0
   have i1 : w1.cell? ⟨q1, 1, none⟩ = some (.int .i64 (rd : Int)) := R1.out.o.cell 1
   have i2 : w1.cell? ⟨q1, 2, none⟩ = some (.int .i64 (ra : Int)) := R1.out.o.cell 2
   have i3 : w1.cell? ⟨q1, 3, none⟩ = some (.int .i64 b) := R1.out.o.cell 3
   have i4 : w1.cell? ⟨q1, 4, none⟩ = some (.int .i64 m) := R1.out.o.cell 4
   go_upto_region 19 with fail
   clear i0 i1 i2 i3 i4
   obtain ⟨wd, hwd⟩ : ∃ wd, w1.drew = wd := ⟨_, rfl⟩
   have RD := Lib.hid (hwd ▸ R1.out.drew)
   clear R1
   refine wp_region_held_drew (S := fun w' => (w'.cell? ⟨q1, 0, none⟩ = some (.int .i64 14) ∧ w'.cell? ⟨q1, 1, none⟩ = some (.int .i64 (rd : Int)) ∧ w'.cell? ⟨q1, 2, none⟩ = some (.int .i64 (ra : Int)) ∧ w'.cell? ⟨q1, 3, none⟩ = some (.int .i64 b) ∧ w'.cell? ⟨q1, 4, none⟩ = some (.int .i64 m))) (by kernel_rfl) (by rw [hwd]; exact ⟨RD.out.o.cell 0, RD.out.o.cell 1, RD.out.o.cell 2, RD.out.o.cell 3, RD.out.o.cell 4⟩) (fun hHeld => ?_)
   refine tkq 0 137 rfl (by kernel_rfl) (by rfl) hHeld (fun _ _ _ h => h) (by intro w' hSw; go_simp; try with_reducible rfl) ?_
   simp only [Act.put, spa, spb, spc]
   refine tkq 1 138 rfl (by kernel_rfl) (by rfl) hHeld (fun _ _ _ h => h) (by intro w' hSw; go_simp; try with_reducible rfl) ?_
   simp only [Act.put, spa, spb, spc]
   refine tkq 2 139 rfl (by kernel_rfl) (by rfl) hHeld (fun _ _ _ h => h) (by intro w' hSw; go_simp; try with_reducible rfl) ?_
   simp only [Act.put, spa, spb, spc]
   refine tkq 3 140 rfl (by kernel_rfl) (by rfl) hHeld (fun _ _ _ h => h) (by intro w' hSw; go_simp; try with_reducible rfl) ?_
   simp only [Act.put, spa, spb, spc]
   refine tkq 4 141 rfl (by kernel_rfl) (by rfl) hHeld (fun _ _ _ h => h) (by intro w' hSw; go_simp; try with_reducible rfl) ?_
   simp only [Act.put, spa, spb, spc]
   refine tkq 5 142 rfl (by kernel_rfl) (by rfl) hHeld (fun _ _ _ h => h) (by intro w' hSw; go_simp; try with_reducible rfl) ?_
   simp only [Act.put, spa, spb, spc]
   refine tkq 6 143 rfl (by kernel_rfl) (by rfl) hHeld (fun _ _ _ h => h) (by intro w' hSw; go_simp; try with_reducible rfl) ?_
   simp only [Act.put, spa, spb, spc]
   refine tkq 7 144 rfl (by kernel_rfl) (by rfl) hHeld (fun _ _ _ h => h) (by intro w' hSw; go_simp; try with_reducible rfl) ?_
   simp only [Act.put, spa, spb, spc]
   refine tkq 8 145 rfl (by kernel_rfl) (by rfl) hHeld (fun _ _ _ h => h) (by intro w' hSw; go_simp; try with_reducible rfl) ?_
   simp only [Act.put, spa, spb, spc]
   refine rdq 9 ⟨none, _, _, _, _, _⟩ (by kernel_rfl) rfl (fun K' hK => ?_)
   have r0 := RD.out.M.reg HRD.out
   have fz := RD.out.M.o.frozen
   go_simp
   have RY := Lib.hid (RD.out.setReg HRD.out (ofI m))
   refine hK.out _ _ ⟨RY.out.o.cell 0, RY.out.o.cell 1, RY.out.o.cell 2, RY.out.o.cell 3, RY.out.o.cell 4⟩ (fun hHeld => ?_)
   clear hK K'
   clear hHeld r0 fz
   refine wpAnyH_done (by kernel_rfl) ?_ _
   go_wp2_with fail
   go_ret
   exact ⟨by rw [← HD2.out] <;> first | done | rfl | exact congrArg (fun z => Ending.returned (Value.int .i64 z)) gd, by rw [← HS2.out]; exact RY.out.M, RY.out.t⟩
 · have HD2 := Lib.hid (show (rd : Int) + 1 = D from by rw [← HD.out]; rfl)
   have HS2 := Lib.hid (show S = S' from by rw [← HS.out]; rfl)
   clear HD HS
   have gd : wrap64 ((rd : Int) + 1) = (rd : Int) + 1 := by have := HI.out.d1; dsimp only at this; unfold wrap64; omega
   have i0 : w1.cell? ⟨q1, 0, none⟩ = some (.int .i64 15) := R1.out.o.cell 0
   have i1 : w1.cell? ⟨q1, 1, none⟩ = some (.int .i64 (rd : Int)) := R1.out.o.cell 1
   have i2 : w1.cell? ⟨q1, 2, none⟩ = some (.int .i64 (ra : Int)) := R1.out.o.cell 2
   have i3 : w1.cell? ⟨q1, 3, none⟩ = some (.int .i64 b) := R1.out.o.cell 3
   have i4 : w1.cell? ⟨q1, 4, none⟩ = some (.int .i64 m) := R1.out.o.cell 4
   go_wp2_with fail
   go_ret
   exact ⟨by rw [← HD2.out] <;> first | done | rfl | exact congrArg (fun z => Ending.returned (Value.int .i64 z)) gd, by rw [← HS2.out]; exact R1.out.M, R1.out.t⟩
 · have HDL := Lib.hid (show (if S.regs ra ≠ 0#64 ∧ S.turns S.pc < m then -(rd : Int) else 1) = D from by rw [← HD.out]; rfl)
   have HSL := Lib.hid (show (if S.regs ra ≠ 0#64 ∧ S.turns S.pc < m then ({ S with turns := updI S.turns S.pc (S.turns S.pc + 1) } : StV) else { S with turns := updI S.turns S.pc 0 }) = S' from by rw [← HS.out]; rfl)
   clear HD HS
   have gp1 : (S.pc : Int) < 64 := by have := HPC.out; omega
   have gp0 : (0 : Int) ≤ (S.pc : Int) := by omega
   have g3 : (ra : Int) < 8 := by have := HRA.out; omega
   have g4 : (0 : Int) ≤ (ra : Int) := by omega
   have i0 : w1.cell? ⟨q1, 0, none⟩ = some (.int .i64 20) := R1.out.o.cell 0
   have i1 : w1.cell? ⟨q1, 1, none⟩ = some (.int .i64 (rd : Int)) := R1.out.o.cell 1
   have i2 : w1.cell? ⟨q1, 2, none⟩ = some (.int .i64 (ra : Int)) := R1.out.o.cell 2
   have i3 : w1.cell? ⟨q1, 3, none⟩ = some (.int .i64 b) := R1.out.o.cell 3
   have i4 : w1.cell? ⟨q1, 4, none⟩ = some (.int .i64 m) := R1.out.o.cell 4
   have mr := R1.out.M.reg HRA.out
   have mp := R1.out.M.pc_
   have mt := R1.out.M.turn HPC.out
   go_upto_region 23 with fail
   by_cases hy : S.regs ra = 0#64
   · have HNO := Lib.hid (show ¬ (S.regs ra ≠ 0#64 ∧ S.turns S.pc < m) from fun h => h.1 hy)
     rw [hy, uv_zero] at mr
     have HD2 := Lib.hid (show (1 : Int) = D from by rw [← HDL.out, if_neg HNO.out])
     have HS2 := Lib.hid (show ({ S with turns := updI S.turns S.pc 0 } : StV) = S' from by rw [← HSL.out, if_neg HNO.out])
     clear HDL HSL
     go_quiet (fail)
     have R2 := Lib.hid (R1.out.drewN nq)
     clear R1 i0 i1 i2 i3 i4 mr mp mt
     generalize w1.drewN nq = w2 at R2 ⊢
     have mp := R2.out.M.pc_
     go_upto_region 26 with fail
     obtain ⟨wd, hwd⟩ : ∃ wd, w2.drew = wd := ⟨_, rfl⟩
     have RD := Lib.hid (hwd ▸ R2.out.drew)
     refine wp_region_held_drew (S := fun w' => (w'.cell? ⟨g, 77, none⟩ = some (.int .i64 S.pc))) (by kernel_rfl) (hwd ▸ RD.out.M.pc_) (fun hHeld => ?_)
     refine tkq 0 191 rfl (by kernel_rfl) (by rfl) hHeld (fun _ _ _ h => h) (by intro w' hSw; go_simp; try with_reducible rfl) ?_
     simp only [Act.put, spa, spb, spc]
     refine tkq 1 192 rfl (by kernel_rfl) (by rfl) hHeld (fun _ _ _ h => h) (by intro w' hSw; go_simp; try with_reducible rfl) ?_
     simp only [Act.put, spa, spb, spc]
     refine tkq 2 193 rfl (by kernel_rfl) (by rfl) hHeld (fun _ _ _ h => h) (by intro w' hSw; go_simp; try with_reducible rfl) ?_
     simp only [Act.put, spa, spb, spc]
     refine tkq 3 194 rfl (by kernel_rfl) (by rfl) hHeld (fun _ _ _ h => h) (by intro w' hSw; go_simp; try with_reducible rfl) ?_
     simp only [Act.put, spa, spb, spc]
     refine tkq 4 195 rfl (by kernel_rfl) (by rfl) hHeld (fun _ _ _ h => h) (by intro w' hSw; go_simp; try with_reducible rfl) ?_
     simp only [Act.put, spa, spb, spc]
     refine tkq 5 196 rfl (by kernel_rfl) (by rfl) hHeld (fun _ _ _ h => h) (by intro w' hSw; go_simp; try with_reducible rfl) ?_
     simp only [Act.put, spa, spb, spc]
     refine tkq 6 197 rfl (by kernel_rfl) (by rfl) hHeld (fun _ _ _ h => h) (by intro w' hSw; go_simp; try with_reducible rfl) ?_
     simp only [Act.put, spa, spb, spc]
     refine tkq 7 198 rfl (by kernel_rfl) (by rfl) hHeld (fun _ _ _ h => h) (by intro w' hSw; go_simp; try with_reducible rfl) ?_
     simp only [Act.put, spa, spb, spc]
     refine rdq 8 ⟨none, _, _, _, _, _⟩ (by kernel_rfl) rfl (fun K' hK => ?_)
     have r0 := RD.out.M.turn HPC.out
     have fz := RD.out.M.o.frozen
     go_simp
     have RY := Lib.hid (RD.out.setTurn HPC.out 0)
     refine hK.out _ _ RY.out.M.pc_ (fun hHeld => ?_)
     clear hK K'
     clear hHeld r0 fz
     refine wpAnyH_done (by kernel_rfl) ?_ _
     go_wp2_with fail
     go_ret
     exact ⟨by rw [← HD2.out] <;> first | done | rfl | exact congrArg (fun z => Ending.returned (Value.int .i64 z)) gd, by rw [← HS2.out]; exact RY.out.M, RY.out.t⟩
   have hyi : (uv (S.regs ra) != 0) = true := by rw [← uv_zero, uv_bne]; simpa using hy
   by_cases ht : S.turns S.pc < m
   · have HD2 := Lib.hid (show -(rd : Int) = D from by rw [← HDL.out, if_pos ⟨hy, ht⟩])
     have HS2 := Lib.hid (show ({ S with turns := updI S.turns S.pc (S.turns S.pc + 1) } : StV) = S' from by rw [← HSL.out, if_pos ⟨hy, ht⟩])
     clear HDL HSL
     have gt1 : IntKind.i64.wrap (S.turns S.pc + 1) = S.turns S.pc + 1 := by have h1 := HTS.out S.pc HPC.out; have h2 := (HI.out.l rfl).2.2; dsimp only at h2; rw [IntKind.wrap_i64]; omega
     have gd1 : wrap64 (-(rd : Int)) = -(rd : Int) := by have := HI.out.d1; dsimp only at this; unfold wrap64; omega
     have gd2 : IntKind.i64.wrap (-(rd : Int)) = -(rd : Int) := by have := HI.out.d1; dsimp only at this; rw [IntKind.wrap_i64]; omega
     go_quiet (fail)
     have R2 := Lib.hid (R1.out.drewN nq)
     clear R1 i0 i1 i2 i3 i4 mr mp mt
     generalize w1.drewN nq = w2 at R2 ⊢
     have mp := R2.out.M.pc_
     go_upto_region 24 with fail
     obtain ⟨wd, hwd⟩ : ∃ wd, w2.drew = wd := ⟨_, rfl⟩
     have RD := Lib.hid (hwd ▸ R2.out.drew)
     clear R2 mp
     refine wp_region_held_drew (S := fun w' => (w'.cell? ⟨g, 77, none⟩ = some (.int .i64 S.pc))) (by kernel_rfl) (hwd ▸ RD.out.M.pc_) (fun hHeld => ?_)
     refine tkq 0 175 rfl (by kernel_rfl) (by rfl) hHeld (fun _ _ _ h => h) (by intro w' hSw; go_simp; try with_reducible rfl) ?_
     simp only [Act.put, spa, spb, spc]
     refine tkq 1 176 rfl (by kernel_rfl) (by rfl) hHeld (fun _ _ _ h => h) (by intro w' hSw; go_simp; try with_reducible rfl) ?_
     simp only [Act.put, spa, spb, spc]
     refine tkq 2 177 rfl (by kernel_rfl) (by rfl) hHeld (fun _ _ _ h => h) (by intro w' hSw; go_simp; try with_reducible rfl) ?_
     simp only [Act.put, spa, spb, spc]
     refine tkq 3 178 rfl (by kernel_rfl) (by rfl) hHeld (fun _ _ _ h => h) (by intro w' hSw; go_simp; try with_reducible rfl) ?_
     simp only [Act.put, spa, spb, spc]
     refine tkq 4 179 rfl (by kernel_rfl) (by rfl) hHeld (fun _ _ _ h => h) (by intro w' hSw; go_simp; try with_reducible rfl) ?_
     simp only [Act.put, spa, spb, spc]
     refine tkq 5 180 rfl (by kernel_rfl) (by rfl) hHeld (fun _ _ _ h => h) (by intro w' hSw; go_simp; try with_reducible rfl) ?_
     simp only [Act.put, spa, spb, spc]
     refine tkq 6 181 rfl (by kernel_rfl) (by rfl) hHeld (fun _ _ _ h => h) (by intro w' hSw; go_simp; try with_reducible rfl) ?_
     simp only [Act.put, spa, spb, spc]
     refine tkq 7 182 rfl (by kernel_rfl) (by rfl) hHeld (fun _ _ _ h => h) (by intro w' hSw; go_simp; try with_reducible rfl) ?_
     simp only [Act.put, spa, spb, spc]
     refine tkq 10 185 rfl (by kernel_rfl) (by rfl) hHeld (fun _ _ _ h => h) (by intro w' hSw; go_simp; try with_reducible rfl) ?_
     simp only [Act.put, spa, spb, spc]
     refine tkq 11 186 rfl (by kernel_rfl) (by rfl) hHeld (fun _ _ _ h => h) (by intro w' hSw; go_simp; try with_reducible rfl) ?_
     simp only [Act.put, spa, spb, spc]
     refine rdq 8 ⟨some 183, _, _, _, _, _⟩ (by kernel_rfl) rfl (fun K' hK => ?_)
     have r0 := RD.out.M.turn HPC.out
     go_simp
     refine hK.out _ _ RD.out.M.pc_ (fun hHeld => ?_)
     clear hK K'
     clear r0
     refine tkq 9 184 rfl (by kernel_rfl) (by rfl) hHeld (fun _ _ _ h => h) (by intro w' hSw; go_simp; try with_reducible rfl) ?_
     simp only [Act.put, spa, spb, spc]
     refine tkq 12 187 rfl (by kernel_rfl) (by rfl) hHeld (fun _ _ _ h => h) (by intro w' hSw; go_simp; try with_reducible rfl) ?_
     simp only [Act.put, spa, spb, spc]
     refine rdq 13 ⟨none, _, _, _, _, _⟩ (by kernel_rfl) rfl (fun K' hK => ?_)
     have r0 := RD.out.M.turn HPC.out
     have fz := RD.out.M.o.frozen
     go_simp
     have RY := Lib.hid (RD.out.setTurn HPC.out (S.turns S.pc + 1))
     refine hK.out _ _ RY.out.M.pc_ (fun hHeld => ?_)
     clear hK K'
     clear hHeld r0 fz
     refine wpAnyH_done (by kernel_rfl) ?_ _
     have i1 : (wd.setCell ⟨g, 13 + S.pc, none⟩ (.int .i64 (S.turns S.pc + 1))).cell? ⟨q1, 1, none⟩ = some (.int .i64 (rd : Int)) := RY.out.o.cell 1
     go_wp2_with fail
     go_ret
     exact ⟨by rw [← HD2.out] <;> first | done | rfl | exact congrArg (fun z => Ending.returned (Value.int .i64 z)) gd, by rw [← HS2.out]; exact RY.out.M, RY.out.t⟩
   have HNO := Lib.hid (show ¬ (S.regs ra ≠ 0#64 ∧ S.turns S.pc < m) from fun h => ht h.2)
   have hti : decide (S.turns S.pc < m) = false := by simpa using ht
   have HD2 := Lib.hid (show (1 : Int) = D from by rw [← HDL.out, if_neg HNO.out])
   have HS2 := Lib.hid (show ({ S with turns := updI S.turns S.pc 0 } : StV) = S' from by rw [← HSL.out, if_neg HNO.out])
   clear HDL HSL
   go_quiet (fail)
   have R2 := Lib.hid (R1.out.drewN nq)
   clear R1 i0 i1 i2 i3 i4 mr mp mt
   generalize w1.drewN nq = w2 at R2 ⊢
   have mp := R2.out.M.pc_
   go_upto_region 26 with fail
   obtain ⟨wd, hwd⟩ : ∃ wd, w2.drew = wd := ⟨_, rfl⟩
   have RD := Lib.hid (hwd ▸ R2.out.drew)
   refine wp_region_held_drew (S := fun w' => (w'.cell? ⟨g, 77, none⟩ = some (.int .i64 S.pc))) (by kernel_rfl) (hwd ▸ RD.out.M.pc_) (fun hHeld => ?_)
   refine tkq 0 191 rfl (by kernel_rfl) (by rfl) hHeld (fun _ _ _ h => h) (by intro w' hSw; go_simp; try with_reducible rfl) ?_
   simp only [Act.put, spa, spb, spc]
   refine tkq 1 192 rfl (by kernel_rfl) (by rfl) hHeld (fun _ _ _ h => h) (by intro w' hSw; go_simp; try with_reducible rfl) ?_
   simp only [Act.put, spa, spb, spc]
   refine tkq 2 193 rfl (by kernel_rfl) (by rfl) hHeld (fun _ _ _ h => h) (by intro w' hSw; go_simp; try with_reducible rfl) ?_
   simp only [Act.put, spa, spb, spc]
   refine tkq 3 194 rfl (by kernel_rfl) (by rfl) hHeld (fun _ _ _ h => h) (by intro w' hSw; go_simp; try with_reducible rfl) ?_
   simp only [Act.put, spa, spb, spc]
   refine tkq 4 195 rfl (by kernel_rfl) (by rfl) hHeld (fun _ _ _ h => h) (by intro w' hSw; go_simp; try with_reducible rfl) ?_
   simp only [Act.put, spa, spb, spc]
   refine tkq 5 196 rfl (by kernel_rfl) (by rfl) hHeld (fun _ _ _ h => h) (by intro w' hSw; go_simp; try with_reducible rfl) ?_
   simp only [Act.put, spa, spb, spc]
   refine tkq 6 197 rfl (by kernel_rfl) (by rfl) hHeld (fun _ _ _ h => h) (by intro w' hSw; go_simp; try with_reducible rfl) ?_
   simp only [Act.put, spa, spb, spc]
   refine tkq 7 198 rfl (by kernel_rfl) (by rfl) hHeld (fun _ _ _ h => h) (by intro w' hSw; go_simp; try with_reducible rfl) ?_
   simp only [Act.put, spa, spb, spc]
   refine rdq 8 ⟨none, _, _, _, _, _⟩ (by kernel_rfl) rfl (fun K' hK => ?_)
   have r0 := RD.out.M.turn HPC.out
   have fz := RD.out.M.o.frozen
   go_simp
   have RY := Lib.hid (RD.out.setTurn HPC.out 0)
   refine hK.out _ _ RY.out.M.pc_ (fun hHeld => ?_)
   clear hK K'
   clear hHeld r0 fz
   refine wpAnyH_done (by kernel_rfl) ?_ _
   go_wp2_with fail
   go_ret
   exact ⟨by rw [← HD2.out] <;> first | done | rfl | exact congrArg (fun z => Ending.returned (Value.int .i64 z)) gd, by rw [← HS2.out]; exact RY.out.M, RY.out.t⟩
 · have hrd : rd < 8 := by have := HI.out.d8 (by first | decide | (dsimp only; omega)); dsimp only at this; omega
   have HRD := Lib.hid hrd
   have g1 : (rd : Int) < 8 := by omega
   have g0 : (0 : Int) ≤ (rd : Int) := by omega
   clear hrd
   have hok : AM.doOk op = true := decide_eq_true hop
   have HD2 := Lib.hid (show (1 : Int) = D from by rw [← HD.out]; unfold runD; rw [if_neg (by first | omega | (dsimp only; omega)), if_neg (by first | omega | (dsimp only; omega)), if_pos hok])
   have HS2 := Lib.hid (show ({ S with regs := upd S.regs rd (AM.doV op (S.regs ra) x) } : StV) = S' from by rw [← HS.out]; unfold runS; rw [if_neg (by first | omega | (dsimp only; omega)), if_neg (by first | omega | (dsimp only; omega)), if_neg (by first | omega | (dsimp only; omega)), if_neg (by first | omega | (dsimp only; omega)), if_neg (by first | omega | (dsimp only; omega)), if_neg (by first | omega | (dsimp only; omega)), if_neg (by first | omega | (dsimp only; omega)), if_pos hok, HX.out]; rfl)
   have HDO := Lib.hid (fun w => do_any op (S.regs ra) x w)
   rw [hok] at HDO
   clear HD HS hok
   have n0 : (op == 0) = false := by rw [beq_eq_false_iff_ne]; omega
   have n11 : (op == 11) = false := by rw [beq_eq_false_iff_ne]; omega
   have n12 : (op == 12) = false := by rw [beq_eq_false_iff_ne]; omega
   have n13 : (op == 13) = false := by rw [beq_eq_false_iff_ne]; omega
   have n14 : (op == 14) = false := by rw [beq_eq_false_iff_ne]; omega
   have n15 : (op == 15) = false := by rw [beq_eq_false_iff_ne]; omega
   have n20 : (op == 20) = false := by rw [beq_eq_false_iff_ne]; omega
   have g3 : (ra : Int) < 8 := by have := HRA.out; omega
   have g4 : (0 : Int) ≤ (ra : Int) := by omega
   have i0 : w1.cell? ⟨q1, 0, none⟩ = some (.int .i64 op) := R1.out.o.cell 0
   have i1 : w1.cell? ⟨q1, 1, none⟩ = some (.int .i64 (rd : Int)) := R1.out.o.cell 1
   have i2 : w1.cell? ⟨q1, 2, none⟩ = some (.int .i64 (ra : Int)) := R1.out.o.cell 2
   have i3 : w1.cell? ⟨q1, 3, none⟩ = some (.int .i64 b) := R1.out.o.cell 3
   have i4 : w1.cell? ⟨q1, 4, none⟩ = some (.int .i64 m) := R1.out.o.cell 4
   go_upto_region 2 with fail
   clear i0 i1 i2 i3 i4
   obtain ⟨wd, hwd⟩ : ∃ wd, w1.drew = wd := ⟨_, rfl⟩
   have RD := Lib.hid (hwd ▸ R1.out.drew)
   clear R1
   clear n0 n11 n12 n13 n14 n15 n20
   refine wp_region_held_drew (S := fun w' => (w'.cell? ⟨q1, 0, none⟩ = some (.int .i64 op) ∧ w'.cell? ⟨q1, 1, none⟩ = some (.int .i64 (rd : Int)) ∧ w'.cell? ⟨q1, 2, none⟩ = some (.int .i64 (ra : Int)) ∧ w'.cell? ⟨q1, 3, none⟩ = some (.int .i64 b) ∧ w'.cell? ⟨q1, 4, none⟩ = some (.int .i64 m) ∧ w'.cell? ⟨g, 5 + ra, none⟩ = some (.int .u64 (uv (S.regs ra))))) (by kernel_rfl) (by rw [hwd]; exact ⟨RD.out.o.cell 0, RD.out.o.cell 1, RD.out.o.cell 2, RD.out.o.cell 3, RD.out.o.cell 4, RD.out.M.reg HRA.out⟩) (fun hHeld => ?_)
   refine tkq 0 12 rfl (by kernel_rfl) (by rfl) hHeld (fun _ _ _ h => h) (by intro w' hSw; go_simp; try with_reducible rfl) ?_
   simp only [Act.put, spa, spb, spc]
   refine tkq 1 13 rfl (by kernel_rfl) (by rfl) hHeld (fun _ _ _ h => h) (by intro w' hSw; go_simp; try with_reducible rfl) ?_
   simp only [Act.put, spa, spb, spc]
   refine tkq 2 14 rfl (by kernel_rfl) (by rfl) hHeld (fun _ _ _ h => h) (by intro w' hSw; go_simp; try with_reducible rfl) ?_
   simp only [Act.put, spa, spb, spc]
   refine tkq 3 15 rfl (by kernel_rfl) (by rfl) hHeld (fun _ _ _ h => h) (by intro w' hSw; go_simp; try with_reducible rfl) ?_
   simp only [Act.put, spa, spb, spc]
   refine tkq 4 16 rfl (by kernel_rfl) (by rfl) hHeld (fun _ _ _ h => h) (by intro w' hSw; go_simp; try with_reducible rfl) ?_
   simp only [Act.put, spa, spb, spc]
   refine tkq 5 17 rfl (by kernel_rfl) (by rfl) hHeld (fun _ _ _ h => h) (by intro w' hSw; go_simp; try with_reducible rfl) ?_
   simp only [Act.put, spa, spb, spc]
   refine tkq 6 18 rfl (by kernel_rfl) (by rfl) hHeld (fun _ _ _ h => h) (by intro w' hSw; go_simp; try with_reducible rfl) ?_
   simp only [Act.put, spa, spb, spc]
   refine tkq 7 19 rfl (by kernel_rfl) (by rfl) hHeld (fun _ _ _ h => h) (by intro w' hSw; go_simp; try with_reducible rfl) ?_
   simp only [Act.put, spa, spb, spc]
   refine tkq 8 20 rfl (by kernel_rfl) (by rfl) hHeld (fun _ _ _ h => h) (by intro w' hSw; go_simp; try with_reducible rfl) ?_
   simp only [Act.put, spa, spb, spc]
   refine tkq 9 21 rfl (by kernel_rfl) (by rfl) hHeld (fun _ _ _ h => h) (by intro w' hSw; go_simp; try with_reducible rfl) ?_
   simp only [Act.put, spa, spb, spc]
   refine tkq 10 22 rfl (by kernel_rfl) (by rfl) hHeld (fun _ _ _ h => h) (by intro w' hSw; go_simp; try with_reducible rfl) ?_
   simp only [Act.put, spa, spb, spc]
   refine rdq 11 ⟨some 23, _, _, _, _, _⟩ (by kernel_rfl) rfl (fun K' hK => ?_)
   go_simp
   refine (HSR.out _ RD.out.M).mono ?_
   rintro e wx ⟨rfl, bx⟩
   have RX := Lib.hid (RD.out.below bx)
   clear bx
   refine hK.out _ _ ⟨RX.out.o.cell 0, RX.out.o.cell 1, RX.out.o.cell 2, RX.out.o.cell 3, RX.out.o.cell 4, RX.out.M.reg HRA.out⟩ (fun hHeld => ?_)
   clear hK K'
   refine rdq 12 ⟨some 24, _, _, _, _, _⟩ (by kernel_rfl) rfl (fun K' hK => ?_)
   go_simp
   refine (HDO.out wx).mono ?_
   rintro e wy ⟨rfl, rfl⟩
   refine hK.out _ _ ⟨RX.out.o.cell 0, RX.out.o.cell 1, RX.out.o.cell 2, RX.out.o.cell 3, RX.out.o.cell 4, RX.out.M.reg HRA.out⟩ (fun hHeld => ?_)
   clear hK K'
   refine tkq 13 11 rfl (by kernel_rfl) (by rfl) hHeld (fun _ _ _ h => h) (by intro w' hSw; go_simp; try with_reducible rfl) ?_
   simp only [Act.put, spa, spb, spc]
   refine tkq 14 25 rfl (by kernel_rfl) (by rfl) hHeld (fun _ _ _ h => h) (by intro w' hSw; go_simp; try with_reducible rfl) ?_
   simp only [Act.put, spa, spb, spc]
   refine tkq 15 26 rfl (by kernel_rfl) (by rfl) hHeld (fun _ _ _ h => h) (by intro w' hSw; go_simp; try with_reducible rfl) ?_
   simp only [Act.put, spa, spb, spc]
   refine tkq 16 5 rfl (by kernel_rfl) (by rfl) hHeld (fun _ _ _ h => h) (by intro w' hSw; go_simp; try with_reducible rfl) ?_
   simp only [Act.put, spa, spb, spc]
   refine tkq 17 6 rfl (by kernel_rfl) (by rfl) hHeld (fun _ _ _ h => h) (by intro w' hSw; go_simp; try with_reducible rfl) ?_
   simp only [Act.put, spa, spb, spc]
   refine wpAnyH_done (by kernel_rfl) ?_ _
   clear hwd RD hHeld
   have i1 : wx.cell? ⟨q1, 1, none⟩ = some (.int .i64 (rd : Int)) := RX.out.o.cell 1
   obtain ⟨v, hv⟩ : ∃ v, AM.doV op (S.regs ra) x = v := ⟨_, rfl⟩
   rw [hv] at HS2 ⊢
   clear hv HDO
   go_upto_region 4 with fail
   clear i1
   obtain ⟨wd2, hwd⟩ : ∃ wd, wx.drew = wd := ⟨_, rfl⟩
   have RD := Lib.hid (hwd ▸ RX.out.drew)
   clear RX
   refine wp_region_held_drew (S := fun w' => (w'.cell? ⟨q1, 1, none⟩ = some (.int .i64 (rd : Int)))) (by kernel_rfl) (hwd ▸ RD.out.o.cell 1) (fun hHeld => ?_)
   refine tkq 0 28 rfl (by kernel_rfl) (by rfl) hHeld (fun _ _ _ h => h) (by intro w' hSw; go_simp; try with_reducible rfl) ?_
   simp only [Act.put, spa, spb, spc]
   refine tkq 1 29 rfl (by kernel_rfl) (by rfl) hHeld (fun _ _ _ h => h) (by intro w' hSw; go_simp; try with_reducible rfl) ?_
   simp only [Act.put, spa, spb, spc]
   refine tkq 2 30 rfl (by kernel_rfl) (by rfl) hHeld (fun _ _ _ h => h) (by intro w' hSw; go_simp; try with_reducible rfl) ?_
   simp only [Act.put, spa, spb, spc]
   refine tkq 3 31 rfl (by kernel_rfl) (by rfl) hHeld (fun _ _ _ h => h) (by intro w' hSw; go_simp; try with_reducible rfl) ?_
   simp only [Act.put, spa, spb, spc]
   refine tkq 4 32 rfl (by kernel_rfl) (by rfl) hHeld (fun _ _ _ h => h) (by intro w' hSw; go_simp; try with_reducible rfl) ?_
   simp only [Act.put, spa, spb, spc]
   refine tkq 5 33 rfl (by kernel_rfl) (by rfl) hHeld (fun _ _ _ h => h) (by intro w' hSw; go_simp; try with_reducible rfl) ?_
   simp only [Act.put, spa, spb, spc]
   refine tkq 6 34 rfl (by kernel_rfl) (by rfl) hHeld (fun _ _ _ h => h) (by intro w' hSw; go_simp; try with_reducible rfl) ?_
   simp only [Act.put, spa, spb, spc]
   refine rdq 7 ⟨none, _, _, _, _, _⟩ (by kernel_rfl) rfl (fun K' hK => ?_)
   have r0 := RD.out.M.reg HRD.out
   have fz := RD.out.M.o.frozen
   go_simp
   have RY := Lib.hid (RD.out.setReg HRD.out v)
   refine hK.out _ _ (RY.out.o.cell 1) (fun hHeld => ?_)
   clear hK K'
   clear hHeld r0 fz
   refine wpAnyH_done (by kernel_rfl) ?_ _
   go_wp2_with fail
   go_ret
   exact ⟨by rw [← HD2.out] <;> first | done | rfl | exact congrArg (fun z => Ending.returned (Value.int .i64 z)) gd, by rw [← HS2.out]; exact RY.out.M, RY.out.t⟩
 have hok : AM.doOk op = false := by unfold AM.doOk; rw [decide_eq_false_iff_not]; omega
 have hhk : AM.hdOk op = true := decide_eq_true hop
 have HDL := Lib.hid (show (if AM.hdV op (S.regs ra) x = true then (rd : Int) + 1 else 1) = D from by rw [← HD.out, ← HX.out]; exact ((if_neg (show ¬ op = 15 by omega)).trans ((if_neg (show ¬ op = 20 by omega)).trans (if_neg (by rw [show AM.doOk op = false from hok]; decide)))).symm)
 have HS2 := Lib.hid (show S = S' from by rw [← HS.out]; unfold runS; rw [if_neg (by first | omega | (dsimp only; omega)), if_neg (by first | omega | (dsimp only; omega)), if_neg (by first | omega | (dsimp only; omega)), if_neg (by first | omega | (dsimp only; omega)), if_neg (by first | omega | (dsimp only; omega)), if_neg (by first | omega | (dsimp only; omega)), if_neg (by first | omega | (dsimp only; omega)), if_neg (by rw [hok]; decide)])
 have HDO := Lib.hid (fun w => do_any op (S.regs ra) x w)
 have HHO := Lib.hid (fun w => hd_any op (S.regs ra) x w)
 rw [hok] at HDO
 rw [hhk] at HHO
 clear HD HS hok hhk
 have n0 : (op == 0) = false := by rw [beq_eq_false_iff_ne]; omega
 have n11 : (op == 11) = false := by rw [beq_eq_false_iff_ne]; omega
 have n12 : (op == 12) = false := by rw [beq_eq_false_iff_ne]; omega
 have n13 : (op == 13) = false := by rw [beq_eq_false_iff_ne]; omega
 have n14 : (op == 14) = false := by rw [beq_eq_false_iff_ne]; omega
 have n15 : (op == 15) = false := by rw [beq_eq_false_iff_ne]; omega
 have n20 : (op == 20) = false := by rw [beq_eq_false_iff_ne]; omega
 have g3 : (ra : Int) < 8 := by have := HRA.out; omega
 have g4 : (0 : Int) ≤ (ra : Int) := by omega
 have i0 : w1.cell? ⟨q1, 0, none⟩ = some (.int .i64 op) := R1.out.o.cell 0
 have i1 : w1.cell? ⟨q1, 1, none⟩ = some (.int .i64 (rd : Int)) := R1.out.o.cell 1
 have i2 : w1.cell? ⟨q1, 2, none⟩ = some (.int .i64 (ra : Int)) := R1.out.o.cell 2
 have i3 : w1.cell? ⟨q1, 3, none⟩ = some (.int .i64 b) := R1.out.o.cell 3
 have i4 : w1.cell? ⟨q1, 4, none⟩ = some (.int .i64 m) := R1.out.o.cell 4
 go_upto_region 2 with fail
 clear i0 i1 i2 i3 i4
 obtain ⟨wd, hwd⟩ : ∃ wd, w1.drew = wd := ⟨_, rfl⟩
 have RD := Lib.hid (hwd ▸ R1.out.drew)
 clear R1
 clear n0 n11 n12 n13 n14 n15 n20
 refine wp_region_held_drew (S := fun w' => (w'.cell? ⟨q1, 0, none⟩ = some (.int .i64 op) ∧ w'.cell? ⟨q1, 1, none⟩ = some (.int .i64 (rd : Int)) ∧ w'.cell? ⟨q1, 2, none⟩ = some (.int .i64 (ra : Int)) ∧ w'.cell? ⟨q1, 3, none⟩ = some (.int .i64 b) ∧ w'.cell? ⟨q1, 4, none⟩ = some (.int .i64 m) ∧ w'.cell? ⟨g, 5 + ra, none⟩ = some (.int .u64 (uv (S.regs ra))))) (by kernel_rfl) (by rw [hwd]; exact ⟨RD.out.o.cell 0, RD.out.o.cell 1, RD.out.o.cell 2, RD.out.o.cell 3, RD.out.o.cell 4, RD.out.M.reg HRA.out⟩) (fun hHeld => ?_)
 refine tkq 0 12 rfl (by kernel_rfl) (by rfl) hHeld (fun _ _ _ h => h) (by intro w' hSw; go_simp; try with_reducible rfl) ?_
 simp only [Act.put, spa, spb, spc]
 refine tkq 1 13 rfl (by kernel_rfl) (by rfl) hHeld (fun _ _ _ h => h) (by intro w' hSw; go_simp; try with_reducible rfl) ?_
 simp only [Act.put, spa, spb, spc]
 refine tkq 2 14 rfl (by kernel_rfl) (by rfl) hHeld (fun _ _ _ h => h) (by intro w' hSw; go_simp; try with_reducible rfl) ?_
 simp only [Act.put, spa, spb, spc]
 refine tkq 3 15 rfl (by kernel_rfl) (by rfl) hHeld (fun _ _ _ h => h) (by intro w' hSw; go_simp; try with_reducible rfl) ?_
 simp only [Act.put, spa, spb, spc]
 refine tkq 4 16 rfl (by kernel_rfl) (by rfl) hHeld (fun _ _ _ h => h) (by intro w' hSw; go_simp; try with_reducible rfl) ?_
 simp only [Act.put, spa, spb, spc]
 refine tkq 5 17 rfl (by kernel_rfl) (by rfl) hHeld (fun _ _ _ h => h) (by intro w' hSw; go_simp; try with_reducible rfl) ?_
 simp only [Act.put, spa, spb, spc]
 refine tkq 6 18 rfl (by kernel_rfl) (by rfl) hHeld (fun _ _ _ h => h) (by intro w' hSw; go_simp; try with_reducible rfl) ?_
 simp only [Act.put, spa, spb, spc]
 refine tkq 7 19 rfl (by kernel_rfl) (by rfl) hHeld (fun _ _ _ h => h) (by intro w' hSw; go_simp; try with_reducible rfl) ?_
 simp only [Act.put, spa, spb, spc]
 refine tkq 8 20 rfl (by kernel_rfl) (by rfl) hHeld (fun _ _ _ h => h) (by intro w' hSw; go_simp; try with_reducible rfl) ?_
 simp only [Act.put, spa, spb, spc]
 refine tkq 9 21 rfl (by kernel_rfl) (by rfl) hHeld (fun _ _ _ h => h) (by intro w' hSw; go_simp; try with_reducible rfl) ?_
 simp only [Act.put, spa, spb, spc]
 refine tkq 10 22 rfl (by kernel_rfl) (by rfl) hHeld (fun _ _ _ h => h) (by intro w' hSw; go_simp; try with_reducible rfl) ?_
 simp only [Act.put, spa, spb, spc]
 refine rdq 11 ⟨some 23, _, _, _, _, _⟩ (by kernel_rfl) rfl (fun K' hK => ?_)
 go_simp
 refine (HSR.out _ RD.out.M).mono ?_
 rintro e wx ⟨rfl, bx⟩
 have RX := Lib.hid (RD.out.below bx)
 clear bx
 refine hK.out _ _ ⟨RX.out.o.cell 0, RX.out.o.cell 1, RX.out.o.cell 2, RX.out.o.cell 3, RX.out.o.cell 4, RX.out.M.reg HRA.out⟩ (fun hHeld => ?_)
 clear hK K'
 refine rdq 12 ⟨some 24, _, _, _, _, _⟩ (by kernel_rfl) rfl (fun K' hK => ?_)
 go_simp
 refine (HDO.out wx).mono ?_
 rintro e wy ⟨rfl, rfl⟩
 refine hK.out _ _ ⟨RX.out.o.cell 0, RX.out.o.cell 1, RX.out.o.cell 2, RX.out.o.cell 3, RX.out.o.cell 4, RX.out.M.reg HRA.out⟩ (fun hHeld => ?_)
 clear hK K'
 refine tkq 13 11 rfl (by kernel_rfl) (by rfl) hHeld (fun _ _ _ h => h) (by intro w' hSw; go_simp; try with_reducible rfl) ?_
 simp only [Act.put, spa, spb, spc]
 refine tkq 14 25 rfl (by kernel_rfl) (by rfl) hHeld (fun _ _ _ h => h) (by intro w' hSw; go_simp; try with_reducible rfl) ?_
 simp only [Act.put, spa, spb, spc]
 refine tkq 15 26 rfl (by kernel_rfl) (by rfl) hHeld (fun _ _ _ h => h) (by intro w' hSw; go_simp; try with_reducible rfl) ?_
 simp only [Act.put, spa, spb, spc]
 refine tkq 16 5 rfl (by kernel_rfl) (by rfl) hHeld (fun _ _ _ h => h) (by intro w' hSw; go_simp; try with_reducible rfl) ?_
 simp only [Act.put, spa, spb, spc]
 refine tkq 17 6 rfl (by kernel_rfl) (by rfl) hHeld (fun _ _ _ h => h) (by intro w' hSw; go_simp; try with_reducible rfl) ?_
 simp only [Act.put, spa, spb, spc]
 refine wpAnyH_done (by kernel_rfl) ?_ _
 clear hwd RD hHeld HDO
 obtain ⟨h, hh⟩ : ∃ h, AM.hdV op (S.regs ra) x = h := ⟨_, rfl⟩
 rw [hh] at HHO HDL
 clear hh
 generalize AM.doV op (S.regs ra) x = v
 go_upto_region 5 with fail
 obtain ⟨wd2, hwd⟩ : ∃ wd, wx.drew = wd := ⟨_, rfl⟩
 have RD := Lib.hid (hwd ▸ RX.out.drew)
 clear RX
 refine wp_region_held_drew (S := fun w' => (w'.cell? ⟨q1, 0, none⟩ = some (.int .i64 op) ∧ w'.cell? ⟨q1, 1, none⟩ = some (.int .i64 (rd : Int)) ∧ w'.cell? ⟨q1, 2, none⟩ = some (.int .i64 (ra : Int)) ∧ w'.cell? ⟨q1, 3, none⟩ = some (.int .i64 b) ∧ w'.cell? ⟨q1, 4, none⟩ = some (.int .i64 m) ∧ w'.cell? ⟨g, 5 + ra, none⟩ = some (.int .u64 (uv (S.regs ra))))) (by kernel_rfl) (by rw [hwd]; exact ⟨RD.out.o.cell 0, RD.out.o.cell 1, RD.out.o.cell 2, RD.out.o.cell 3, RD.out.o.cell 4, RD.out.M.reg HRA.out⟩) (fun hHeld => ?_)
 refine tkq 0 36 rfl (by kernel_rfl) (by rfl) hHeld (fun _ _ _ h => h) (by intro w' hSw; go_simp; try with_reducible rfl) ?_
 simp only [Act.put, spa, spb, spc]
 refine tkq 1 37 rfl (by kernel_rfl) (by rfl) hHeld (fun _ _ _ h => h) (by intro w' hSw; go_simp; try with_reducible rfl) ?_
 simp only [Act.put, spa, spb, spc]
 refine tkq 2 38 rfl (by kernel_rfl) (by rfl) hHeld (fun _ _ _ h => h) (by intro w' hSw; go_simp; try with_reducible rfl) ?_
 simp only [Act.put, spa, spb, spc]
 refine tkq 3 39 rfl (by kernel_rfl) (by rfl) hHeld (fun _ _ _ h => h) (by intro w' hSw; go_simp; try with_reducible rfl) ?_
 simp only [Act.put, spa, spb, spc]
 refine tkq 4 40 rfl (by kernel_rfl) (by rfl) hHeld (fun _ _ _ h => h) (by intro w' hSw; go_simp; try with_reducible rfl) ?_
 simp only [Act.put, spa, spb, spc]
 refine tkq 5 41 rfl (by kernel_rfl) (by rfl) hHeld (fun _ _ _ h => h) (by intro w' hSw; go_simp; try with_reducible rfl) ?_
 simp only [Act.put, spa, spb, spc]
 refine tkq 6 42 rfl (by kernel_rfl) (by rfl) hHeld (fun _ _ _ h => h) (by intro w' hSw; go_simp; try with_reducible rfl) ?_
 simp only [Act.put, spa, spb, spc]
 refine tkq 7 43 rfl (by kernel_rfl) (by rfl) hHeld (fun _ _ _ h => h) (by intro w' hSw; go_simp; try with_reducible rfl) ?_
 simp only [Act.put, spa, spb, spc]
 refine tkq 8 44 rfl (by kernel_rfl) (by rfl) hHeld (fun _ _ _ h => h) (by intro w' hSw; go_simp; try with_reducible rfl) ?_
 simp only [Act.put, spa, spb, spc]
 refine tkq 9 45 rfl (by kernel_rfl) (by rfl) hHeld (fun _ _ _ h => h) (by intro w' hSw; go_simp; try with_reducible rfl) ?_
 simp only [Act.put, spa, spb, spc]
 refine tkq 10 46 rfl (by kernel_rfl) (by rfl) hHeld (fun _ _ _ h => h) (by intro w' hSw; go_simp; try with_reducible rfl) ?_
 simp only [Act.put, spa, spb, spc]
 refine rdq 11 ⟨some 47, _, _, _, _, _⟩ (by kernel_rfl) rfl (fun K' hK => ?_)
 go_simp
 refine (HSR.out _ RD.out.M).mono ?_
 rintro e wx2 ⟨rfl, bx⟩
 have RX := Lib.hid (RD.out.below bx)
 clear bx
 refine hK.out _ _ ⟨RX.out.o.cell 0, RX.out.o.cell 1, RX.out.o.cell 2, RX.out.o.cell 3, RX.out.o.cell 4, RX.out.M.reg HRA.out⟩ (fun hHeld => ?_)
 clear hK K'
 refine rdq 12 ⟨some 48, _, _, _, _, _⟩ (by kernel_rfl) rfl (fun K' hK => ?_)
 go_simp
 refine (HHO.out wx2).mono ?_
 rintro e wy ⟨rfl, rfl⟩
 refine hK.out _ _ ⟨RX.out.o.cell 0, RX.out.o.cell 1, RX.out.o.cell 2, RX.out.o.cell 3, RX.out.o.cell 4, RX.out.M.reg HRA.out⟩ (fun hHeld => ?_)
 clear hK K'
 refine tkq 13 35 rfl (by kernel_rfl) (by rfl) hHeld (fun _ _ _ h => h) (by intro w' hSw; go_simp; try with_reducible rfl) ?_
 simp only [Act.put, spa, spb, spc]
 refine tkq 14 49 rfl (by kernel_rfl) (by rfl) hHeld (fun _ _ _ h => h) (by intro w' hSw; go_simp; try with_reducible rfl) ?_
 simp only [Act.put, spa, spb, spc]
 refine tkq 15 50 rfl (by kernel_rfl) (by rfl) hHeld (fun _ _ _ h => h) (by intro w' hSw; go_simp; try with_reducible rfl) ?_
 simp only [Act.put, spa, spb, spc]
 refine tkq 16 7 rfl (by kernel_rfl) (by rfl) hHeld (fun _ _ _ h => h) (by intro w' hSw; go_simp; try with_reducible rfl) ?_
 simp only [Act.put, spa, spb, spc]
 refine tkq 17 8 rfl (by kernel_rfl) (by rfl) hHeld (fun _ _ _ h => h) (by intro w' hSw; go_simp; try with_reducible rfl) ?_
 simp only [Act.put, spa, spb, spc]
 refine wpAnyH_done (by kernel_rfl) ?_ _
 clear hwd RD hHeld
 have i1 : wx2.cell? ⟨q1, 1, none⟩ = some (.int .i64 (rd : Int)) := RX.out.o.cell 1
 have gd : wrap64 ((rd : Int) + 1) = (rd : Int) + 1 := by have := HI.out.d1; dsimp only at this; unfold wrap64; omega
 cases h
 · have HD2 := Lib.hid (show (1 : Int) = D from by rw [← HDL.out]; rfl)
   clear HDL
   go_wp2_with fail
   go_ret
   exact ⟨by rw [← HD2.out] <;> first | done | rfl | exact congrArg (fun z => Ending.returned (Value.int .i64 z)) gd, by rw [← HS2.out]; exact RX.out.M, RX.out.t⟩
 have HD2 := Lib.hid (show (rd : Int) + 1 = D from by rw [← HDL.out]; rfl)
 clear HDL
 go_wp2_with fail
 go_ret
 exact ⟨by rw [← HD2.out] <;> first | done | rfl | exact congrArg (fun z => Ending.returned (Value.int .i64 z)) gd, by rw [← HS2.out]; exact RX.out.M, RX.out.t⟩

end Go.Proofs.YtikkmkomlajnfaaGreatDoor.En
end
