/-
  Layer 11: a machine's call of a helper. Conditions: those of each theorem.
-/
import Derived.Test.YtikkmkomlajnfaaGreatDoorWm01
import Derived.Test.YtikkmkomlajnfaaGreatDoorWm08
import Derived.Test.YtikkmkomlajnfaaGreatDoorWm07
set_option linter.unusedVariables false
set_option linter.unusedSimpArgs false
section
namespace Go.Proofs.YtikkmkomlajnfaaGreatDoor.En
set_option maxRecDepth 100000
set_option maxHeartbeats 16000000
open Go.RowKit
open Go.Proofs.YtikkmkomlajnfaaGreatDoor.Op (InstV insc insVal inss ins0 ins_at rightV right_is RightI Frm goesV writesV sourceV)

def ints (ms : List Int) : List Value := ms.map (Value.int .i64)
theorem ints_length (ms : List Int) : (ints ms).length = ms.length := by simp [ints]
theorem int_at {w : World} {A : Option Addr} {ms : List Int} (h : Sl w A (ints ms)) (hn : 0 < ms.length) : ∃ b o, A = some ⟨b, o, none⟩ ∧ ∀ k, k < ms.length → w.cell? ⟨b, o + k, none⟩ = some (.int .i64 (ms.getD k 0)) := by
 obtain ⟨b, o, e, hc⟩ := h (by rw [ints_length]; exact hn)
 rw [ints_length] at hc
 refine ⟨b, o, e, fun k hk => ?_⟩
 rw [hc k hk]
 simp [ints, List.getD_eq_getElem?_getD, List.getElem?_eq_getElem hk]

theorem tch_fresh {B : Nat → Prop} {a b : World} (h : Tch B a b) {p : Addr} (hp : a.heap.size ≤ p.block) (u : Value) : Tch B a (b.setCell p u) :=
 ⟨h.os, h.tape, h.output, by simpa [World.setCell] using h.size, fun i hi hn => (Below.heap_setCell b p u i (by rintro rfl; omega)).trans (h.block i hi hn)⟩
theorem sl_tch {B : Nat → Prop} {w w' : World} {A : Option Addr} {xs : List Value} (h : Sl w A xs) (k : Tch B w w') (hn : ∀ a, A = some a → ¬ B a.block) : Sl w' A xs := fun hp => by
 obtain ⟨b, o, e, hc⟩ := h hp
 refine ⟨b, o, e, fun j hj => ?_⟩
 have h1 := hc j hj
 have hb : b < w.heap.size := cell_lt h1
 have h2 := k.block b hb (hn _ e)
 rw [← h1]
 unfold World.cell?
 rw [h2]
theorem act_info : (Tryz.prog.info? 55).map (·.size) = some 7 := by kernel_rfl
theorem act_load {w : World} {q : Nat} {a : ActV} (h : Ob w q 55 (acc a)) : (loadVar 55 ⟨q, 0, none⟩).run Tryz.prog w = .ok (acVal a) w := by
 obtain ⟨d, hd⟩ := Option.isSome_iff_exists.1 (show (Tryz.prog.underlying 55).isSome = true by kernel_rfl)
 have hr : d.isRow = true := by
  have h1 : (Tryz.prog.underlying 55).map TypeDesc.isRow = some true := by kernel_rfl
  rw [hd] at h1
  exact Option.some.inj h1
 exact run_loadVar_mid w q 0 55 (acc a) d (fun j v hv => by rw [Nat.zero_add, h.cell, hv]) hd hr (by rw [act_info]; rfl)
theorem cell_tch {B : Nat → Prop} {w w' : World} {p : Addr} {v : Value} (k : Tch B w w') (h : w.cell? p = some v) (hn : ¬ B p.block) : w'.cell? p = some v := by
 have h2 := k.block p.block (cell_lt h) hn
 rw [← h]
 unfold World.cell?
 rw [h2]
/-- the state of a call -/
structure CSt (w0 w : World) (g gs q4 q5 : Nat) (ea eb : BitVec 64) (mV cV : Value) (S : StV) (r a : ActV) : Prop where
 M : MAt w g gs ea eb mV cV S
 o4 : Ob w q4 55 (acc r)
 o5 : Ob w q5 55 (acc a)
 t : Tch (Tg g gs) w0 w
 l4 : w0.heap.size ≤ q4
 l5 : w0.heap.size ≤ q5
 n : q4 ≠ q5
section
variable {w0 w w' : World} {g gs q4 q5 : Nat} {ea eb : BitVec 64} {mV cV : Value} {S : StV} {r a : ActV}
theorem CSt.g4 (h : CSt w0 w g gs q4 q5 ea eb mV cV S r a) : g ≠ q4 := h.M.o.ne_ h.o4 (by decide)
theorem CSt.g5 (h : CSt w0 w g gs q4 q5 ea eb mV cV S r a) : g ≠ q5 := h.M.o.ne_ h.o5 (by decide)
theorem CSt.s4 (h : CSt w0 w g gs q4 q5 ea eb mV cV S r a) : gs ≠ q4 := h.M.s.ne_ h.o4 (by decide)
theorem CSt.s5 (h : CSt w0 w g gs q4 q5 ea eb mV cV S r a) : gs ≠ q5 := h.M.s.ne_ h.o5 (by decide)
theorem CSt.below (h : CSt w0 w g gs q4 q5 ea eb mV cV S r a) (hb : Below w.heap.size w w') : CSt w0 w' g gs q4 q5 ea eb mV cV S r a :=
 ⟨h.M.below hb, h.o4.below hb h.o4.lt, h.o5.below hb h.o5.lt, h.t.trans (Tch.of_below hb), h.l4, h.l5, h.n⟩
theorem CSt.drew (h : CSt w0 w g gs q4 q5 ea eb mV cV S r a) : CSt w0 w.drew g gs q4 q5 ea eb mV cV S r a := h.below (below_drewN (Below.refl _ _) 1)
theorem CSt.mach (h : CSt w0 w g gs q4 q5 ea eb mV cV S r a) {S' : StV} {p : Addr} {v : Value} (hp : p.block = g) (hM : MAt (w.setCell p v) g gs ea eb mV cV S') : CSt w0 (w.setCell p v) g gs q4 q5 ea eb mV cV S' r a :=
 ⟨hM, h.o4.far (by rw [hp]; exact h.g4.symm) _, h.o5.far (by rw [hp]; exact h.g5.symm) _, h.t.setCell (Or.inl hp) _, h.l4, h.l5, h.n⟩
theorem CSt.setReg (h : CSt w0 w g gs q4 q5 ea eb mV cV S r a) {k : Nat} (hk : k < 8) (v : BitVec 64) : CSt w0 (w.setCell ⟨g, 5 + k, none⟩ (.int .u64 (uv v))) g gs q4 q5 ea eb mV cV { S with regs := upd S.regs k v } r a := h.mach (p := ⟨g, 5 + k, none⟩) rfl (h.M.setReg hk v)
theorem CSt.setSt (h : CSt w0 w g gs q4 q5 ea eb mV cV S r a) (v : Int) : CSt w0 (w.setCell ⟨g, 79, none⟩ (.int .i64 v)) g gs q4 q5 ea eb mV cV { S with st := v } r a := h.mach (p := ⟨g, 79, none⟩) rfl (h.M.setSt v)
theorem CSt.setPc (h : CSt w0 w g gs q4 q5 ea eb mV cV S r a) (v : Nat) : CSt w0 (w.setCell ⟨g, 77, none⟩ (.int .i64 v)) g gs q4 q5 ea eb mV cV { S with pc := v } r a := h.mach (p := ⟨g, 77, none⟩) rfl (h.M.setPc v)
theorem CSt.act (h : CSt w0 w g gs q4 q5 ea eb mV cV S r a) {a' : ActV} {p : Addr} {v : Value} (hp : p.block = q5) (ho : Ob (w.setCell p v) q5 55 (acc a')) : CSt w0 (w.setCell p v) g gs q4 q5 ea eb mV cV S r a' :=
 ⟨⟨h.M.o.far (by rw [hp]; exact h.g5) _, h.M.s.far (by rw [hp]; exact h.s5) _⟩, h.o4.far (by rw [hp]; exact h.n) _, ho, tch_fresh h.t (by rw [hp]; exact h.l5) _, h.l4, h.l5, h.n⟩
theorem CSt.setK (h : CSt w0 w g gs q4 q5 ea eb mV cV S r a) (v : Int) : CSt w0 (w.setCell ⟨q5, 0, none⟩ (.int .i64 v)) g gs q4 q5 ea eb mV cV S r { a with k := v } := h.act (p := ⟨q5, 0, none⟩) rfl (h.o5.set_ 0 _)
theorem CSt.setV (h : CSt w0 w g gs q4 q5 ea eb mV cV S r a) (v : BitVec 64) : CSt w0 (w.setCell ⟨q5, 6, none⟩ (.int .u64 (uv v))) g gs q4 q5 ea eb mV cV S r { a with v := v } := h.act (p := ⟨q5, 6, none⟩) rfl (h.o5.set_ 6 _)
theorem CSt.setVal (h : CSt w0 w g gs q4 q5 ea eb mV cV S r a) (v : BitVec 64) : CSt w0 (w.setCell ⟨q5, 5, none⟩ (.int .u64 (uv v))) g gs q4 q5 ea eb mV cV S r { a with val := v } := h.act (p := ⟨q5, 5, none⟩) rfl (h.o5.set_ 5 _)
theorem CSt.setMp (h : CSt w0 w g gs q4 q5 ea eb mV cV S r a) (v : Int) : CSt w0 (w.setCell ⟨q5, 2, none⟩ (.int .i64 v)) g gs q4 q5 ea eb mV cV S r { a with mp := v } := h.act (p := ⟨q5, 2, none⟩) rfl (h.o5.set_ 2 _)
theorem CSt.setOp (h : CSt w0 w g gs q4 q5 ea eb mV cV S r a) (v : Int) : CSt w0 (w.setCell ⟨q5, 3, none⟩ (.int .i64 v)) g gs q4 q5 ea eb mV cV S r { a with op := v } := h.act (p := ⟨q5, 3, none⟩) rfl (h.o5.set_ 3 _)
theorem CSt.setKey (h : CSt w0 w g gs q4 q5 ea eb mV cV S r a) (v : BitVec 64) : CSt w0 (w.setCell ⟨q5, 4, none⟩ (.int .u64 (uv v))) g gs q4 q5 ea eb mV cV S r { a with key := v } := h.act (p := ⟨q5, 4, none⟩) rfl (h.o5.set_ 4 _)
theorem CSt.counts (h : CSt w0 w g gs q4 q5 ea eb mV cV S r a) {ks : Nat → BitVec 64} (ho : Ob w' gs 146 (arr 16 S.words ++ (arr 16 ks ++ []))) (k : Only w w' gs) : CSt w0 w' g gs q4 q5 ea eb mV cV { S with counts := ks } r a :=
 ⟨⟨h.M.o.only k h.M.ne_, ho⟩, h.o4.only k h.s4.symm, h.o5.only k h.s5.symm, h.t.trans ((Tch.of_only k).mono fun _ e => Or.inr e), h.l4, h.l5, h.n⟩
end

theorem call_any (w : World) (g gs : Nat) (ea eb : BitVec 64) (mA : Option Addr) (nm cm : Nat) (cV : Value) (S : StV) (ms : List Int) (h : Nat) (hh : h < 7) (hn : nm = ms.length) (hpc : S.pc < 64) (hok : okC ms h S) (ht : Sg.Tab w) (hgt : ¬ Tg g gs 5) (hs : Sl w mA (ints ms)) (hap : ∀ a, mA = some a → ¬ Tg g gs a.block) (hM : MAt w g gs ea eb (.slice mA nm cm) cV S) :
 Calls Tryz.prog 60 #[.pointer (some ⟨g, 0, none⟩), .int .i64 h] w fun e w' => e = .returned (acVal (callA ms h S)) ∧ MAt w' g gs ea eb (.slice mA nm cm) cV (callS h S) ∧ Tch (Tg g gs) w w' := by
 obtain ⟨A, hA⟩ : ∃ A, callA ms h S = A := ⟨_, rfl⟩
 obtain ⟨S', hS'⟩ : ∃ S', callS h S = S' := ⟨_, rfl⟩
 rw [hA, hS']
 have HA := Lib.hid hA
 have HS := Lib.hid hS'
 have HOK := Lib.hid hok
 have HPC := Lib.hid hpc
 have HN := Lib.hid hn
 have HT := Lib.hid ht
 have HMS := Lib.hid hs
 have HGT := Lib.hid hgt
 have HAP := Lib.hid hap
 have HM := Lib.hid hM
 have HH := Lib.hid hh
 have B0 := Lib.hid (Below.refl w.heap.size w)
 clear hA hS' hok hpc hn ht hs hM hh hgt hap
 go_enter Tryz.func60, Tryz.ntmps60
 go_upto_region 1 with fail
 have O4 := Lib.hid (Ob.fresh w 55 [.int .i64 0, .int .i64 0, .int .i64 0, .int .i64 0, .int .u64 0, .int .u64 0, .int .u64 0])
 have B1 := Lib.hid (below_alloc (B0.out) (.cells #[.int .i64 0, .int .i64 0, .int .i64 0, .int .i64 0, .int .u64 0, .int .u64 0, .int .u64 0] 55))
 have Hq4 := Lib.hid (show w.heap.size ≤ w.heap.size by have := B0.out.size; omega)
 clear B0
 generalize (w.alloc (.cells #[.int .i64 0, .int .i64 0, .int .i64 0, .int .i64 0, .int .u64 0, .int .u64 0, .int .u64 0] 55)) = w1 at O4 B1 ⊢
 obtain ⟨q4, hq4⟩ : ∃ q4, w.heap.size = q4 := ⟨_, rfl⟩
 have Hq4 := Lib.hid (Nat.le_of_eq hq4)
 rw [hq4] at O4 ⊢
 clear hq4
 have pc1 : w1.cell? ⟨g, 77, none⟩ = some (.int .i64 S.pc) := (HM.out.below B1.out).pc_
 go_upto_region 2 with fail
 clear pc1
 have N45 := Lib.hid (show q4 ≠ w1.heap.size from Nat.ne_of_lt O4.out.lt)
 have O5 := Lib.hid (Ob.fresh w1 55 [.int .i64 1, .int .i64 S.pc, .int .i64 0, .int .i64 0, .int .u64 0, .int .u64 0, .int .u64 0])
 have O4b := Lib.hid (Ob.alloc (O4.out) (.cells #[.int .i64 1, .int .i64 S.pc, .int .i64 0, .int .i64 0, .int .u64 0, .int .u64 0, .int .u64 0] 55))
 have B2 := Lib.hid (below_alloc (B1.out) (.cells #[.int .i64 1, .int .i64 S.pc, .int .i64 0, .int .i64 0, .int .u64 0, .int .u64 0, .int .u64 0] 55))
 have Hq5 := Lib.hid (show w.heap.size ≤ w1.heap.size by have := B1.out.size; omega)
 clear B1 O4
 generalize (w1.alloc (.cells #[.int .i64 1, .int .i64 S.pc, .int .i64 0, .int .i64 0, .int .u64 0, .int .u64 0, .int .u64 0] 55)) = w2 at O5 O4b B2 ⊢
 obtain ⟨q5, hq5⟩ : ∃ q5, w1.heap.size = q5 := ⟨_, rfl⟩
 rw [hq5] at O5 N45 Hq5 ⊢
 clear hq5
 have C2 := Lib.hid (show CSt w w2 g gs q4 q5 ea eb (.slice mA nm cm) cV S ac0 ⟨1, S.pc, 0, 0, 0#64, 0#64, 0#64⟩ from ⟨HM.out.below B2.out, O4b.out, O5.out, Tch.of_below B2.out, Hq4.out, Hq5.out, N45.out⟩)
 have HAS := Lib.hid (Sg.asks_any w2 (h : Int) (HT.out.below B2.out))
 rw [Sg.hI_nat HH.out] at HAS
 clear O4b O5 Hq4 Hq5 N45 B2 HM
 by_cases h5 : h < 5
 · have had : Sg.adB h = true := by
    have hc : h = 0 ∨ h = 1 ∨ h = 2 ∨ h = 3 ∨ h = 4 := by omega
    rcases hc with rfl | rfl | rfl | rfl | rfl <;> rfl
   have has_ : Sg.asI h = (h : Int) := by
    have hc : h = 0 ∨ h = 1 ∨ h = 2 ∨ h = 3 ∨ h = 4 := by omega
    rcases hc with rfl | rfl | rfl | rfl | rfl <;> rfl
   rw [had, has_] at HAS
   clear had has_
   have hr1 := HOK.out.1 (by omega)
   obtain ⟨r1, hr1e⟩ : ∃ r1, (S.regs 1).toNat = r1 := ⟨_, rfl⟩
   have HR1 := Lib.hid hr1e
   rw [hr1e] at hr1
   have HA5 := Lib.hid (show (⟨2, S.pc, ms.getD r1 0, h, S.regs 2, if (h : Int) = 2 ∨ (h : Int) = 4 then S.regs 3 else 0#64, 0#64⟩ : ActV) = A from by rw [← HA.out, ← hr1e]; exact (if_pos (show (h : Int) < 5 by omega)).symm)
   have HS2 := Lib.hid (show ({ S with st := 1 } : StV) = S' from by rw [← HS.out]; exact (if_pos (show (h : Int) < 5 by omega)).symm)
   clear HA HS hr1e
   go_wp2_with fail
   refine HAS.out.mono ?_
   rintro e w3 ⟨rfl, b3⟩
   have C3 := Lib.hid (C2.out.below b3)
   clear b3 C2 HAS
   have y79 : w3.cell? ⟨g, 79, none⟩ = some (.int .i64 S.st) := C3.out.M.st_
   have zg := C3.out.M.o.frozen
   go_upto_region 5 with fail
   clear y79 zg
   have C4 := Lib.hid (C3.out.setSt 1)
   generalize w3.setCell ⟨g, 79, none⟩ (.int .i64 1) = w4 at C4 ⊢
   clear C3
   have y0 : w4.cell? ⟨q5, 0, none⟩ = some (.int .i64 1) := C4.out.o5.cell 0
   have z5 := C4.out.o5.frozen
   go_upto_region 6 with fail
   clear y0 z5
   have C5 := Lib.hid (C4.out.setK 2)
   generalize w4.setCell ⟨q5, 0, none⟩ (.int .i64 2) = w5 at C5 ⊢
   clear C4
   obtain ⟨bm, om, hmA, hmc⟩ := int_at HMS.out (by omega)
   have HM0 := Lib.hid (hmc r1 hr1)
   have HNB := Lib.hid (HAP.out _ hmA)
   subst hmA
   obtain ⟨mv, hmv⟩ : ∃ mv, ms.getD r1 0 = mv := ⟨_, rfl⟩
   rw [hmv] at HM0 HA5
   clear hmc hmv
   have gr1 : (r1 : Int) < (nm : Int) := by have := HN.out; omega
   have gr0 : (0 : Int) ≤ (r1 : Int) := by omega
   have gu : uv (S.regs 1) = (r1 : Int) := by rw [← HR1.out]; rfl
   clear hr1
   obtain ⟨wd, hwd⟩ : ∃ wd, w5.drew = wd := ⟨_, rfl⟩
   have CD := Lib.hid (hwd ▸ C5.out.drew)
   refine wp_region_held_drew (S := fun w' => (w'.cell? ⟨g, 2, none⟩ = some (.slice (some ⟨bm, om, none⟩) nm cm) ∧ w'.cell? ⟨g, 6, none⟩ = some (.int .u64 (uv (S.regs 1))) ∧ w'.cell? ⟨g, 7, none⟩ = some (.int .u64 (uv (S.regs 2))) ∧ w'.cell? ⟨bm, om + r1, none⟩ = some (.int .i64 mv))) (by kernel_rfl) (by rw [hwd]; exact ⟨CD.out.M.ms, CD.out.M.reg (r := 1) (by decide), CD.out.M.reg (r := 2) (by decide), cell_tch CD.out.t HM0.out HNB.out⟩) (fun hHeld => ?_)
   refine tkq 0 23 rfl (by kernel_rfl) (by rfl) hHeld (fun _ _ _ h => h) (by intro w' hSw; go_simp; try with_reducible rfl) ?_
   simp only [Act.put, spa, spb, spc]
   refine tkq 1 24 rfl (by kernel_rfl) (by rfl) hHeld (fun _ _ _ h => h) (by intro w' hSw; go_simp; try with_reducible rfl) ?_
   simp only [Act.put, spa, spb, spc]
   refine tkq 2 25 rfl (by kernel_rfl) (by rfl) hHeld (fun _ _ _ h => h) (by intro w' hSw; go_simp; try with_reducible rfl) ?_
   simp only [Act.put, spa, spb, spc]
   refine tkq 3 26 rfl (by kernel_rfl) (by rfl) hHeld (fun _ _ _ h => h) (by intro w' hSw; go_simp; try with_reducible rfl) ?_
   simp only [Act.put, spa, spb, spc]
   refine tkq 4 27 rfl (by kernel_rfl) (by rfl) hHeld (fun _ _ _ h => h) (by intro w' hSw; go_simp; try with_reducible rfl) ?_
   simp only [Act.put, spa, spb, spc]
   refine tkq 5 28 rfl (by kernel_rfl) (by rfl) hHeld (fun _ _ _ h => h) (by intro w' hSw; go_simp; try with_reducible rfl) ?_
   simp only [Act.put, spa, spb, spc]
   refine tkq 6 29 rfl (by kernel_rfl) (by rfl) hHeld (fun _ _ _ h => h) (by intro w' hSw; go_simp; try with_reducible rfl) ?_
   simp only [Act.put, spa, spb, spc]
   refine tkq 7 30 rfl (by kernel_rfl) (by rfl) hHeld (fun _ _ _ h => h) (by intro w' hSw; go_simp; try with_reducible rfl) ?_
   simp only [Act.put, spa, spb, spc]
   refine tkq 8 31 rfl (by kernel_rfl) (by rfl) hHeld (fun _ _ _ h => h) (by intro w' hSw; go_simp; try with_reducible rfl) ?_
   simp only [Act.put, spa, spb, spc]
   refine tkq 9 32 rfl (by kernel_rfl) (by rfl) hHeld (fun _ _ _ h => h) (by intro w' hSw; go_simp; try with_reducible rfl) ?_
   simp only [Act.put, spa, spb, spc]
   refine tkq 10 33 rfl (by kernel_rfl) (by rfl) hHeld (fun _ _ _ h => h) (by intro w' hSw; go_simp; try with_reducible rfl) ?_
   simp only [Act.put, spa, spb, spc]
   refine tkq 11 34 rfl (by kernel_rfl) (by rfl) hHeld (fun _ _ _ h => h) (by intro w' hSw; go_simp; try with_reducible rfl) ?_
   simp only [Act.put, spa, spb, spc]
   refine tkq 12 35 rfl (by kernel_rfl) (by rfl) hHeld (fun _ _ _ h => h) (by intro w' hSw; go_simp; try with_reducible rfl) ?_
   simp only [Act.put, spa, spb, spc]
   refine tkq 13 36 rfl (by kernel_rfl) (by rfl) hHeld (fun _ _ _ h => h) (by intro w' hSw; go_simp; try with_reducible rfl) ?_
   simp only [Act.put, spa, spb, spc]
   refine tkq 14 37 rfl (by kernel_rfl) (by rfl) hHeld (fun _ _ _ h => h) (by intro w' hSw; go_simp; try with_reducible rfl) ?_
   simp only [Act.put, spa, spb, spc]
   refine tkq 15 38 rfl (by kernel_rfl) (by rfl) hHeld (fun _ _ _ h => h) (by intro w' hSw; go_simp; try with_reducible rfl) ?_
   simp only [Act.put, spa, spb, spc]
   refine tkq 16 39 rfl (by kernel_rfl) (by rfl) hHeld (fun _ _ _ h => h) (by intro w' hSw; go_simp; try with_reducible rfl) ?_
   simp only [Act.put, spa, spb, spc]
   refine tkq 17 40 rfl (by kernel_rfl) (by rfl) hHeld (fun _ _ _ h => h) (by intro w' hSw; go_simp; try with_reducible rfl) ?_
   simp only [Act.put, spa, spb, spc]
   refine tkq 18 41 rfl (by kernel_rfl) (by rfl) hHeld (fun _ _ _ h => h) (by intro w' hSw; go_simp; try with_reducible rfl) ?_
   simp only [Act.put, spa, spb, spc]
   refine tkq 19 42 rfl (by kernel_rfl) (by rfl) hHeld (fun _ _ _ h => h) (by intro w' hSw; go_simp; try with_reducible rfl) ?_
   simp only [Act.put, spa, spb, spc]
   refine rdq 20 ⟨none, _, _, _, _, _⟩ (by kernel_rfl) rfl (fun K' hK => ?_)
   have y2 : wd.cell? ⟨q5, 2, none⟩ = some (.int .i64 0) := CD.out.o5.cell 2
   have y3 : wd.cell? ⟨q5, 3, none⟩ = some (.int .i64 0) := CD.out.o5.cell 3
   have y4 : wd.cell? ⟨q5, 4, none⟩ = some (.int .u64 0) := CD.out.o5.cell 4
   have y5 : wd.cell? ⟨q5, 5, none⟩ = some (.int .u64 0) := CD.out.o5.cell 5
   have z5 := CD.out.o5.frozen
   go_simp
   have C6 := Lib.hid ((((CD.out.setMp mv).setOp (h : Int)).setKey (S.regs 2)).setVal 0#64)
   try simp only [uv_zero] at C6
   refine hK.out _ _ ⟨C6.out.M.ms, C6.out.M.reg (r := 1) (by decide), C6.out.M.reg (r := 2) (by decide), cell_tch C6.out.t HM0.out HNB.out⟩ (fun hHeld => ?_)
   clear hK K'
   clear hHeld y2 y3 y4 y5 z5
   refine wpAnyH_done (by kernel_rfl) ?_ _
   clear hwd hHeld
   have C7 := Lib.hid (show CSt w ((((wd.setCell ⟨q5, 2, none⟩ (.int .i64 mv)).setCell ⟨q5, 3, none⟩ (.int .i64 (h : Int))).setCell ⟨q5, 4, none⟩ (.int .u64 (uv (S.regs 2)))).setCell ⟨q5, 5, none⟩ (.int .u64 0)) g gs q4 q5 ea eb (.slice (some ⟨bm, om, none⟩) nm cm) cV { S with st := 1 } ac0 ⟨2, S.pc, mv, h, S.regs 2, 0#64, 0#64⟩ from C6.out)
   clear C6 CD C5
   generalize ((((wd.setCell ⟨q5, 2, none⟩ (.int .i64 mv)).setCell ⟨q5, 3, none⟩ (.int .i64 (h : Int))).setCell ⟨q5, 4, none⟩ (.int .u64 (uv (S.regs 2)))).setCell ⟨q5, 5, none⟩ (.int .u64 0)) = w6 at C7 ⊢
   have HAR := Lib.hid (Sg.args_any w6 (h : Int) (Sg.Tab.tch HT.out C7.out.t HGT.out))
   rw [Sg.hI_nat HH.out] at HAR
   obtain ⟨nw, hnw⟩ : ∃ nw, (Sg.argsL h).length = nw := ⟨_, rfl⟩
   rw [hnw] at HAR
   go_wp2_with fail
   refine HAR.out.mono ?_
   rintro e w7 ⟨v, rfl, hown, b7⟩
   obtain ⟨Av, cv, hv, _, _, _, _⟩ := own_form hown
   subst hv
   have C8 := Lib.hid (C7.out.below b7)
   clear b7 hown C7 HAR
   by_cases hv : h = 2 ∨ h = 4
   · have hn3 : nw = 3 := by rw [← hnw]; rcases hv with rfl | rfl <;> rfl
     subst hn3
     clear hnw
     have HA2 := Lib.hid (show (⟨2, S.pc, mv, h, S.regs 2, S.regs 3, 0#64⟩ : ActV) = A from by rw [← HA5.out]; congr 1; exact (if_pos (by omega)).symm)
     clear HA5
     have y3 := C8.out.M.reg (r := 3) (by decide)
     have x5 : w7.cell? ⟨q5, 5, none⟩ = some (.int .u64 0) := C8.out.o5.cell 5
     have z5 := C8.out.o5.frozen
     go_upto_region 9 with fail
     clear y3 x5 z5
     have C8 := Lib.hid (C8.out.setVal (S.regs 3))
     generalize w7.setCell ⟨q5, 5, none⟩ (.int .u64 (uv (S.regs 3))) = w8 at C8 ⊢
     have xo50 : w8.cell? ⟨q5, 0, none⟩ = some (.int .i64 (2)) := C8.out.o5.cell 0
     have xo51 : w8.cell? ⟨q5, 1, none⟩ = some (.int .i64 (S.pc)) := C8.out.o5.cell 1
     have xo52 : w8.cell? ⟨q5, 2, none⟩ = some (.int .i64 (mv)) := C8.out.o5.cell 2
     have xo53 : w8.cell? ⟨q5, 3, none⟩ = some (.int .i64 ((h : Int))) := C8.out.o5.cell 3
     have xo54 : w8.cell? ⟨q5, 4, none⟩ = some (.int .u64 (uv (S.regs 2))) := C8.out.o5.cell 4
     have xo55 : w8.cell? ⟨q5, 5, none⟩ = some (.int .u64 (uv (S.regs 3))) := C8.out.o5.cell 5
     have xo56 : w8.cell? ⟨q5, 6, none⟩ = some (.int .u64 0) := C8.out.o5.cell 6
     have xo40 : w8.cell? ⟨q4, 0, none⟩ = some (.int .i64 0) := C8.out.o4.cell 0
     have xo41 : w8.cell? ⟨q4, 1, none⟩ = some (.int .i64 0) := C8.out.o4.cell 1
     have xo42 : w8.cell? ⟨q4, 2, none⟩ = some (.int .i64 0) := C8.out.o4.cell 2
     have xo43 : w8.cell? ⟨q4, 3, none⟩ = some (.int .i64 0) := C8.out.o4.cell 3
     have xo44 : w8.cell? ⟨q4, 4, none⟩ = some (.int .u64 0) := C8.out.o4.cell 4
     have xo45 : w8.cell? ⟨q4, 5, none⟩ = some (.int .u64 0) := C8.out.o4.cell 5
     have xo46 : w8.cell? ⟨q4, 6, none⟩ = some (.int .u64 0) := C8.out.o4.cell 6
     have z4 := C8.out.o4.frozen
     go_wp2_with fail
     have OF := Lib.hid (show Ob (((((((w8.setCell ⟨q4, 0, none⟩ (.int .i64 (2))).setCell ⟨q4, 1, none⟩ (.int .i64 (S.pc))).setCell ⟨q4, 2, none⟩ (.int .i64 (mv))).setCell ⟨q4, 3, none⟩ (.int .i64 ((h : Int)))).setCell ⟨q4, 4, none⟩ (.int .u64 (uv (S.regs 2)))).setCell ⟨q4, 5, none⟩ (.int .u64 (uv (S.regs 3)))).setCell ⟨q4, 6, none⟩ (.int .u64 (uv 0#64))) q4 55 (acc ⟨2, S.pc, mv, (h : Int), (S.regs 2), (S.regs 3), 0#64⟩) from ((((((C8.out.o4.set_ 0 _).set_ 1 _).set_ 2 _).set_ 3 _).set_ 4 _).set_ 5 _).set_ 6 _)
     have MF := Lib.hid (show MAt (((((((w8.setCell ⟨q4, 0, none⟩ (.int .i64 (2))).setCell ⟨q4, 1, none⟩ (.int .i64 (S.pc))).setCell ⟨q4, 2, none⟩ (.int .i64 (mv))).setCell ⟨q4, 3, none⟩ (.int .i64 ((h : Int)))).setCell ⟨q4, 4, none⟩ (.int .u64 (uv (S.regs 2)))).setCell ⟨q4, 5, none⟩ (.int .u64 (uv (S.regs 3)))).setCell ⟨q4, 6, none⟩ (.int .u64 (uv 0#64))) g gs ea eb (.slice (some ⟨bm, om, none⟩) nm cm) cV _ from ⟨(((((((C8.out.M.o.far (p := ⟨q4, 0, none⟩) C8.out.g4 _).far (p := ⟨q4, 1, none⟩) C8.out.g4 _).far (p := ⟨q4, 2, none⟩) C8.out.g4 _).far (p := ⟨q4, 3, none⟩) C8.out.g4 _).far (p := ⟨q4, 4, none⟩) C8.out.g4 _).far (p := ⟨q4, 5, none⟩) C8.out.g4 _).far (p := ⟨q4, 6, none⟩) C8.out.g4 _), (((((((C8.out.M.s.far (p := ⟨q4, 0, none⟩) C8.out.s4 _).far (p := ⟨q4, 1, none⟩) C8.out.s4 _).far (p := ⟨q4, 2, none⟩) C8.out.s4 _).far (p := ⟨q4, 3, none⟩) C8.out.s4 _).far (p := ⟨q4, 4, none⟩) C8.out.s4 _).far (p := ⟨q4, 5, none⟩) C8.out.s4 _).far (p := ⟨q4, 6, none⟩) C8.out.s4 _)⟩)
     have TF := Lib.hid (show Tch (Tg g gs) w (((((((w8.setCell ⟨q4, 0, none⟩ (.int .i64 (2))).setCell ⟨q4, 1, none⟩ (.int .i64 (S.pc))).setCell ⟨q4, 2, none⟩ (.int .i64 (mv))).setCell ⟨q4, 3, none⟩ (.int .i64 ((h : Int)))).setCell ⟨q4, 4, none⟩ (.int .u64 (uv (S.regs 2)))).setCell ⟨q4, 5, none⟩ (.int .u64 (uv (S.regs 3)))).setCell ⟨q4, 6, none⟩ (.int .u64 (uv 0#64))) from (tch_fresh (tch_fresh (tch_fresh (tch_fresh (tch_fresh (tch_fresh (tch_fresh C8.out.t (p := ⟨q4, 0, none⟩) C8.out.l4 _) (p := ⟨q4, 1, none⟩) C8.out.l4 _) (p := ⟨q4, 2, none⟩) C8.out.l4 _) (p := ⟨q4, 3, none⟩) C8.out.l4 _) (p := ⟨q4, 4, none⟩) C8.out.l4 _) (p := ⟨q4, 5, none⟩) C8.out.l4 _) (p := ⟨q4, 6, none⟩) C8.out.l4 _))
     try simp only [uv_zero] at OF MF TF
     generalize (((((((w8.setCell ⟨q4, 0, none⟩ (.int .i64 (2))).setCell ⟨q4, 1, none⟩ (.int .i64 (S.pc))).setCell ⟨q4, 2, none⟩ (.int .i64 (mv))).setCell ⟨q4, 3, none⟩ (.int .i64 ((h : Int)))).setCell ⟨q4, 4, none⟩ (.int .u64 (uv (S.regs 2)))).setCell ⟨q4, 5, none⟩ (.int .u64 (uv (S.regs 3)))).setCell ⟨q4, 6, none⟩ (.int .u64 0)) = wf at OF MF TF ⊢
     have LR : (loadVar 55 ⟨q4, 0, none⟩).run Tryz.prog wf = .ok (acVal ⟨2, S.pc, mv, (h : Int), (S.regs 2), (S.regs 3), 0#64⟩) wf := act_load OF.out
     exact bodyPost_ret (v := acVal ⟨2, S.pc, mv, (h : Int), (S.regs 2), (S.regs 3), 0#64⟩) (results_cell Tryz.results60 rfl LR) rfl ⟨by rw [← HA2.out], by rw [← HS2.out]; exact MF.out, TF.out⟩
   have hn2 : nw = 2 := by
    have hc : h = 0 ∨ h = 1 ∨ h = 3 := by omega
    rw [← hnw]; rcases hc with rfl | rfl | rfl <;> rfl
   subst hn2
   clear hnw
   have HA2 := Lib.hid (show (⟨2, S.pc, mv, h, S.regs 2, 0#64, 0#64⟩ : ActV) = A from by rw [← HA5.out]; congr 1; exact (if_neg (by omega)).symm)
   clear HA5
   obtain ⟨w8, hw8⟩ : ∃ w8, w7 = w8 := ⟨_, rfl⟩
   subst hw8
   have xo50 : w7.cell? ⟨q5, 0, none⟩ = some (.int .i64 (2)) := C8.out.o5.cell 0
   have xo51 : w7.cell? ⟨q5, 1, none⟩ = some (.int .i64 (S.pc)) := C8.out.o5.cell 1
   have xo52 : w7.cell? ⟨q5, 2, none⟩ = some (.int .i64 (mv)) := C8.out.o5.cell 2
   have xo53 : w7.cell? ⟨q5, 3, none⟩ = some (.int .i64 ((h : Int))) := C8.out.o5.cell 3
   have xo54 : w7.cell? ⟨q5, 4, none⟩ = some (.int .u64 (uv (S.regs 2))) := C8.out.o5.cell 4
   have xo55 : w7.cell? ⟨q5, 5, none⟩ = some (.int .u64 0) := C8.out.o5.cell 5
   have xo56 : w7.cell? ⟨q5, 6, none⟩ = some (.int .u64 0) := C8.out.o5.cell 6
   have xo40 : w7.cell? ⟨q4, 0, none⟩ = some (.int .i64 0) := C8.out.o4.cell 0
   have xo41 : w7.cell? ⟨q4, 1, none⟩ = some (.int .i64 0) := C8.out.o4.cell 1
   have xo42 : w7.cell? ⟨q4, 2, none⟩ = some (.int .i64 0) := C8.out.o4.cell 2
   have xo43 : w7.cell? ⟨q4, 3, none⟩ = some (.int .i64 0) := C8.out.o4.cell 3
   have xo44 : w7.cell? ⟨q4, 4, none⟩ = some (.int .u64 0) := C8.out.o4.cell 4
   have xo45 : w7.cell? ⟨q4, 5, none⟩ = some (.int .u64 0) := C8.out.o4.cell 5
   have xo46 : w7.cell? ⟨q4, 6, none⟩ = some (.int .u64 0) := C8.out.o4.cell 6
   have z4 := C8.out.o4.frozen
   go_wp2_with fail
   have OF := Lib.hid (show Ob (((((((w7.setCell ⟨q4, 0, none⟩ (.int .i64 (2))).setCell ⟨q4, 1, none⟩ (.int .i64 (S.pc))).setCell ⟨q4, 2, none⟩ (.int .i64 (mv))).setCell ⟨q4, 3, none⟩ (.int .i64 ((h : Int)))).setCell ⟨q4, 4, none⟩ (.int .u64 (uv (S.regs 2)))).setCell ⟨q4, 5, none⟩ (.int .u64 (uv 0#64))).setCell ⟨q4, 6, none⟩ (.int .u64 (uv 0#64))) q4 55 (acc ⟨2, S.pc, mv, (h : Int), (S.regs 2), 0#64, 0#64⟩) from ((((((C8.out.o4.set_ 0 _).set_ 1 _).set_ 2 _).set_ 3 _).set_ 4 _).set_ 5 _).set_ 6 _)
   have MF := Lib.hid (show MAt (((((((w7.setCell ⟨q4, 0, none⟩ (.int .i64 (2))).setCell ⟨q4, 1, none⟩ (.int .i64 (S.pc))).setCell ⟨q4, 2, none⟩ (.int .i64 (mv))).setCell ⟨q4, 3, none⟩ (.int .i64 ((h : Int)))).setCell ⟨q4, 4, none⟩ (.int .u64 (uv (S.regs 2)))).setCell ⟨q4, 5, none⟩ (.int .u64 (uv 0#64))).setCell ⟨q4, 6, none⟩ (.int .u64 (uv 0#64))) g gs ea eb (.slice (some ⟨bm, om, none⟩) nm cm) cV _ from ⟨(((((((C8.out.M.o.far (p := ⟨q4, 0, none⟩) C8.out.g4 _).far (p := ⟨q4, 1, none⟩) C8.out.g4 _).far (p := ⟨q4, 2, none⟩) C8.out.g4 _).far (p := ⟨q4, 3, none⟩) C8.out.g4 _).far (p := ⟨q4, 4, none⟩) C8.out.g4 _).far (p := ⟨q4, 5, none⟩) C8.out.g4 _).far (p := ⟨q4, 6, none⟩) C8.out.g4 _), (((((((C8.out.M.s.far (p := ⟨q4, 0, none⟩) C8.out.s4 _).far (p := ⟨q4, 1, none⟩) C8.out.s4 _).far (p := ⟨q4, 2, none⟩) C8.out.s4 _).far (p := ⟨q4, 3, none⟩) C8.out.s4 _).far (p := ⟨q4, 4, none⟩) C8.out.s4 _).far (p := ⟨q4, 5, none⟩) C8.out.s4 _).far (p := ⟨q4, 6, none⟩) C8.out.s4 _)⟩)
   have TF := Lib.hid (show Tch (Tg g gs) w (((((((w7.setCell ⟨q4, 0, none⟩ (.int .i64 (2))).setCell ⟨q4, 1, none⟩ (.int .i64 (S.pc))).setCell ⟨q4, 2, none⟩ (.int .i64 (mv))).setCell ⟨q4, 3, none⟩ (.int .i64 ((h : Int)))).setCell ⟨q4, 4, none⟩ (.int .u64 (uv (S.regs 2)))).setCell ⟨q4, 5, none⟩ (.int .u64 (uv 0#64))).setCell ⟨q4, 6, none⟩ (.int .u64 (uv 0#64))) from (tch_fresh (tch_fresh (tch_fresh (tch_fresh (tch_fresh (tch_fresh (tch_fresh C8.out.t (p := ⟨q4, 0, none⟩) C8.out.l4 _) (p := ⟨q4, 1, none⟩) C8.out.l4 _) (p := ⟨q4, 2, none⟩) C8.out.l4 _) (p := ⟨q4, 3, none⟩) C8.out.l4 _) (p := ⟨q4, 4, none⟩) C8.out.l4 _) (p := ⟨q4, 5, none⟩) C8.out.l4 _) (p := ⟨q4, 6, none⟩) C8.out.l4 _))
   try simp only [uv_zero] at OF MF TF
   generalize (((((((w7.setCell ⟨q4, 0, none⟩ (.int .i64 (2))).setCell ⟨q4, 1, none⟩ (.int .i64 (S.pc))).setCell ⟨q4, 2, none⟩ (.int .i64 (mv))).setCell ⟨q4, 3, none⟩ (.int .i64 ((h : Int)))).setCell ⟨q4, 4, none⟩ (.int .u64 (uv (S.regs 2)))).setCell ⟨q4, 5, none⟩ (.int .u64 0)).setCell ⟨q4, 6, none⟩ (.int .u64 0)) = wf at OF MF TF ⊢
   have LR : (loadVar 55 ⟨q4, 0, none⟩).run Tryz.prog wf = .ok (acVal ⟨2, S.pc, mv, (h : Int), (S.regs 2), 0#64, 0#64⟩) wf := act_load OF.out
   exact bodyPost_ret (v := acVal ⟨2, S.pc, mv, (h : Int), (S.regs 2), 0#64, 0#64⟩) (results_cell Tryz.results60 rfl LR) rfl ⟨by rw [← HA2.out], by rw [← HS2.out]; exact MF.out, TF.out⟩
 have hc : h = 5 ∨ h = 6 := by have := HH.out; omega
 rcases hc with rfl | rfl
 · rw [show Sg.adB 5 = false from rfl] at HAS
   go_wp2_with fail
   refine HAS.out.mono ?_
   rintro e w3 ⟨rfl, b3⟩
   have C3 := Lib.hid (C2.out.below b3)
   clear b3 C2 HAS
   have hr1 := HOK.out.2 rfl
   obtain ⟨j, hje⟩ : ∃ j, (S.regs 1).toNat = j := ⟨_, rfl⟩
   rw [hje] at hr1
   have HJ16 := Lib.hid hr1
   have gx1 : IntKind.i64.wrap (uv (S.regs 1)) = (j : Int) := by rw [IntKind.wrap_i64]; unfold uv; omega
   have HA2 := Lib.hid (show (⟨1, S.pc, 0, 0, 0#64, 0#64, S.counts j + 1#64⟩ : ActV) = A from by rw [← HA.out, ← hje]; rfl)
   have HS2 := Lib.hid (show ({ S with counts := upd S.counts j (S.counts j + 1#64), regs := upd S.regs 0 (S.counts j + 1#64), pc := S.pc + 1 } : StV) = S' from by rw [← HS.out, ← hje]; rfl)
   clear HA HS hje hr1
   go_upto_region 11 with fail
   obtain ⟨wd, hwd⟩ : ∃ wd, w3.drew = wd := ⟨_, rfl⟩
   have CD := Lib.hid (hwd ▸ C3.out.drew)
   clear C3
   refine wp_region_held_drew (S := fun w' => (w'.cell? ⟨g, 4, none⟩ = some (.pointer (some ⟨gs, 0, none⟩)) ∧ w'.cell? ⟨g, 6, none⟩ = some (.int .u64 (uv (S.regs 1))))) (by kernel_rfl) (by rw [hwd]; exact ⟨CD.out.M.sp, CD.out.M.reg (r := 1) (by decide)⟩) (fun hHeld => ?_)
   refine tkq 0 58 rfl (by kernel_rfl) (by rfl) hHeld (fun _ _ _ h => h) (by intro w' hSw; go_simp; try with_reducible rfl) ?_
   simp only [Act.put, spa, spb, spc]
   refine tkq 1 59 rfl (by kernel_rfl) (by rfl) hHeld (fun _ _ _ h => h) (by intro w' hSw; go_simp; try with_reducible rfl) ?_
   simp only [Act.put, spa, spb, spc]
   refine tkq 2 60 rfl (by kernel_rfl) (by rfl) hHeld (fun _ _ _ h => h) (by intro w' hSw; go_simp; try with_reducible rfl) ?_
   simp only [Act.put, spa, spb, spc]
   refine tkq 3 61 rfl (by kernel_rfl) (by rfl) hHeld (fun _ _ _ h => h) (by intro w' hSw; go_simp; try with_reducible rfl) ?_
   simp only [Act.put, spa, spb, spc]
   refine tkq 4 62 rfl (by kernel_rfl) (by rfl) hHeld (fun _ _ _ h => h) (by intro w' hSw; go_simp; try with_reducible rfl) ?_
   simp only [Act.put, spa, spb, spc]
   refine tkq 5 63 rfl (by kernel_rfl) (by rfl) hHeld (fun _ _ _ h => h) (by intro w' hSw; go_simp; try with_reducible rfl) ?_
   simp only [Act.put, spa, spb, spc]
   refine tkq 6 64 rfl (by kernel_rfl) (by rfl) hHeld (fun _ _ _ h => h) (by intro w' hSw; go_simp; try with_reducible rfl) ?_
   simp only [Act.put, spa, spb, spc]
   refine tkq 7 65 rfl (by kernel_rfl) (by rfl) hHeld (fun _ _ _ h => h) (by intro w' hSw; go_simp; try with_reducible rfl) ?_
   simp only [Act.put, spa, spb, spc]
   refine tkq 8 66 rfl (by kernel_rfl) (by rfl) hHeld (fun _ _ _ h => h) (by intro w' hSw; go_simp; try with_reducible rfl) ?_
   simp only [Act.put, spa, spb, spc]
   refine tkq 9 67 rfl (by kernel_rfl) (by rfl) hHeld (fun _ _ _ h => h) (by intro w' hSw; go_simp; try with_reducible rfl) ?_
   simp only [Act.put, spa, spb, spc]
   refine tkq 10 68 rfl (by kernel_rfl) (by rfl) hHeld (fun _ _ _ h => h) (by intro w' hSw; go_simp; try with_reducible rfl) ?_
   simp only [Act.put, spa, spb, spc]
   refine tkq 11 69 rfl (by kernel_rfl) (by rfl) hHeld (fun _ _ _ h => h) (by intro w' hSw; go_simp; try with_reducible rfl) ?_
   simp only [Act.put, spa, spb, spc]
   refine rdq 12 ⟨some 70, _, _, _, _, _⟩ (by kernel_rfl) rfl (fun K' hK => ?_)
   go_simp
   refine (Sc.mark_in gs 16 j 146 (arr 16 S.words) [] S.counts HJ16.out (arr_length 16 S.words).symm wd CD.out.M.s).mono ?_
   rintro e wx ⟨rfl, ho, hk⟩
   have CX := Lib.hid (CD.out.counts (ks := upd S.counts j (S.counts j + 1#64)) ho hk)
   clear ho hk
   refine hK.out _ _ ⟨CX.out.M.sp, CX.out.M.reg (r := 1) (by decide)⟩ (fun hHeld => ?_)
   clear hK K'
   refine tkq 13 57 rfl (by kernel_rfl) (by rfl) hHeld (fun _ _ _ h => h) (by intro w' hSw; go_simp; try with_reducible rfl) ?_
   simp only [Act.put, spa, spb, spc]
   refine tkq 14 71 rfl (by kernel_rfl) (by rfl) hHeld (fun _ _ _ h => h) (by intro w' hSw; go_simp; try with_reducible rfl) ?_
   simp only [Act.put, spa, spb, spc]
   refine tkq 15 72 rfl (by kernel_rfl) (by rfl) hHeld (fun _ _ _ h => h) (by intro w' hSw; go_simp; try with_reducible rfl) ?_
   simp only [Act.put, spa, spb, spc]
   refine tkq 16 73 rfl (by kernel_rfl) (by rfl) hHeld (fun _ _ _ h => h) (by intro w' hSw; go_simp; try with_reducible rfl) ?_
   simp only [Act.put, spa, spb, spc]
   refine rdq 17 ⟨none, _, _, _, _, _⟩ (by kernel_rfl) rfl (fun K' hK => ?_)
   have x6 : wx.cell? ⟨q5, 6, none⟩ = some (.int .u64 0) := CX.out.o5.cell 6
   have z5 := CX.out.o5.frozen
   go_simp
   have CY := Lib.hid (CX.out.setV (S.counts j + 1#64))
   refine hK.out _ _ ⟨CY.out.M.sp, CY.out.M.reg (r := 1) (by decide)⟩ (fun hHeld => ?_)
   clear hK K'
   clear hHeld x6 z5
   refine wpAnyH_done (by kernel_rfl) ?_ _
   clear hwd CD CX
   generalize wx.setCell ⟨q5, 6, none⟩ (.int .u64 (uv (S.counts j + 1#64))) = w5 at CY ⊢
   go_upto_region 12 with fail
   obtain ⟨wd, hwd⟩ : ∃ wd, w5.drew = wd := ⟨_, rfl⟩
   have CD := Lib.hid (hwd ▸ CY.out.drew)
   clear CY
   refine wp_region_held_drew (S := fun w' => (w'.cell? ⟨q5, 6, none⟩ = some (.int .u64 (uv (S.counts j + 1#64))))) (by kernel_rfl) (hwd ▸ CD.out.o5.cell 6) (fun hHeld => ?_)
   refine tkq 0 74 rfl (by kernel_rfl) (by rfl) hHeld (fun _ _ _ h => h) (by intro w' hSw; go_simp; try with_reducible rfl) ?_
   simp only [Act.put, spa, spb, spc]
   refine tkq 1 75 rfl (by kernel_rfl) (by rfl) hHeld (fun _ _ _ h => h) (by intro w' hSw; go_simp; try with_reducible rfl) ?_
   simp only [Act.put, spa, spb, spc]
   refine tkq 2 76 rfl (by kernel_rfl) (by rfl) hHeld (fun _ _ _ h => h) (by intro w' hSw; go_simp; try with_reducible rfl) ?_
   simp only [Act.put, spa, spb, spc]
   refine tkq 3 77 rfl (by kernel_rfl) (by rfl) hHeld (fun _ _ _ h => h) (by intro w' hSw; go_simp; try with_reducible rfl) ?_
   simp only [Act.put, spa, spb, spc]
   refine tkq 4 78 rfl (by kernel_rfl) (by rfl) hHeld (fun _ _ _ h => h) (by intro w' hSw; go_simp; try with_reducible rfl) ?_
   simp only [Act.put, spa, spb, spc]
   refine tkq 5 79 rfl (by kernel_rfl) (by rfl) hHeld (fun _ _ _ h => h) (by intro w' hSw; go_simp; try with_reducible rfl) ?_
   simp only [Act.put, spa, spb, spc]
   refine rdq 6 ⟨none, _, _, _, _, _⟩ (by kernel_rfl) rfl (fun K' hK => ?_)
   have r0 : wd.cell? ⟨g, 5, none⟩ = some (.int .u64 (uv (S.regs 0))) := CD.out.M.reg (r := 0) (by decide)
   have zg := CD.out.M.o.frozen
   go_simp
   have CY := Lib.hid (show CSt w (wd.setCell ⟨g, 5, none⟩ (.int .u64 (uv (S.counts j + 1#64)))) g gs q4 q5 ea eb (.slice mA nm cm) cV _ _ _ from CD.out.setReg (k := 0) (by decide) (S.counts j + 1#64))
   refine hK.out _ _ (CY.out.o5.cell 6) (fun hHeld => ?_)
   clear hK K'
   clear hHeld r0 zg
   refine wpAnyH_done (by kernel_rfl) ?_ _
   clear hwd CD
   generalize wd.setCell ⟨g, 5, none⟩ (.int .u64 (uv (S.counts j + 1#64))) = w7 at CY ⊢
   have gpc : wrap64 ((S.pc : Int) + 1) = ((S.pc + 1 : Nat) : Int) := by have := HPC.out; unfold wrap64; push_cast; omega
   have y77 : w7.cell? ⟨g, 77, none⟩ = some (.int .i64 S.pc) := CY.out.M.pc_
   have zg := CY.out.M.o.frozen
   go_upto_region 16 with fail
   clear y77 zg
   have CP := Lib.hid (CY.out.setPc (S.pc + 1))
   push_cast at CP
   first
   | generalize w7.setCell ⟨g, 77, none⟩ (.int .i64 ((S.pc : Int) + 1)) = wp at CP ⊢
   | (rw [gpc]; push_cast; generalize w7.setCell ⟨g, 77, none⟩ (.int .i64 ((S.pc : Int) + 1)) = wp at CP ⊢)
   have xo50 : wp.cell? ⟨q5, 0, none⟩ = some (.int .i64 (1)) := CP.out.o5.cell 0
   have xo51 : wp.cell? ⟨q5, 1, none⟩ = some (.int .i64 (S.pc)) := CP.out.o5.cell 1
   have xo52 : wp.cell? ⟨q5, 2, none⟩ = some (.int .i64 (0)) := CP.out.o5.cell 2
   have xo53 : wp.cell? ⟨q5, 3, none⟩ = some (.int .i64 (0)) := CP.out.o5.cell 3
   have xo54 : wp.cell? ⟨q5, 4, none⟩ = some (.int .u64 0) := CP.out.o5.cell 4
   have xo55 : wp.cell? ⟨q5, 5, none⟩ = some (.int .u64 0) := CP.out.o5.cell 5
   have xo56 : wp.cell? ⟨q5, 6, none⟩ = some (.int .u64 (uv (S.counts j + 1#64))) := CP.out.o5.cell 6
   have xo40 : wp.cell? ⟨q4, 0, none⟩ = some (.int .i64 0) := CP.out.o4.cell 0
   have xo41 : wp.cell? ⟨q4, 1, none⟩ = some (.int .i64 0) := CP.out.o4.cell 1
   have xo42 : wp.cell? ⟨q4, 2, none⟩ = some (.int .i64 0) := CP.out.o4.cell 2
   have xo43 : wp.cell? ⟨q4, 3, none⟩ = some (.int .i64 0) := CP.out.o4.cell 3
   have xo44 : wp.cell? ⟨q4, 4, none⟩ = some (.int .u64 0) := CP.out.o4.cell 4
   have xo45 : wp.cell? ⟨q4, 5, none⟩ = some (.int .u64 0) := CP.out.o4.cell 5
   have xo46 : wp.cell? ⟨q4, 6, none⟩ = some (.int .u64 0) := CP.out.o4.cell 6
   have z4 := CP.out.o4.frozen
   go_wp2_with fail
   have OF := Lib.hid (show Ob (((((((wp.setCell ⟨q4, 0, none⟩ (.int .i64 (1))).setCell ⟨q4, 1, none⟩ (.int .i64 (S.pc))).setCell ⟨q4, 2, none⟩ (.int .i64 (0))).setCell ⟨q4, 3, none⟩ (.int .i64 (0))).setCell ⟨q4, 4, none⟩ (.int .u64 (uv 0#64))).setCell ⟨q4, 5, none⟩ (.int .u64 (uv 0#64))).setCell ⟨q4, 6, none⟩ (.int .u64 (uv (S.counts j + 1#64)))) q4 55 (acc ⟨1, S.pc, 0, 0, 0#64, 0#64, (S.counts j + 1#64)⟩) from ((((((CP.out.o4.set_ 0 _).set_ 1 _).set_ 2 _).set_ 3 _).set_ 4 _).set_ 5 _).set_ 6 _)
   have MF := Lib.hid (show MAt (((((((wp.setCell ⟨q4, 0, none⟩ (.int .i64 (1))).setCell ⟨q4, 1, none⟩ (.int .i64 (S.pc))).setCell ⟨q4, 2, none⟩ (.int .i64 (0))).setCell ⟨q4, 3, none⟩ (.int .i64 (0))).setCell ⟨q4, 4, none⟩ (.int .u64 (uv 0#64))).setCell ⟨q4, 5, none⟩ (.int .u64 (uv 0#64))).setCell ⟨q4, 6, none⟩ (.int .u64 (uv (S.counts j + 1#64)))) g gs ea eb (.slice mA nm cm) cV _ from ⟨(((((((CP.out.M.o.far (p := ⟨q4, 0, none⟩) CP.out.g4 _).far (p := ⟨q4, 1, none⟩) CP.out.g4 _).far (p := ⟨q4, 2, none⟩) CP.out.g4 _).far (p := ⟨q4, 3, none⟩) CP.out.g4 _).far (p := ⟨q4, 4, none⟩) CP.out.g4 _).far (p := ⟨q4, 5, none⟩) CP.out.g4 _).far (p := ⟨q4, 6, none⟩) CP.out.g4 _), (((((((CP.out.M.s.far (p := ⟨q4, 0, none⟩) CP.out.s4 _).far (p := ⟨q4, 1, none⟩) CP.out.s4 _).far (p := ⟨q4, 2, none⟩) CP.out.s4 _).far (p := ⟨q4, 3, none⟩) CP.out.s4 _).far (p := ⟨q4, 4, none⟩) CP.out.s4 _).far (p := ⟨q4, 5, none⟩) CP.out.s4 _).far (p := ⟨q4, 6, none⟩) CP.out.s4 _)⟩)
   have TF := Lib.hid (show Tch (Tg g gs) w (((((((wp.setCell ⟨q4, 0, none⟩ (.int .i64 (1))).setCell ⟨q4, 1, none⟩ (.int .i64 (S.pc))).setCell ⟨q4, 2, none⟩ (.int .i64 (0))).setCell ⟨q4, 3, none⟩ (.int .i64 (0))).setCell ⟨q4, 4, none⟩ (.int .u64 (uv 0#64))).setCell ⟨q4, 5, none⟩ (.int .u64 (uv 0#64))).setCell ⟨q4, 6, none⟩ (.int .u64 (uv (S.counts j + 1#64)))) from (tch_fresh (tch_fresh (tch_fresh (tch_fresh (tch_fresh (tch_fresh (tch_fresh CP.out.t (p := ⟨q4, 0, none⟩) CP.out.l4 _) (p := ⟨q4, 1, none⟩) CP.out.l4 _) (p := ⟨q4, 2, none⟩) CP.out.l4 _) (p := ⟨q4, 3, none⟩) CP.out.l4 _) (p := ⟨q4, 4, none⟩) CP.out.l4 _) (p := ⟨q4, 5, none⟩) CP.out.l4 _) (p := ⟨q4, 6, none⟩) CP.out.l4 _))
   try simp only [uv_zero] at OF MF TF
   generalize (((((((wp.setCell ⟨q4, 0, none⟩ (.int .i64 (1))).setCell ⟨q4, 1, none⟩ (.int .i64 (S.pc))).setCell ⟨q4, 2, none⟩ (.int .i64 (0))).setCell ⟨q4, 3, none⟩ (.int .i64 (0))).setCell ⟨q4, 4, none⟩ (.int .u64 0)).setCell ⟨q4, 5, none⟩ (.int .u64 0)).setCell ⟨q4, 6, none⟩ (.int .u64 (uv (S.counts j + 1#64)))) = wf at OF MF TF ⊢
   have LR : (loadVar 55 ⟨q4, 0, none⟩).run Tryz.prog wf = .ok (acVal ⟨1, S.pc, 0, 0, 0#64, 0#64, (S.counts j + 1#64)⟩) wf := act_load OF.out
   exact bodyPost_ret (v := acVal ⟨1, S.pc, 0, 0, 0#64, 0#64, (S.counts j + 1#64)⟩) (results_cell Tryz.results60 rfl LR) rfl ⟨by rw [← HA2.out], by rw [← HS2.out]; exact MF.out, TF.out⟩
 rw [show Sg.adB 6 = false from rfl] at HAS
 go_wp2_with fail
 refine HAS.out.mono ?_
 rintro e w3 ⟨rfl, b3⟩
 have C3 := Lib.hid (C2.out.below b3)
 clear b3 C2 HAS
 have HA2 := Lib.hid (show (⟨3, S.pc, 0, 0, 0#64, 0#64, S.regs 1⟩ : ActV) = A from by rw [← HA.out]; rfl)
 have HS2 := Lib.hid (show ({ S with regs := upd S.regs 0 0#64, pc := S.pc + 1 } : StV) = S' from by rw [← HS.out]; rfl)
 clear HA HS
 go_upto_region 13 with fail
 obtain ⟨wd, hwd⟩ : ∃ wd, w3.drew = wd := ⟨_, rfl⟩
 have CD := Lib.hid (hwd ▸ C3.out.drew)
 clear C3
 refine wp_region_held_drew (S := fun w' => (w'.cell? ⟨g, 6, none⟩ = some (.int .u64 (uv (S.regs 1))))) (by kernel_rfl) (hwd ▸ CD.out.M.reg (r := 1) (by decide)) (fun hHeld => ?_)
 refine tkq 0 80 rfl (by kernel_rfl) (by rfl) hHeld (fun _ _ _ h => h) (by intro w' hSw; go_simp; try with_reducible rfl) ?_
 simp only [Act.put, spa, spb, spc]
 refine tkq 1 81 rfl (by kernel_rfl) (by rfl) hHeld (fun _ _ _ h => h) (by intro w' hSw; go_simp; try with_reducible rfl) ?_
 simp only [Act.put, spa, spb, spc]
 refine tkq 2 82 rfl (by kernel_rfl) (by rfl) hHeld (fun _ _ _ h => h) (by intro w' hSw; go_simp; try with_reducible rfl) ?_
 simp only [Act.put, spa, spb, spc]
 refine tkq 3 83 rfl (by kernel_rfl) (by rfl) hHeld (fun _ _ _ h => h) (by intro w' hSw; go_simp; try with_reducible rfl) ?_
 simp only [Act.put, spa, spb, spc]
 refine tkq 4 84 rfl (by kernel_rfl) (by rfl) hHeld (fun _ _ _ h => h) (by intro w' hSw; go_simp; try with_reducible rfl) ?_
 simp only [Act.put, spa, spb, spc]
 refine tkq 5 85 rfl (by kernel_rfl) (by rfl) hHeld (fun _ _ _ h => h) (by intro w' hSw; go_simp; try with_reducible rfl) ?_
 simp only [Act.put, spa, spb, spc]
 refine rdq 6 ⟨none, _, _, _, _, _⟩ (by kernel_rfl) rfl (fun K' hK => ?_)
 have x0 : wd.cell? ⟨q5, 0, none⟩ = some (.int .i64 1) := CD.out.o5.cell 0
 have z5 := CD.out.o5.frozen
 go_simp
 have CX := Lib.hid (CD.out.setK 3)
 refine hK.out _ _ (CX.out.M.reg (r := 1) (by decide)) (fun hHeld => ?_)
 clear hK K'
 clear x0 z5
 generalize wd.setCell ⟨q5, 0, none⟩ (.int .i64 3) = wx at CX hHeld ⊢
 refine tkq 7 86 rfl (by kernel_rfl) (by rfl) hHeld (fun _ _ _ h => h) (by intro w' hSw; go_simp; try with_reducible rfl) ?_
 simp only [Act.put, spa, spb, spc]
 refine rdq 8 ⟨none, _, _, _, _, _⟩ (by kernel_rfl) rfl (fun K' hK => ?_)
 have x6 : wx.cell? ⟨q5, 6, none⟩ = some (.int .u64 0) := CX.out.o5.cell 6
 have z5 := CX.out.o5.frozen
 go_simp
 have CY := Lib.hid (CX.out.setV (S.regs 1))
 refine hK.out _ _ (CY.out.M.reg (r := 1) (by decide)) (fun hHeld => ?_)
 clear hK K'
 clear x6 z5
 generalize wx.setCell ⟨q5, 6, none⟩ (.int .u64 (uv (S.regs 1))) = wy at CY hHeld ⊢
 refine wpAnyH_done (by kernel_rfl) ?_ _
 clear hwd CD CX hHeld
 have r0 : wy.cell? ⟨g, 5, none⟩ = some (.int .u64 (uv (S.regs 0))) := CY.out.M.reg (r := 0) (by decide)
 have zg := CY.out.M.o.frozen
 go_upto_region 15 with fail
 clear r0 zg
 have CZ := Lib.hid (show CSt w (wy.setCell ⟨g, 5, none⟩ (.int .u64 (uv 0#64))) g gs q4 q5 ea eb (.slice mA nm cm) cV _ _ _ from CY.out.setReg (k := 0) (by decide) 0#64)
 simp only [uv_zero] at CZ
 generalize wy.setCell ⟨g, 5, none⟩ (.int .u64 0) = w7 at CZ ⊢
 clear CY
 have gpc : wrap64 ((S.pc : Int) + 1) = ((S.pc + 1 : Nat) : Int) := by have := HPC.out; unfold wrap64; push_cast; omega
 have y77 : w7.cell? ⟨g, 77, none⟩ = some (.int .i64 S.pc) := CZ.out.M.pc_
 have zg := CZ.out.M.o.frozen
 go_upto_region 16 with fail
 clear y77 zg
 have CP := Lib.hid (CZ.out.setPc (S.pc + 1))
 push_cast at CP
 first
 | generalize w7.setCell ⟨g, 77, none⟩ (.int .i64 ((S.pc : Int) + 1)) = wp at CP ⊢
 | (rw [gpc]; push_cast; generalize w7.setCell ⟨g, 77, none⟩ (.int .i64 ((S.pc : Int) + 1)) = wp at CP ⊢)
 have xo50 : wp.cell? ⟨q5, 0, none⟩ = some (.int .i64 (3)) := CP.out.o5.cell 0
 have xo51 : wp.cell? ⟨q5, 1, none⟩ = some (.int .i64 (S.pc)) := CP.out.o5.cell 1
 have xo52 : wp.cell? ⟨q5, 2, none⟩ = some (.int .i64 (0)) := CP.out.o5.cell 2
 have xo53 : wp.cell? ⟨q5, 3, none⟩ = some (.int .i64 (0)) := CP.out.o5.cell 3
 have xo54 : wp.cell? ⟨q5, 4, none⟩ = some (.int .u64 0) := CP.out.o5.cell 4
 have xo55 : wp.cell? ⟨q5, 5, none⟩ = some (.int .u64 0) := CP.out.o5.cell 5
 have xo56 : wp.cell? ⟨q5, 6, none⟩ = some (.int .u64 (uv (S.regs 1))) := CP.out.o5.cell 6
 have xo40 : wp.cell? ⟨q4, 0, none⟩ = some (.int .i64 0) := CP.out.o4.cell 0
 have xo41 : wp.cell? ⟨q4, 1, none⟩ = some (.int .i64 0) := CP.out.o4.cell 1
 have xo42 : wp.cell? ⟨q4, 2, none⟩ = some (.int .i64 0) := CP.out.o4.cell 2
 have xo43 : wp.cell? ⟨q4, 3, none⟩ = some (.int .i64 0) := CP.out.o4.cell 3
 have xo44 : wp.cell? ⟨q4, 4, none⟩ = some (.int .u64 0) := CP.out.o4.cell 4
 have xo45 : wp.cell? ⟨q4, 5, none⟩ = some (.int .u64 0) := CP.out.o4.cell 5
 have xo46 : wp.cell? ⟨q4, 6, none⟩ = some (.int .u64 0) := CP.out.o4.cell 6
 have z4 := CP.out.o4.frozen
 go_wp2_with fail
 have OF := Lib.hid (show Ob (((((((wp.setCell ⟨q4, 0, none⟩ (.int .i64 (3))).setCell ⟨q4, 1, none⟩ (.int .i64 (S.pc))).setCell ⟨q4, 2, none⟩ (.int .i64 (0))).setCell ⟨q4, 3, none⟩ (.int .i64 (0))).setCell ⟨q4, 4, none⟩ (.int .u64 (uv 0#64))).setCell ⟨q4, 5, none⟩ (.int .u64 (uv 0#64))).setCell ⟨q4, 6, none⟩ (.int .u64 (uv (S.regs 1)))) q4 55 (acc ⟨3, S.pc, 0, 0, 0#64, 0#64, (S.regs 1)⟩) from ((((((CP.out.o4.set_ 0 _).set_ 1 _).set_ 2 _).set_ 3 _).set_ 4 _).set_ 5 _).set_ 6 _)
 have MF := Lib.hid (show MAt (((((((wp.setCell ⟨q4, 0, none⟩ (.int .i64 (3))).setCell ⟨q4, 1, none⟩ (.int .i64 (S.pc))).setCell ⟨q4, 2, none⟩ (.int .i64 (0))).setCell ⟨q4, 3, none⟩ (.int .i64 (0))).setCell ⟨q4, 4, none⟩ (.int .u64 (uv 0#64))).setCell ⟨q4, 5, none⟩ (.int .u64 (uv 0#64))).setCell ⟨q4, 6, none⟩ (.int .u64 (uv (S.regs 1)))) g gs ea eb (.slice mA nm cm) cV _ from ⟨(((((((CP.out.M.o.far (p := ⟨q4, 0, none⟩) CP.out.g4 _).far (p := ⟨q4, 1, none⟩) CP.out.g4 _).far (p := ⟨q4, 2, none⟩) CP.out.g4 _).far (p := ⟨q4, 3, none⟩) CP.out.g4 _).far (p := ⟨q4, 4, none⟩) CP.out.g4 _).far (p := ⟨q4, 5, none⟩) CP.out.g4 _).far (p := ⟨q4, 6, none⟩) CP.out.g4 _), (((((((CP.out.M.s.far (p := ⟨q4, 0, none⟩) CP.out.s4 _).far (p := ⟨q4, 1, none⟩) CP.out.s4 _).far (p := ⟨q4, 2, none⟩) CP.out.s4 _).far (p := ⟨q4, 3, none⟩) CP.out.s4 _).far (p := ⟨q4, 4, none⟩) CP.out.s4 _).far (p := ⟨q4, 5, none⟩) CP.out.s4 _).far (p := ⟨q4, 6, none⟩) CP.out.s4 _)⟩)
 have TF := Lib.hid (show Tch (Tg g gs) w (((((((wp.setCell ⟨q4, 0, none⟩ (.int .i64 (3))).setCell ⟨q4, 1, none⟩ (.int .i64 (S.pc))).setCell ⟨q4, 2, none⟩ (.int .i64 (0))).setCell ⟨q4, 3, none⟩ (.int .i64 (0))).setCell ⟨q4, 4, none⟩ (.int .u64 (uv 0#64))).setCell ⟨q4, 5, none⟩ (.int .u64 (uv 0#64))).setCell ⟨q4, 6, none⟩ (.int .u64 (uv (S.regs 1)))) from (tch_fresh (tch_fresh (tch_fresh (tch_fresh (tch_fresh (tch_fresh (tch_fresh CP.out.t (p := ⟨q4, 0, none⟩) CP.out.l4 _) (p := ⟨q4, 1, none⟩) CP.out.l4 _) (p := ⟨q4, 2, none⟩) CP.out.l4 _) (p := ⟨q4, 3, none⟩) CP.out.l4 _) (p := ⟨q4, 4, none⟩) CP.out.l4 _) (p := ⟨q4, 5, none⟩) CP.out.l4 _) (p := ⟨q4, 6, none⟩) CP.out.l4 _))
 try simp only [uv_zero] at OF MF TF
 generalize (((((((wp.setCell ⟨q4, 0, none⟩ (.int .i64 (3))).setCell ⟨q4, 1, none⟩ (.int .i64 (S.pc))).setCell ⟨q4, 2, none⟩ (.int .i64 (0))).setCell ⟨q4, 3, none⟩ (.int .i64 (0))).setCell ⟨q4, 4, none⟩ (.int .u64 0)).setCell ⟨q4, 5, none⟩ (.int .u64 0)).setCell ⟨q4, 6, none⟩ (.int .u64 (uv (S.regs 1)))) = wf at OF MF TF ⊢
 have LR : (loadVar 55 ⟨q4, 0, none⟩).run Tryz.prog wf = .ok (acVal ⟨3, S.pc, 0, 0, 0#64, 0#64, (S.regs 1)⟩) wf := act_load OF.out
 exact bodyPost_ret (v := acVal ⟨3, S.pc, 0, 0, 0#64, 0#64, (S.regs 1)⟩) (results_cell Tryz.results60 rfl LR) rfl ⟨by rw [← HA2.out], by rw [← HS2.out]; exact MF.out, TF.out⟩

end Go.Proofs.YtikkmkomlajnfaaGreatDoor.En
end
