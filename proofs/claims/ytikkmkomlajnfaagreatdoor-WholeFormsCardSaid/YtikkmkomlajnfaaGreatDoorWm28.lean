/-
  Layer 4: the reader of a module's bytes, on bytes that are right. Conditions: those of each theorem.
  Layer 4: the reader's inst, on bytes that are right. Conditions: those of each theorem.
-/
import Derived.Test.YtikkmkomlajnfaaGreatDoorWm01
import Derived.Test.YtikkmkomlajnfaaGreatDoorWm27
import Derived.BigQuiet
set_option linter.unusedVariables false
set_option linter.unusedSimpArgs false
section
namespace Go.Proofs.YtikkmkomlajnfaaGreatDoor.Wf
set_option maxRecDepth 100000
set_option maxHeartbeats 4000000
open Go.RowKit
open Go.Proofs.YtikkmkomlajnfaaGreatDoor.Op (InstV insc insVal rightV right_is RightI Frm right1_any)

/-- a reader's cells -/
def rdc (b o n c at_ f : Nat) : List Value := [.slice (some ⟨b, o, none⟩) n c, .int .i64 at_, .int .i64 f, .int .i64 0]
theorem sl_dropb {w : World} {b o : Nat} {l : List Nat} (h : Sl w (some ⟨b, o, none⟩) (bts l)) (p : Nat) : Sl w (some ⟨b, o + p, none⟩) (bts (l.drop p)) := by
 refine Sl.mk fun j hj => ?_
 rw [bts_length, List.length_drop] at hj
 obtain ⟨b', o', e, hc⟩ := h (by rw [bts_length]; omega)
 cases e
 have := hc (p + j) (by rw [bts_length]; omega)
 rw [Nat.add_assoc, this]
 simp [bts, List.getD_eq_getElem?_getD]
/-- the reader, and its bytes -/
structure RdS (w0 w : World) (g b o n c p f : Nat) (l : List Nat) : Prop where
 r : Ob w g 79 (rdc b o n c p f)
 s : Sl w (some ⟨b, o, none⟩) (bts l)
 k : Only w0 w g
 ne : b ≠ g
section
variable {w0 w w' : World} {g b o n c p f : Nat} {l : List Nat}
theorem RdS.below (h : RdS w0 w g b o n c p f l) (hb : Below w.heap.size w w') : RdS w0 w' g b o n c p f l := ⟨h.r.below hb h.r.lt, h.s.below hb, h.k.trans (Only.of_below hb g), h.ne⟩
theorem RdS.drew (h : RdS w0 w g b o n c p f l) : RdS w0 w.drew g b o n c p f l := h.below (below_drewN (Below.refl _ _) 1)
theorem RdS.put (h : RdS w0 w g b o n c p f l) {i : Nat} {u : Value} {cs : List Value} (e : (rdc b o n c p f).set i u = cs) : Ob (w.setCell ⟨g, i, none⟩ u) g 79 cs := e ▸ h.r.set_ i u
theorem RdS.slc (h : RdS w0 w g b o n c p f l) (i : Nat) (u : Value) : Sl (w.setCell ⟨g, i, none⟩ u) (some ⟨b, o, none⟩) (bts l) := (Only.setCell (Only.refl w g) (p := ⟨g, i, none⟩) rfl u).sl h.s fun q e => by cases e; exact h.ne
theorem RdS.fld (h : RdS w0 w g b o n c p f l) (x : Nat) : RdS w0 (w.setCell ⟨g, 2, none⟩ (.int .i64 x)) g b o n c p x l := ⟨h.put rfl, h.slc 2 _, h.k.setCell (p := ⟨g, 2, none⟩) rfl _, h.ne⟩
theorem RdS.at_ (h : RdS w0 w g b o n c p f l) (x : Nat) : RdS w0 (w.setCell ⟨g, 1, none⟩ (.int .i64 x)) g b o n c x f l := ⟨h.put rfl, h.slc 1 _, h.k.setCell (p := ⟨g, 1, none⟩) rfl _, h.ne⟩
theorem RdS.refl (h : RdS w0 w g b o n c p f l) : RdS w w g b o n c p f l := ⟨h.r, h.s, Only.refl _ _, h.ne⟩
theorem RdS.trans {p' f' : Nat} (h : RdS w0 w g b o n c p f l) (k : RdS w w' g b o n c p' f' l) : RdS w0 w' g b o n c p' f' l := ⟨k.r, k.s, h.k.trans k.k, h.ne⟩
theorem RdS.far (h : RdS w0 w g b o n c p f l) {q : Addr} (hq : w0.heap.size ≤ q.block) (hg : q.block ≠ g) (hb : q.block ≠ b) (u : Value) : RdS w0 (w.setCell q u) g b o n c p f l :=
 ⟨h.r.far hg.symm u, (Only.setCell (Only.refl w q.block) (p := q) rfl u).sl h.s (fun q' e => by cases e; exact hb.symm), ⟨h.k.os, h.k.tape, h.k.output, by simpa [World.setCell] using h.k.size, fun i hi hn => (Below.heap_setCell w q u i (by rintro rfl; omega)).trans (h.k.block i hi hn)⟩, h.ne⟩
theorem RdS.alloc (h : RdS w0 w g b o n c p f l) (ob : Obj) : RdS w0 (w.alloc ob) g b o n c p f l := h.below (below_alloc (Below.refl _ _) ob)
end

/-- a field is read -/
theorem number_any (w : World) (g b o n c p f x most : Nat) (e : Int) (l rest : List Nat) (hl : l.drop p = lebN x ++ rest) (hn : n = l.length) (hm : n ≤ 1000000) (hnc : n ≤ c) (hx : x ≤ most) (hmost : most ≤ 64) (hR : RdS w w g b o n c p f l) :
 Calls Tryz.prog 23 #[.pointer (some ⟨g, 0, none⟩), .int .u64 (most : Int), .int .i64 e] w fun e w' => e = .returned (.int .i64 (x : Int)) ∧ RdS w w' g b o n c (p + (lebN x).length) p l := by
 have HLEN : Hid (p + (lebN x).length + rest.length = n ∧ 1 ≤ (lebN x).length) := Lib.hid (by
  have e1 := congrArg List.length hl
  rw [List.length_drop, List.length_append] at e1
  have := (lebF_len 9 x).1
  unfold lebN at e1 ⊢
  omega)
 have HG := Lib.hid (fun w' A n c (hn : n = (lebN x ++ rest).length) (hm : n ≤ 1000000) hs => Get_any w' x rest A n c (by omega) hn hm hs)
 generalize lebN x = L at hl HLEN HG ⊢
 have HR := Lib.hid hR
 have HSL := Lib.hid (fun w' hs => (hl ▸ sl_dropb (w := w') (b := b) (o := o) hs p : Sl w' (some ⟨b, o + p, none⟩) (bts (L ++ rest))))
 have HQ := Lib.hid (show n - p = (L ++ rest).length by rw [← hl, List.length_drop, ← hn])
 have HM := Lib.hid (show n - p ≤ 1000000 by omega)
 clear hR hl hn
 have hp := HLEN.out.1
 have g1 : (p : Int) ≤ (n : Int) := by omega
 have g0 : (0 : Int) ≤ (p : Int) := by omega
 have g2 : (n : Int) ≤ (c : Int) := by omega
 have g3 : (p : Int) ≤ (c : Int) := by omega
 have g8 : ¬ c = p := by have := HLEN.out.2; omega
 have g5 : wrap64 ((x : Int)) = (x : Int) := by unfold wrap64; omega
 have g6 : ¬ (most : Int) < (x : Int) := by omega
 obtain ⟨K, hK⟩ : ∃ K, L.length = K := ⟨_, rfl⟩
 rw [hK] at HG HLEN hp ⊢
 have g7 : wrap64 ((p : Int) + (K : Int)) = (p : Int) + (K : Int) := by unfold wrap64; omega
 clear hK
 have y1 : w.cell? ⟨g, 1, none⟩ = some (.int .i64 p) := HR.out.r.cell 1
 have y3 : w.cell? ⟨g, 3, none⟩ = some (.int .i64 0) := HR.out.r.cell 3
 have yf := HR.out.r.frozen
 have y2 : w.cell? ⟨g, 2, none⟩ = some (.int .i64 f) := HR.out.r.cell 2
 go_enter Tryz.func23, Tryz.ntmps23
 go_upto_region 4 with fail
 clear y1 y2 y3 yf
 have R1 := Lib.hid (HR.out.fld p)
 clear HR
 generalize w.setCell ⟨g, 2, none⟩ (.int .i64 (p : Int)) = w1 at R1 ⊢
 obtain ⟨wd, hwd⟩ : ∃ wd, w1.drew = wd := ⟨_, rfl⟩
 have RD := Lib.hid (hwd ▸ R1.out.drew)
 clear R1
 refine wp_region_held_drew (S := fun w' => (w'.cell? ⟨g, 0, none⟩ = some (.slice (some ⟨b, o, none⟩) n c) ∧ w'.cell? ⟨g, 1, none⟩ = some (.int .i64 p))) (by kernel_rfl) (by rw [hwd]; exact ⟨RD.out.r.cell 0, RD.out.r.cell 1⟩) (fun hHeld => ?_)
 refine tkq 0 23 rfl (by kernel_rfl) (by rfl) hHeld (fun _ _ _ h => h) (by intro w' hSw; go_simp; try with_reducible rfl) ?_
 simp only [Act.put, spa, spb, spc]
 refine tkq 1 24 rfl (by kernel_rfl) (by rfl) hHeld (fun _ _ _ h => h) (by intro w' hSw; go_simp; try with_reducible rfl) ?_
 simp only [Act.put, spa, spb, spc]
 refine tkq 2 25 rfl (by kernel_rfl) (by rfl) hHeld (fun _ _ _ h => h) (by intro w' hSw; go_simp; try with_reducible rfl) ?_
 simp only [Act.put, spa, spb, spc]
 refine tkq 3 26 rfl (by kernel_rfl) (by rfl) hHeld (fun _ _ _ h => h) (by intro w' hSw; go_simp; try with_reducible rfl) ?_
 simp only [Act.put, spa, spb, spc]
 refine tkq 4 27 rfl (by kernel_rfl) (by rfl) hHeld (fun _ _ _ h => h) (by intro w' hSw; go_simp; try with_reducible rfl) ?_
 simp only [Act.put, spa, spb, spc]
 refine tkq 5 28 rfl (by kernel_rfl) (by rfl) hHeld (fun _ _ _ h => h) (by intro w' hSw; go_simp; try with_reducible rfl) ?_
 simp only [Act.put, spa, spb, spc]
 refine tkq 6 29 rfl (by kernel_rfl) (by rfl) hHeld (fun _ _ _ h => h) (by intro w' hSw; go_simp; try with_reducible rfl) ?_
 simp only [Act.put, spa, spb, spc]
 refine tkq 7 30 rfl (by kernel_rfl) (by rfl) hHeld (fun _ _ _ h => h) (by intro w' hSw; go_simp; try with_reducible rfl) ?_
 simp only [Act.put, spa, spb, spc]
 refine tkq 8 31 rfl (by kernel_rfl) (by rfl) hHeld (fun _ _ _ h => h) (by intro w' hSw; go_simp; try with_reducible rfl) ?_
 simp only [Act.put, spa, spb, spc]
 refine rdq 9 ⟨some 32, _, _, _, _, _⟩ (by kernel_rfl) rfl (fun K' hK => ?_)
 go_simp
 refine (HG.out wd (some ⟨b, o + p, none⟩) (n - p) _ HQ.out HM.out (HSL.out wd RD.out.s)).mono ?_
 rintro e wx ⟨rfl, bx⟩
 have RX := Lib.hid (RD.out.below bx)
 clear bx
 refine hK.out _ _ ⟨RX.out.r.cell 0, RX.out.r.cell 1⟩ (fun hHeld => ?_)
 clear hK K'
 refine tkq 10 22 rfl (by kernel_rfl) (by rfl) hHeld (fun _ _ _ h => h) (by intro w' hSw; go_simp; try with_reducible rfl) ?_
 simp only [Act.put, spa, spb, spc]
 refine tkq 11 33 rfl (by kernel_rfl) (by rfl) hHeld (fun _ _ _ h => h) (by intro w' hSw; go_simp; try with_reducible rfl) ?_
 simp only [Act.put, spa, spb, spc]
 refine tkq 12 34 rfl (by kernel_rfl) (by rfl) hHeld (fun _ _ _ h => h) (by intro w' hSw; go_simp; try with_reducible rfl) ?_
 simp only [Act.put, spa, spb, spc]
 refine tkq 13 35 rfl (by kernel_rfl) (by rfl) hHeld (fun _ _ _ h => h) (by intro w' hSw; go_simp; try with_reducible rfl) ?_
 simp only [Act.put, spa, spb, spc]
 refine tkq 14 7 rfl (by kernel_rfl) (by rfl) hHeld (fun _ _ _ h => h) (by intro w' hSw; go_simp; try with_reducible rfl) ?_
 simp only [Act.put, spa, spb, spc]
 refine tkq 15 8 rfl (by kernel_rfl) (by rfl) hHeld (fun _ _ _ h => h) (by intro w' hSw; go_simp; try with_reducible rfl) ?_
 simp only [Act.put, spa, spb, spc]
 refine tkq 16 9 rfl (by kernel_rfl) (by rfl) hHeld (fun _ _ _ h => h) (by intro w' hSw; go_simp; try with_reducible rfl) ?_
 simp only [Act.put, spa, spb, spc]
 refine wpAnyH_done (by kernel_rfl) ?_ _
 clear hHeld RD hwd
 have y1 : wx.cell? ⟨g, 1, none⟩ = some (.int .i64 p) := RX.out.r.cell 1
 have yf := RX.out.r.frozen
 go_upto_region 6 with fail
 clear y1 yf
 have RY := Lib.hid (show RdS w (wx.setCell ⟨g, 1, none⟩ (.int .i64 ((p : Int) + (K : Int)))) g b o n c (p + K) p l from Int.natCast_add p K ▸ RX.out.at_ (p + K))
 generalize wx.setCell ⟨g, 1, none⟩ (.int .i64 ((p : Int) + (K : Int))) = wy at RY ⊢
 go_wp2_with fail
 go_ret
 exact ⟨rfl, RY.out⟩

/-- the head is read -/
theorem begin_any (w : World) (g b o n c f : Nat) (l rest : List Nat) (hl : l = 84 :: 80 :: 1 :: rest) (hn : n = l.length) (hm : n ≤ 1000000) (hnc : n ≤ c) (hR : RdS w w g b o n c 0 f l) :
 Calls Tryz.prog 22 #[.pointer (some ⟨g, 0, none⟩)] w fun e w' => e = .returned (.tuple #[]) ∧ RdS w w' g b o n c 3 2 l := by
 have H3 := Lib.hid (show 3 ≤ n by rw [hn, hl]; simp)
 have HC := Lib.hid (fun (w' : World) (hs : Sl w' (some ⟨b, o, none⟩) (bts l)) => (show w'.cell? ⟨b, o, none⟩ = some (.int .u8 84) ∧ w'.cell? ⟨b, o + 1, none⟩ = some (.int .u8 80) ∧ w'.cell? ⟨b, o + 2, none⟩ = some (.int .u8 1) from by
  subst hl
  obtain ⟨b', o', e, hc⟩ := hs (by simp [bts])
  cases e
  exact ⟨hc 0 (by simp [bts]), hc 1 (by simp [bts]), hc 2 (by simp [bts])⟩))
 have HM := Lib.hid hm
 have R0 := Lib.hid hR
 clear hR hl hn hm
 have g0 : ¬ (n : Int) ≤ 0 := by have := H3.out; omega
 have g1 : ¬ (n : Int) ≤ 1 := by have := H3.out; omega
 have g2 : ¬ (n : Int) ≤ 2 := by have := H3.out; omega
 have l0 : (0 : Int) < (n : Int) := by omega
 have l1 : (1 : Int) < (n : Int) := by omega
 have l2 : (2 : Int) < (n : Int) := by omega
 go_enter Tryz.func22, Tryz.ntmps22
 go_wp2_with fail
 refine wp_loop_rounds 4 ?_
 rw [rounds_succ]
 have y0 : w.cell? ⟨g, 0, none⟩ = some (.slice (some ⟨b, o, none⟩) n c) := R0.out.r.cell 0
 have y1 : w.cell? ⟨g, 1, none⟩ = some (.int .i64 0) := R0.out.r.cell 1
 have y2 : w.cell? ⟨g, 2, none⟩ = some (.int .i64 f) := R0.out.r.cell 2
 have y3 : w.cell? ⟨g, 3, none⟩ = some (.int .i64 0) := R0.out.r.cell 3
 have yf := R0.out.r.frozen
 obtain ⟨c0, c1, c2⟩ := HC.out w R0.out.s
 go_upto_region 3 with fail
 clear y0 y1 y2 y3 yf c0 c1 c2
 have R0a := Lib.hid (show RdS w (w.setCell ⟨g, 2, none⟩ (.int .i64 0)) g b o n c 0 0 l from R0.out.fld 0)
 clear R0
 generalize w.setCell ⟨g, 2, none⟩ (.int .i64 0) = w0a at R0a ⊢
 have y0 : w0a.cell? ⟨g, 0, none⟩ = some (.slice (some ⟨b, o, none⟩) n c) := R0a.out.r.cell 0
 have y1 : w0a.cell? ⟨g, 1, none⟩ = some (.int .i64 0) := R0a.out.r.cell 1
 have y2 : w0a.cell? ⟨g, 2, none⟩ = some (.int .i64 0) := R0a.out.r.cell 2
 have y3 : w0a.cell? ⟨g, 3, none⟩ = some (.int .i64 0) := R0a.out.r.cell 3
 have yf := R0a.out.r.frozen
 obtain ⟨c0, c1, c2⟩ := HC.out w0a R0a.out.s
 go_quiet (fail)
 clear y0 y1 y2 y3 yf c0 c1 c2
 have R0b := Lib.hid (R0a.out.below (below_drewN (Below.refl _ _) nq))
 clear R0a
 generalize w0a.drewN nq = w0b at R0b ⊢
 have y0 : w0b.cell? ⟨g, 0, none⟩ = some (.slice (some ⟨b, o, none⟩) n c) := R0b.out.r.cell 0
 have y1 : w0b.cell? ⟨g, 1, none⟩ = some (.int .i64 0) := R0b.out.r.cell 1
 have y2 : w0b.cell? ⟨g, 2, none⟩ = some (.int .i64 0) := R0b.out.r.cell 2
 have y3 : w0b.cell? ⟨g, 3, none⟩ = some (.int .i64 0) := R0b.out.r.cell 3
 have yf := R0b.out.r.frozen
 obtain ⟨c0, c1, c2⟩ := HC.out w0b R0b.out.s
 go_upto_region 5 with fail
 go_quiet (fail)
 clear y0 y1 y2 y3 yf c0 c1 c2
 have R0c := Lib.hid (R0b.out.below (below_drewN (Below.refl _ _) nq))
 clear R0b
 generalize w0b.drewN nq = w0c at R0c ⊢
 have y0 : w0c.cell? ⟨g, 0, none⟩ = some (.slice (some ⟨b, o, none⟩) n c) := R0c.out.r.cell 0
 have y1 : w0c.cell? ⟨g, 1, none⟩ = some (.int .i64 0) := R0c.out.r.cell 1
 have y2 : w0c.cell? ⟨g, 2, none⟩ = some (.int .i64 0) := R0c.out.r.cell 2
 have y3 : w0c.cell? ⟨g, 3, none⟩ = some (.int .i64 0) := R0c.out.r.cell 3
 have yf := R0c.out.r.frozen
 obtain ⟨c0, c1, c2⟩ := HC.out w0c R0c.out.s
 go_wp2_with fail
 clear y0 y1 y2 y3 yf c0 c1 c2
 have R1 := Lib.hid (show RdS w (w0c.setCell ⟨g, 1, none⟩ (.int .i64 1)) g b o n c 1 0 l from R0c.out.at_ 1)
 clear R0c
 generalize w0c.setCell ⟨g, 1, none⟩ (.int .i64 1) = w1 at R1 ⊢
 rw [rounds_succ]
 have y0 : w1.cell? ⟨g, 0, none⟩ = some (.slice (some ⟨b, o, none⟩) n c) := R1.out.r.cell 0
 have y1 : w1.cell? ⟨g, 1, none⟩ = some (.int .i64 1) := R1.out.r.cell 1
 have y2 : w1.cell? ⟨g, 2, none⟩ = some (.int .i64 0) := R1.out.r.cell 2
 have y3 : w1.cell? ⟨g, 3, none⟩ = some (.int .i64 0) := R1.out.r.cell 3
 have yf := R1.out.r.frozen
 obtain ⟨c0, c1, c2⟩ := HC.out w1 R1.out.s
 go_upto_region 3 with fail
 clear y0 y1 y2 y3 yf c0 c1 c2
 have R1a := Lib.hid (show RdS w (w1.setCell ⟨g, 2, none⟩ (.int .i64 1)) g b o n c 1 1 l from R1.out.fld 1)
 clear R1
 generalize w1.setCell ⟨g, 2, none⟩ (.int .i64 1) = w1a at R1a ⊢
 have y0 : w1a.cell? ⟨g, 0, none⟩ = some (.slice (some ⟨b, o, none⟩) n c) := R1a.out.r.cell 0
 have y1 : w1a.cell? ⟨g, 1, none⟩ = some (.int .i64 1) := R1a.out.r.cell 1
 have y2 : w1a.cell? ⟨g, 2, none⟩ = some (.int .i64 1) := R1a.out.r.cell 2
 have y3 : w1a.cell? ⟨g, 3, none⟩ = some (.int .i64 0) := R1a.out.r.cell 3
 have yf := R1a.out.r.frozen
 obtain ⟨c0, c1, c2⟩ := HC.out w1a R1a.out.s
 go_quiet (fail)
 clear y0 y1 y2 y3 yf c0 c1 c2
 have R1b := Lib.hid (R1a.out.below (below_drewN (Below.refl _ _) nq))
 clear R1a
 generalize w1a.drewN nq = w1b at R1b ⊢
 have y0 : w1b.cell? ⟨g, 0, none⟩ = some (.slice (some ⟨b, o, none⟩) n c) := R1b.out.r.cell 0
 have y1 : w1b.cell? ⟨g, 1, none⟩ = some (.int .i64 1) := R1b.out.r.cell 1
 have y2 : w1b.cell? ⟨g, 2, none⟩ = some (.int .i64 1) := R1b.out.r.cell 2
 have y3 : w1b.cell? ⟨g, 3, none⟩ = some (.int .i64 0) := R1b.out.r.cell 3
 have yf := R1b.out.r.frozen
 obtain ⟨c0, c1, c2⟩ := HC.out w1b R1b.out.s
 go_upto_region 5 with fail
 go_quiet (fail)
 clear y0 y1 y2 y3 yf c0 c1 c2
 have R1c := Lib.hid (R1b.out.below (below_drewN (Below.refl _ _) nq))
 clear R1b
 generalize w1b.drewN nq = w1c at R1c ⊢
 have y0 : w1c.cell? ⟨g, 0, none⟩ = some (.slice (some ⟨b, o, none⟩) n c) := R1c.out.r.cell 0
 have y1 : w1c.cell? ⟨g, 1, none⟩ = some (.int .i64 1) := R1c.out.r.cell 1
 have y2 : w1c.cell? ⟨g, 2, none⟩ = some (.int .i64 1) := R1c.out.r.cell 2
 have y3 : w1c.cell? ⟨g, 3, none⟩ = some (.int .i64 0) := R1c.out.r.cell 3
 have yf := R1c.out.r.frozen
 obtain ⟨c0, c1, c2⟩ := HC.out w1c R1c.out.s
 go_wp2_with fail
 clear y0 y1 y2 y3 yf c0 c1 c2
 have R2 := Lib.hid (show RdS w (w1c.setCell ⟨g, 1, none⟩ (.int .i64 2)) g b o n c 2 1 l from R1c.out.at_ 2)
 clear R1c
 generalize w1c.setCell ⟨g, 1, none⟩ (.int .i64 2) = w2 at R2 ⊢
 rw [rounds_succ]
 have y0 : w2.cell? ⟨g, 0, none⟩ = some (.slice (some ⟨b, o, none⟩) n c) := R2.out.r.cell 0
 have y1 : w2.cell? ⟨g, 1, none⟩ = some (.int .i64 2) := R2.out.r.cell 1
 have y2 : w2.cell? ⟨g, 2, none⟩ = some (.int .i64 1) := R2.out.r.cell 2
 have y3 : w2.cell? ⟨g, 3, none⟩ = some (.int .i64 0) := R2.out.r.cell 3
 have yf := R2.out.r.frozen
 obtain ⟨c0, c1, c2⟩ := HC.out w2 R2.out.s
 go_upto_region 3 with fail
 clear y0 y1 y2 y3 yf c0 c1 c2
 have R2a := Lib.hid (show RdS w (w2.setCell ⟨g, 2, none⟩ (.int .i64 2)) g b o n c 2 2 l from R2.out.fld 2)
 clear R2
 generalize w2.setCell ⟨g, 2, none⟩ (.int .i64 2) = w2a at R2a ⊢
 have y0 : w2a.cell? ⟨g, 0, none⟩ = some (.slice (some ⟨b, o, none⟩) n c) := R2a.out.r.cell 0
 have y1 : w2a.cell? ⟨g, 1, none⟩ = some (.int .i64 2) := R2a.out.r.cell 1
 have y2 : w2a.cell? ⟨g, 2, none⟩ = some (.int .i64 2) := R2a.out.r.cell 2
 have y3 : w2a.cell? ⟨g, 3, none⟩ = some (.int .i64 0) := R2a.out.r.cell 3
 have yf := R2a.out.r.frozen
 obtain ⟨c0, c1, c2⟩ := HC.out w2a R2a.out.s
 go_quiet (fail)
 clear y0 y1 y2 y3 yf c0 c1 c2
 have R2b := Lib.hid (R2a.out.below (below_drewN (Below.refl _ _) nq))
 clear R2a
 generalize w2a.drewN nq = w2b at R2b ⊢
 have y0 : w2b.cell? ⟨g, 0, none⟩ = some (.slice (some ⟨b, o, none⟩) n c) := R2b.out.r.cell 0
 have y1 : w2b.cell? ⟨g, 1, none⟩ = some (.int .i64 2) := R2b.out.r.cell 1
 have y2 : w2b.cell? ⟨g, 2, none⟩ = some (.int .i64 2) := R2b.out.r.cell 2
 have y3 : w2b.cell? ⟨g, 3, none⟩ = some (.int .i64 0) := R2b.out.r.cell 3
 have yf := R2b.out.r.frozen
 obtain ⟨c0, c1, c2⟩ := HC.out w2b R2b.out.s
 go_upto_region 5 with fail
 go_quiet (fail)
 clear y0 y1 y2 y3 yf c0 c1 c2
 have R2c := Lib.hid (R2b.out.below (below_drewN (Below.refl _ _) nq))
 clear R2b
 generalize w2b.drewN nq = w2c at R2c ⊢
 have y0 : w2c.cell? ⟨g, 0, none⟩ = some (.slice (some ⟨b, o, none⟩) n c) := R2c.out.r.cell 0
 have y1 : w2c.cell? ⟨g, 1, none⟩ = some (.int .i64 2) := R2c.out.r.cell 1
 have y2 : w2c.cell? ⟨g, 2, none⟩ = some (.int .i64 2) := R2c.out.r.cell 2
 have y3 : w2c.cell? ⟨g, 3, none⟩ = some (.int .i64 0) := R2c.out.r.cell 3
 have yf := R2c.out.r.frozen
 obtain ⟨c0, c1, c2⟩ := HC.out w2c R2c.out.s
 go_wp2_with fail
 clear y0 y1 y2 y3 yf c0 c1 c2
 have R3 := Lib.hid (show RdS w (w2c.setCell ⟨g, 1, none⟩ (.int .i64 3)) g b o n c 3 2 l from R2c.out.at_ 3)
 clear R2c
 generalize w2c.setCell ⟨g, 1, none⟩ (.int .i64 3) = w3 at R3 ⊢
 rw [rounds_succ]
 have y0 : w3.cell? ⟨g, 0, none⟩ = some (.slice (some ⟨b, o, none⟩) n c) := R3.out.r.cell 0
 have y1 : w3.cell? ⟨g, 1, none⟩ = some (.int .i64 3) := R3.out.r.cell 1
 have y2 : w3.cell? ⟨g, 2, none⟩ = some (.int .i64 2) := R3.out.r.cell 2
 have y3 : w3.cell? ⟨g, 3, none⟩ = some (.int .i64 0) := R3.out.r.cell 3
 have yf := R3.out.r.frozen
 obtain ⟨c0, c1, c2⟩ := HC.out w3 R3.out.s
 go_wp2_with fail
 go_end0
 exact ⟨rfl, R3.out⟩
end Go.Proofs.YtikkmkomlajnfaaGreatDoor.Wf
end

section
namespace Go.Proofs.YtikkmkomlajnfaaGreatDoor.Wf
set_option maxRecDepth 100000
set_option maxHeartbeats 8000000
open Go.RowKit
open Go.Proofs.YtikkmkomlajnfaaGreatDoor.Op (InstV insc insVal rightV right_is RightI Frm right1_any insc_one)

/-- an instruction's bytes -/
def insB (i : InstV) : List Nat := lebN i.op.toNat ++ (lebN i.d.toNat ++ (lebN i.a.toNat ++ (lebN i.b.toNat ++ lebN (zig i.m))))
theorem drop_next {l L r : List Nat} {p : Nat} (h : l.drop p = L ++ r) : l.drop (p + L.length) = r := by
 rw [← List.drop_drop, h, List.drop_left']
 rfl
theorem frm_only {w w' : World} {g : Nat} (h : Frm w) (k : Only w w' g) (hg : g ≠ 0) : Frm w' := by
 have hl := h.lt
 obtain ⟨t, fr, e⟩ := h
 exact ⟨t, fr, (k.block _ hl (by rw [Ne, Option.some.injEq]; exact hg.symm)).trans e⟩

/-- the reader, the result's place and the instruction that is read -/
structure ISt (w0 w : World) (g b o n c p f : Nat) (l : List Nat) (q2 q4 : Nat) (x d a s m : Int) : Prop where
 R : RdS w0 w g b o n c p f l
 o2 : Ob w q2 59 [.int .i64 0, .int .i64 0, .int .i64 0, .int .i64 0, .int .i64 0]
 o4 : Ob w q4 59 [.int .i64 x, .int .i64 d, .int .i64 a, .int .i64 s, .int .i64 m]
 l2 : w0.heap.size ≤ q2
 l4 : w0.heap.size ≤ q4
 n : q2 ≠ q4
 gl : g < w0.heap.size
 bl : b < w0.heap.size
section
variable {w0 w w' : World} {g b o n c p f p' f' q2 q4 : Nat} {l : List Nat} {x d a s m : Int}
theorem ISt.ne2 (h : ISt w0 w g b o n c p f l q2 q4 x d a s m) : q2 ≠ g := by have := h.l2; have := h.gl; omega
theorem ISt.ne4 (h : ISt w0 w g b o n c p f l q2 q4 x d a s m) : q4 ≠ g := by have := h.l4; have := h.gl; omega
theorem ISt.nb2 (h : ISt w0 w g b o n c p f l q2 q4 x d a s m) : q2 ≠ b := by have := h.l2; have := h.bl; omega
theorem ISt.nb4 (h : ISt w0 w g b o n c p f l q2 q4 x d a s m) : q4 ≠ b := by have := h.l4; have := h.bl; omega
theorem ISt.num (h : ISt w0 w g b o n c p f l q2 q4 x d a s m) (k : RdS w w' g b o n c p' f' l) : ISt w0 w' g b o n c p' f' l q2 q4 x d a s m :=
 ⟨h.R.trans k, h.o2.only k.k h.ne2, h.o4.only k.k h.ne4, h.l2, h.l4, h.n, h.gl, h.bl⟩
theorem ISt.below (h : ISt w0 w g b o n c p f l q2 q4 x d a s m) (hb : Below w.heap.size w w') : ISt w0 w' g b o n c p f l q2 q4 x d a s m := h.num (h.R.refl.below hb)
theorem ISt.drew (h : ISt w0 w g b o n c p f l q2 q4 x d a s m) : ISt w0 w.drew g b o n c p f l q2 q4 x d a s m := h.below (below_drewN (Below.refl _ _) 1)
theorem ISt.fld (h : ISt w0 w g b o n c p f l q2 q4 x d a s m) (v : Nat) : ISt w0 (w.setCell ⟨g, 2, none⟩ (.int .i64 v)) g b o n c p v l q2 q4 x d a s m := h.num (h.R.refl.fld v)
theorem ISt.at_ (h : ISt w0 w g b o n c p f l q2 q4 x d a s m) (v : Nat) : ISt w0 (w.setCell ⟨g, 1, none⟩ (.int .i64 v)) g b o n c v f l q2 q4 x d a s m := h.num (h.R.refl.at_ v)
theorem ISt.set1 (h : ISt w0 w g b o n c p f l q2 q4 x d a s m) (v : Int) : ISt w0 (w.setCell ⟨q4, 1, none⟩ (.int .i64 v)) g b o n c p f l q2 q4 x v a s m := ⟨h.R.far (q := ⟨q4, 1, none⟩) h.l4 h.ne4 h.nb4 _, h.o2.far (p := ⟨q4, 1, none⟩) h.n _, h.o4.set_ 1 _, h.l2, h.l4, h.n, h.gl, h.bl⟩
theorem ISt.set2 (h : ISt w0 w g b o n c p f l q2 q4 x d a s m) (v : Int) : ISt w0 (w.setCell ⟨q4, 2, none⟩ (.int .i64 v)) g b o n c p f l q2 q4 x d v s m := ⟨h.R.far (q := ⟨q4, 2, none⟩) h.l4 h.ne4 h.nb4 _, h.o2.far (p := ⟨q4, 2, none⟩) h.n _, h.o4.set_ 2 _, h.l2, h.l4, h.n, h.gl, h.bl⟩
theorem ISt.set3 (h : ISt w0 w g b o n c p f l q2 q4 x d a s m) (v : Int) : ISt w0 (w.setCell ⟨q4, 3, none⟩ (.int .i64 v)) g b o n c p f l q2 q4 x d a v m := ⟨h.R.far (q := ⟨q4, 3, none⟩) h.l4 h.ne4 h.nb4 _, h.o2.far (p := ⟨q4, 3, none⟩) h.n _, h.o4.set_ 3 _, h.l2, h.l4, h.n, h.gl, h.bl⟩
theorem ISt.set4 (h : ISt w0 w g b o n c p f l q2 q4 x d a s m) (v : Int) : ISt w0 (w.setCell ⟨q4, 4, none⟩ (.int .i64 v)) g b o n c p f l q2 q4 x d a s v := ⟨h.R.far (q := ⟨q4, 4, none⟩) h.l4 h.ne4 h.nb4 _, h.o2.far (p := ⟨q4, 4, none⟩) h.n _, h.o4.set_ 4 _, h.l2, h.l4, h.n, h.gl, h.bl⟩
end

/-- an instruction is read -/
theorem inst_any (w : World) (g b o n c p f : Nat) (l rest : List Nat) (i : InstV) (hi : rightV i = true) (hmi : -9223372036854775808 ≤ i.m ∧ i.m ≤ 9223372036854775807) (hl : l.drop p = insB i ++ rest) (hn : n = l.length) (hm : n ≤ 1000000) (hnc : n ≤ c) (ht : Frm w) (hg : g ≠ 0) (hR : RdS w w g b o n c p f l) :
 Calls Tryz.prog 26 #[.pointer (some ⟨g, 0, none⟩)] w fun e w' => e = .returned (insVal i) ∧ ∃ f', RdS w w' g b o n c (p + (insB i).length) f' l := by
 have hri := right_is hi
 have HBL : Hid (b < w.heap.size) := Lib.hid (by
  obtain ⟨b', o', e, hc⟩ := hR.s (by
   rw [bts_length]
   have e1 := congrArg List.length hl
   rw [List.length_drop, List.length_append] at e1
   have := (lebF_len 9 i.op.toNat).1
   unfold insB lebN at e1
   rw [List.length_append] at e1
   omega)
  cases e
  exact cell_lt (hc 0 (by
   rw [bts_length]
   have e1 := congrArg List.length hl
   rw [List.length_drop, List.length_append] at e1
   have := (lebF_len 9 i.op.toNat).1
   unfold insB lebN at e1
   rw [List.length_append] at e1
   omega)))
 obtain ⟨op, d, a, s, m⟩ := i
 obtain ⟨x0, rfl⟩ : ∃ x : Nat, op = x := ⟨op.toNat, by have := hri.o0; dsimp only at this; omega⟩
 obtain ⟨x1, rfl⟩ : ∃ x : Nat, d = x := ⟨d.toNat, by have := hri.d0; dsimp only at this; omega⟩
 obtain ⟨x2, rfl⟩ : ∃ x : Nat, a = x := ⟨a.toNat, by have := hri.a0; dsimp only at this; omega⟩
 obtain ⟨x3, rfl⟩ : ∃ x : Nat, s = x := ⟨s.toNat, by have := hri.b; dsimp only at this; omega⟩
 have HX : Hid (x0 ≤ 22 ∧ x1 ≤ 63 ∧ x2 ≤ 63 ∧ x3 ≤ 63) := Lib.hid (by
  have h1 := hri.o1
  have h2 := hri.d1
  have h3 := hri.a1
  have h4 := hri.b
  dsimp only at h1 h2 h3 h4
  omega)
 unfold insB at hl ⊢
 dsimp only at hl hmi ⊢
 simp only [Int.toNat_natCast, List.length_append, List.append_assoc] at hl ⊢
 have HL0 := Lib.hid hl
 have HL1 := Lib.hid (drop_next HL0.out)
 have HL2 := Lib.hid (drop_next HL1.out)
 have HL3 := Lib.hid (drop_next HL2.out)
 have HL4 := Lib.hid (drop_next HL3.out)
 rw [show p + ((lebN x0).length + ((lebN x1).length + ((lebN x2).length + ((lebN x3).length + (lebN (zig m)).length)))) = p + (lebN x0).length + (lebN x1).length + (lebN x2).length + (lebN x3).length + (lebN (zig m)).length by omega]
 have HG := Lib.hid (fun w' A n c hn hm hs => GetInt_any w' m rest A n c hmi.1 hmi.2 hn hm hs)
 have HN0 := Lib.hid (fun w p f hl hR => number_any w g b o n c p f x0 22 12 l (lebN x1 ++ (lebN x2 ++ (lebN x3 ++ (lebN (zig m) ++ rest)))) hl hn hm hnc HX.out.1 (by decide) hR)
 have HN1 := Lib.hid (fun w p f hl hR => number_any w g b o n c p f x1 63 12 l (lebN x2 ++ (lebN x3 ++ (lebN (zig m) ++ rest))) hl hn hm hnc HX.out.2.1 (by decide) hR)
 have HN2 := Lib.hid (fun w p f hl hR => number_any w g b o n c p f x2 63 12 l (lebN x3 ++ (lebN (zig m) ++ rest)) hl hn hm hnc HX.out.2.2.1 (by decide) hR)
 have HN3 := Lib.hid (fun w p f hl hR => number_any w g b o n c p f x3 63 12 l (lebN (zig m) ++ rest) hl hn hm hnc HX.out.2.2.2 (by decide) hR)
 have HRT := Lib.hid (fun w A c ht hs => right1_any w ⟨x0, x1, x2, x3, m⟩ A c ht hs)
 rw [hi] at HRT
 have HT := Lib.hid ht
 have HGF := Lib.hid hg
 have R0 := Lib.hid hR
 have HNC := Lib.hid hnc
 have HN := Lib.hid hn
 have HM := Lib.hid hm
 have B0 := Lib.hid (Below.refl w.heap.size w)
 have HLK := (lebF_len 9 (zig m)).1
 rw [show lebF 9 (zig m) = lebN (zig m) from rfl] at HLK
 clear hl hri hi hmi ht hg hR hnc hn hm HX
 unfold insVal
 dsimp only
 generalize lebN x0 = L0 at HL0 HL1 HL2 HL3 HL4 HN0 ⊢
 generalize lebN x1 = L1 at HL0 HL1 HL2 HL3 HL4 HN0 HN1 ⊢
 generalize lebN x2 = L2 at HL0 HL1 HL2 HL3 HL4 HN0 HN1 HN2 ⊢
 generalize lebN x3 = L3 at HL0 HL1 HL2 HL3 HL4 HN0 HN1 HN2 HN3 ⊢
 generalize lebN (zig m) = L4 at HL0 HL1 HL2 HL3 HL4 HN0 HN1 HN2 HN3 HG HLK ⊢
 obtain ⟨p1, hp1⟩ : ∃ q, p + L0.length = q := ⟨_, rfl⟩
 rw [hp1] at HL1 HL2 HL3 HL4 ⊢
 obtain ⟨p2, hp2⟩ : ∃ q, p1 + L1.length = q := ⟨_, rfl⟩
 rw [hp2] at HL2 HL3 HL4 ⊢
 obtain ⟨p3, hp3⟩ : ∃ q, p2 + L2.length = q := ⟨_, rfl⟩
 rw [hp3] at HL3 HL4 ⊢
 obtain ⟨p4, hp4⟩ : ∃ q, p3 + L3.length = q := ⟨_, rfl⟩
 rw [hp4] at HL4 ⊢
 obtain ⟨K, hK⟩ : ∃ q, L4.length = q := ⟨_, rfl⟩
 have HLEN := Lib.hid (show p4 + K + rest.length = n from by
  have e1 := congrArg List.length HL4.out
  have e0 := congrArg List.length HL0.out
  simp only [List.length_drop, List.length_append] at e1 e0
  have := HN.out
  omega)
 have HK1 := Lib.hid HLK
 rw [hK] at HG HK1 ⊢
 have HSL := Lib.hid (fun w' hs => (HL4.out ▸ sl_dropb (w := w') (b := b) (o := o) hs p4 : Sl w' (some ⟨b, o + p4, none⟩) (bts (L4 ++ rest))))
 have HQ := Lib.hid (show n - p4 = (L4 ++ rest).length by rw [← HL4.out, List.length_drop, ← HN.out])
 have HM4 := Lib.hid (show n - p4 ≤ 1000000 by have := HM.out; omega)
 have HP1 := Lib.hid hp1
 have HP2 := Lib.hid hp2
 have HP3 := Lib.hid hp3
 have HP4 := Lib.hid hp4
 clear hp1 hp2 hp3 hp4 hK
 have y1 : w.cell? ⟨g, 1, none⟩ = some (.int .i64 p) := R0.out.r.cell 1
 go_enter Tryz.func26, Tryz.ntmps26
 go_upto_region 1 with fail
 clear y1
 have O2 := Lib.hid (Ob.fresh w 59 [.int .i64 0, .int .i64 0, .int .i64 0, .int .i64 0, .int .i64 0])
 have B1 := Lib.hid (below_alloc (B0.out) (.cells #[.int .i64 0, .int .i64 0, .int .i64 0, .int .i64 0, .int .i64 0] 59))
 have Hq2 := Lib.hid (show w.heap.size ≤ w.heap.size by have := B0.out.size; omega)
 clear B0
 generalize (w.alloc (.cells #[.int .i64 0, .int .i64 0, .int .i64 0, .int .i64 0, .int .i64 0] 59)) = w1 at O2 B1 ⊢
 obtain ⟨q2, hq2⟩ : ∃ q2, w.heap.size = q2 := ⟨_, rfl⟩
 have Hq2 := Lib.hid (Nat.le_of_eq hq2)
 rw [hq2] at O2 ⊢
 clear hq2
 have R1 := Lib.hid (R0.out.below B1.out)
 have y1 : w1.cell? ⟨g, 1, none⟩ = some (.int .i64 p) := R1.out.r.cell 1
 go_wp2_with fail
 clear y1
 refine (HN0.out w1 p f HL0.out R1.out.refl).mono ?_
 rintro e w2 ⟨rfl, r2⟩
 rw [HP1.out] at r2
 have R2 := Lib.hid (R1.out.trans r2)
 have O2b := Lib.hid (O2.out.only r2.k (by have := Hq2.out; have := R0.out.r.lt; omega))
 have B2 := Lib.hid (show w.heap.size ≤ w2.heap.size from R2.out.k.size)
 clear r2 O2 R1
 go_upto_region 3 with fail
 have I3 := Lib.hid (show ISt w (w2.alloc (.cells #[.int .i64 x0, .int .i64 0, .int .i64 0, .int .i64 0, .int .i64 0] 59)) g b o n c p1 p l q2 w2.heap.size x0 0 0 0 0 from ⟨R2.out.alloc _, O2b.out.alloc _, Ob.fresh w2 _ [.int .i64 x0, .int .i64 0, .int .i64 0, .int .i64 0, .int .i64 0], Hq2.out, B2.out, Nat.ne_of_lt O2b.out.lt, R0.out.r.lt, HBL.out⟩)
 clear O2b R2 B2 Hq2 B1
 generalize w2.alloc (.cells #[.int .i64 x0, .int .i64 0, .int .i64 0, .int .i64 0, .int .i64 0] 59) = w3 at I3 ⊢
 generalize w2.heap.size = q4 at I3 ⊢
 go_wp2_with fail
 refine (HN1.out w3 p1 p HL1.out I3.out.R.refl).mono ?_
 rintro e v1 ⟨rfl, r⟩
 rw [HP2.out] at r
 have J1 := Lib.hid (I3.out.num r)
 clear r I3
 have z1 : v1.cell? ⟨q4, 1, none⟩ = some (.int .i64 0) := J1.out.o4.cell 1
 have zf := J1.out.o4.frozen
 go_upto_region 4 with fail
 clear z1 zf
 have S1 := Lib.hid (J1.out.set1 x1)
 clear J1
 generalize v1.setCell ⟨q4, 1, none⟩ (.int .i64 (x1 : Int)) = u1 at S1 ⊢
 go_wp2_with fail
 refine (HN2.out u1 p2 p1 HL2.out S1.out.R.refl).mono ?_
 rintro e v2 ⟨rfl, r⟩
 rw [HP3.out] at r
 have J2 := Lib.hid (S1.out.num r)
 clear r S1
 have z1 : v2.cell? ⟨q4, 2, none⟩ = some (.int .i64 0) := J2.out.o4.cell 2
 have zf := J2.out.o4.frozen
 go_upto_region 5 with fail
 clear z1 zf
 have S2 := Lib.hid (J2.out.set2 x2)
 clear J2
 generalize v2.setCell ⟨q4, 2, none⟩ (.int .i64 (x2 : Int)) = u2 at S2 ⊢
 go_wp2_with fail
 refine (HN3.out u2 p3 p2 HL3.out S2.out.R.refl).mono ?_
 rintro e v3 ⟨rfl, r⟩
 rw [HP4.out] at r
 have J3 := Lib.hid (S2.out.num r)
 clear r S2
 have z1 : v3.cell? ⟨q4, 3, none⟩ = some (.int .i64 0) := J3.out.o4.cell 3
 have zf := J3.out.o4.frozen
 go_upto_region 6 with fail
 clear z1 zf
 have S3 := Lib.hid (J3.out.set3 x3)
 clear J3
 generalize v3.setCell ⟨q4, 3, none⟩ (.int .i64 (x3 : Int)) = u3 at S3 ⊢
 have y1 : u3.cell? ⟨g, 1, none⟩ = some (.int .i64 p4) := S3.out.R.r.cell 1
 have y2 : u3.cell? ⟨g, 2, none⟩ = some (.int .i64 p3) := S3.out.R.r.cell 2
 have y3 : u3.cell? ⟨g, 3, none⟩ = some (.int .i64 0) := S3.out.R.r.cell 3
 have yf := S3.out.R.r.frozen
 go_upto_region 9 with fail
 clear y1 y2 y3 yf
 have S4 := Lib.hid (S3.out.fld p4)
 clear S3
 generalize u3.setCell ⟨g, 2, none⟩ (.int .i64 (p4 : Int)) = u4 at S4 ⊢
 have hp := HLEN.out
 have g1 : (p4 : Int) ≤ (n : Int) := by omega
 have g0 : (0 : Int) ≤ (p4 : Int) := by omega
 have g2 : (n : Int) ≤ (c : Int) := by have := HNC.out; omega
 have g3 : (p4 : Int) ≤ (c : Int) := by omega
 have g8 : ¬ c = p4 := by have := HK1.out; omega
 have g7 : wrap64 ((p4 : Int) + (K : Int)) = (p4 : Int) + (K : Int) := by have := HM.out; unfold wrap64; omega
 obtain ⟨wd, hwd⟩ : ∃ wd, u4.drew = wd := ⟨_, rfl⟩
 have RD := Lib.hid (hwd ▸ S4.out.drew)
 clear S4 hp
 refine wp_region_held_drew (S := fun w' => (w'.cell? ⟨g, 0, none⟩ = some (.slice (some ⟨b, o, none⟩) n c) ∧ w'.cell? ⟨g, 1, none⟩ = some (.int .i64 p4))) (by kernel_rfl) (by rw [hwd]; exact ⟨RD.out.R.r.cell 0, RD.out.R.r.cell 1⟩) (fun hHeld => ?_)
 refine tkq 0 38 rfl (by kernel_rfl) (by rfl) hHeld (fun _ _ _ h => h) (by intro w' hSw; go_simp; try with_reducible rfl) ?_
 simp only [Act.put, spa, spb, spc]
 refine tkq 1 39 rfl (by kernel_rfl) (by rfl) hHeld (fun _ _ _ h => h) (by intro w' hSw; go_simp; try with_reducible rfl) ?_
 simp only [Act.put, spa, spb, spc]
 refine tkq 2 40 rfl (by kernel_rfl) (by rfl) hHeld (fun _ _ _ h => h) (by intro w' hSw; go_simp; try with_reducible rfl) ?_
 simp only [Act.put, spa, spb, spc]
 refine tkq 3 41 rfl (by kernel_rfl) (by rfl) hHeld (fun _ _ _ h => h) (by intro w' hSw; go_simp; try with_reducible rfl) ?_
 simp only [Act.put, spa, spb, spc]
 refine tkq 4 42 rfl (by kernel_rfl) (by rfl) hHeld (fun _ _ _ h => h) (by intro w' hSw; go_simp; try with_reducible rfl) ?_
 simp only [Act.put, spa, spb, spc]
 refine tkq 5 43 rfl (by kernel_rfl) (by rfl) hHeld (fun _ _ _ h => h) (by intro w' hSw; go_simp; try with_reducible rfl) ?_
 simp only [Act.put, spa, spb, spc]
 refine tkq 6 44 rfl (by kernel_rfl) (by rfl) hHeld (fun _ _ _ h => h) (by intro w' hSw; go_simp; try with_reducible rfl) ?_
 simp only [Act.put, spa, spb, spc]
 refine tkq 7 45 rfl (by kernel_rfl) (by rfl) hHeld (fun _ _ _ h => h) (by intro w' hSw; go_simp; try with_reducible rfl) ?_
 simp only [Act.put, spa, spb, spc]
 refine tkq 8 46 rfl (by kernel_rfl) (by rfl) hHeld (fun _ _ _ h => h) (by intro w' hSw; go_simp; try with_reducible rfl) ?_
 simp only [Act.put, spa, spb, spc]
 refine rdq 9 ⟨some 47, _, _, _, _, _⟩ (by kernel_rfl) rfl (fun K' hK => ?_)
 go_simp
 refine (HG.out wd (some ⟨b, o + p4, none⟩) (n - p4) _ HQ.out HM4.out (HSL.out wd RD.out.R.s)).mono ?_
 rintro e wx ⟨rfl, bx⟩
 have RX := Lib.hid (RD.out.below bx)
 clear bx
 refine hK.out _ _ ⟨RX.out.R.r.cell 0, RX.out.R.r.cell 1⟩ (fun hHeld => ?_)
 clear hK K'
 refine tkq 10 37 rfl (by kernel_rfl) (by rfl) hHeld (fun _ _ _ h => h) (by intro w' hSw; go_simp; try with_reducible rfl) ?_
 simp only [Act.put, spa, spb, spc]
 refine tkq 11 48 rfl (by kernel_rfl) (by rfl) hHeld (fun _ _ _ h => h) (by intro w' hSw; go_simp; try with_reducible rfl) ?_
 simp only [Act.put, spa, spb, spc]
 refine tkq 12 49 rfl (by kernel_rfl) (by rfl) hHeld (fun _ _ _ h => h) (by intro w' hSw; go_simp; try with_reducible rfl) ?_
 simp only [Act.put, spa, spb, spc]
 refine tkq 13 50 rfl (by kernel_rfl) (by rfl) hHeld (fun _ _ _ h => h) (by intro w' hSw; go_simp; try with_reducible rfl) ?_
 simp only [Act.put, spa, spb, spc]
 refine tkq 14 5 rfl (by kernel_rfl) (by rfl) hHeld (fun _ _ _ h => h) (by intro w' hSw; go_simp; try with_reducible rfl) ?_
 simp only [Act.put, spa, spb, spc]
 refine tkq 15 6 rfl (by kernel_rfl) (by rfl) hHeld (fun _ _ _ h => h) (by intro w' hSw; go_simp; try with_reducible rfl) ?_
 simp only [Act.put, spa, spb, spc]
 refine tkq 16 7 rfl (by kernel_rfl) (by rfl) hHeld (fun _ _ _ h => h) (by intro w' hSw; go_simp; try with_reducible rfl) ?_
 simp only [Act.put, spa, spb, spc]
 refine wpAnyH_done (by kernel_rfl) ?_ _
 clear hHeld RD hwd
 have y1 : wx.cell? ⟨g, 1, none⟩ = some (.int .i64 p4) := RX.out.R.r.cell 1
 have yf := RX.out.R.r.frozen
 go_upto_region 11 with fail
 clear y1 yf
 have RY := Lib.hid (show ISt w (wx.setCell ⟨g, 1, none⟩ (.int .i64 ((p4 : Int) + (K : Int)))) g b o n c (p4 + K) p4 l q2 q4 x0 x1 x2 x3 0 from Int.natCast_add p4 K ▸ RX.out.at_ (p4 + K))
 clear RX
 generalize wx.setCell ⟨g, 1, none⟩ (.int .i64 ((p4 : Int) + (K : Int))) = wy at RY ⊢
 have z1 : wy.cell? ⟨q4, 4, none⟩ = some (.int .i64 0) := RY.out.o4.cell 4
 have zf := RY.out.o4.frozen
 go_upto_region 12 with fail
 clear z1 zf
 have RZ := Lib.hid (RY.out.set4 m)
 clear RY
 generalize wy.setCell ⟨q4, 4, none⟩ (.int .i64 m) = wz at RZ ⊢
 have i0 : wz.cell? ⟨q4, 0, none⟩ = some (.int .i64 x0) := RZ.out.o4.cell 0
 have i1 : wz.cell? ⟨q4, 1, none⟩ = some (.int .i64 x1) := RZ.out.o4.cell 1
 have i2 : wz.cell? ⟨q4, 2, none⟩ = some (.int .i64 x2) := RZ.out.o4.cell 2
 have i3 : wz.cell? ⟨q4, 3, none⟩ = some (.int .i64 x3) := RZ.out.o4.cell 3
 have i4 : wz.cell? ⟨q4, 4, none⟩ = some (.int .i64 m) := RZ.out.o4.cell 4
 go_wp2_with fail
 clear i0 i1 i2 i3 i4
 refine (HRT.out _ _ _ ((frm_only HT.out RZ.out.R.k HGF.out).alloc _) (Sl.fresh wz #[.int .i64 x0, .int .i64 x1, .int .i64 x2, .int .i64 x3, .int .i64 m] 59 (0, 0))).mono ?_
 rintro e wa ⟨rfl, ba⟩
 have RA := Lib.hid ((RZ.out.below (below_alloc (Below.refl _ _) _)).below ba)
 clear ba RZ
 have i0 : wa.cell? ⟨q4, 0, none⟩ = some (.int .i64 x0) := RA.out.o4.cell 0
 have i1 : wa.cell? ⟨q4, 1, none⟩ = some (.int .i64 x1) := RA.out.o4.cell 1
 have i2 : wa.cell? ⟨q4, 2, none⟩ = some (.int .i64 x2) := RA.out.o4.cell 2
 have i3 : wa.cell? ⟨q4, 3, none⟩ = some (.int .i64 x3) := RA.out.o4.cell 3
 have i4 : wa.cell? ⟨q4, 4, none⟩ = some (.int .i64 m) := RA.out.o4.cell 4
 have z0 : wa.cell? ⟨q2, 0, none⟩ = some (.int .i64 0) := RA.out.o2.cell 0
 have z1 : wa.cell? ⟨q2, 1, none⟩ = some (.int .i64 0) := RA.out.o2.cell 1
 have z2 : wa.cell? ⟨q2, 2, none⟩ = some (.int .i64 0) := RA.out.o2.cell 2
 have z3 : wa.cell? ⟨q2, 3, none⟩ = some (.int .i64 0) := RA.out.o2.cell 3
 have z4 : wa.cell? ⟨q2, 4, none⟩ = some (.int .i64 0) := RA.out.o2.cell 4
 have zf := RA.out.o2.frozen
 go_wp2_with fail
 clear i0 i1 i2 i3 i4 z0 z1 z2 z3 z4 zf
 have OF := Lib.hid (show Ob (((((wa.setCell ⟨q2, 0, none⟩ (.int .i64 (x0 : Int))).setCell ⟨q2, 1, none⟩ (.int .i64 (x1 : Int))).setCell ⟨q2, 2, none⟩ (.int .i64 (x2 : Int))).setCell ⟨q2, 3, none⟩ (.int .i64 (x3 : Int))).setCell ⟨q2, 4, none⟩ (.int .i64 m)) q2 59 [.int .i64 x0, .int .i64 x1, .int .i64 x2, .int .i64 x3, .int .i64 m] from (((((RA.out.o2.set_ 0 _).set_ 1 _).set_ 2 _).set_ 3 _).set_ 4 _))
 have RF := Lib.hid (show RdS w (((((wa.setCell ⟨q2, 0, none⟩ (.int .i64 (x0 : Int))).setCell ⟨q2, 1, none⟩ (.int .i64 (x1 : Int))).setCell ⟨q2, 2, none⟩ (.int .i64 (x2 : Int))).setCell ⟨q2, 3, none⟩ (.int .i64 (x3 : Int))).setCell ⟨q2, 4, none⟩ (.int .i64 m)) g b o n c (p4 + K) p4 l from (RdS.far (RdS.far (RdS.far (RdS.far (RdS.far RA.out.R (q := ⟨q2, 0, none⟩) RA.out.l2 RA.out.ne2 RA.out.nb2 _) (q := ⟨q2, 1, none⟩) RA.out.l2 RA.out.ne2 RA.out.nb2 _) (q := ⟨q2, 2, none⟩) RA.out.l2 RA.out.ne2 RA.out.nb2 _) (q := ⟨q2, 3, none⟩) RA.out.l2 RA.out.ne2 RA.out.nb2 _) (q := ⟨q2, 4, none⟩) RA.out.l2 RA.out.ne2 RA.out.nb2 _))
 clear RA
 generalize (((((wa.setCell ⟨q2, 0, none⟩ (.int .i64 (x0 : Int))).setCell ⟨q2, 1, none⟩ (.int .i64 (x1 : Int))).setCell ⟨q2, 2, none⟩ (.int .i64 (x2 : Int))).setCell ⟨q2, 3, none⟩ (.int .i64 (x3 : Int))).setCell ⟨q2, 4, none⟩ (.int .i64 m)) = wf at OF RF ⊢
 have s0 := OF.out.c0
 have s1 := OF.out.c1
 have s2 := OF.out.c2
 have s3 := OF.out.c3
 have s4 := OF.out.c4
 exact bodyPost_ret (v := .agg #[.int .i64 x0, .int .i64 x1, .int .i64 x2, .int .i64 x3, .int .i64 m]) (by simp [results, Tryz.results26, go_sem, s0, s1, s2, s3, s4]) rfl ⟨rfl, p4, RF.out⟩
end Go.Proofs.YtikkmkomlajnfaaGreatDoor.Wf
end
