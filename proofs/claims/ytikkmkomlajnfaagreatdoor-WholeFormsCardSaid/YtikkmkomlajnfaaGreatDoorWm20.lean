/-
  Layer 9: what stands around the judge's object; widen. Conditions: those of each theorem.
  Layer 9: one. Conditions: those of each theorem.
  Layer 9: ways. Conditions: those of each theorem.
-/
import Derived.Test.YtikkmkomlajnfaaGreatDoorWm01
import Derived.Test.YtikkmkomlajnfaaGreatDoorWm19
import Derived.Test.YtikkmkomlajnfaaGreatDoorWm07
import Derived.Deep.DeepCutAuto
set_option linter.unusedVariables false
set_option linter.unusedSimpArgs false
section
namespace Go.Proofs.YtikkmkomlajnfaaGreatDoor.Jd
set_option maxRecDepth 100000
set_option maxHeartbeats 4000000
open Go.RowKit
open Go.Proofs.YtikkmkomlajnfaaGreatDoor.Op (InstV insc insVal inss ins0 ins_at rightV right_is Frm goesV writesV sourceV LoopV lpc lps lp0 lp_at writes_any meas_lt)

def Apt (A : Option Addr) (gc ga : Nat) : Prop := ∀ a, A = some a → ¬ (a.block = gc ∨ a.block = ga)
theorem sl_tch {S : Nat → Prop} {w w' : World} {A : Option Addr} {xs : List Value} (h : Sl w A xs) (k : Tch S w w') (hn : ∀ a, A = some a → ¬ S a.block) : Sl w' A xs := fun hp => by
 obtain ⟨b, o, e, hc⟩ := h hp
 refine ⟨b, o, e, fun j hj => ?_⟩
 have h1 := hc j hj
 have hb : b < w.heap.size := cell_lt h1
 have h2 := k.block b hb (hn _ e)
 rw [← h1]
 unfold World.cell?
 rw [h2]
/-- what stands around -/
structure JEnv (w : World) (gc ga : Nat) (cA lA : Option Addr) (l : List InstV) (ls : List LoopV) : Prop where
 f : Frm w
 t : Sg.Tab w
 gf : ¬ (0 = gc ∨ 0 = ga)
 gt : ¬ (5 = gc ∨ 5 = ga)
 c : Sl w cA (inss l)
 s : Sl w lA (lps ls)
 ca : Apt cA gc ga
 sa : Apt lA gc ga
theorem JEnv.below {w w' : World} {gc ga : Nat} {cA lA : Option Addr} {l : List InstV} {ls : List LoopV} (h : JEnv w gc ga cA lA l ls) (hb : Below w.heap.size w w') : JEnv w' gc ga cA lA l ls :=
 ⟨h.f.below hb, h.t.below hb, h.gf, h.gt, h.c.below hb, h.s.below hb, h.ca, h.sa⟩
theorem JEnv.tch {w w' : World} {gc ga : Nat} {cA lA : Option Addr} {l : List InstV} {ls : List LoopV} (h : JEnv w gc ga cA lA l ls) (k : JTch w w' gc ga) : JEnv w' gc ga cA lA l ls := by
 refine ⟨?_, Sg.Tab.tch h.t k h.gt, h.gf, h.gt, sl_tch h.c k h.ca, sl_tch h.s k h.sa, h.ca, h.sa⟩
 have hl := h.f.lt
 obtain ⟨t, fr, hh⟩ := h.f
 exact ⟨t, fr, (k.block _ hl h.gf).trans hh⟩
theorem JTch.trans {a b c : World} {gc ga : Nat} (h : JTch a b gc ga) (k : JTch b c gc ga) : JTch a c gc ga := Tch.trans h k
theorem JTch.of {a b : World} {gc ga : Nat} (h : Below a.heap.size a b) : JTch a b gc ga := Tch.of_below h
theorem JTch.refl (a : World) (gc ga : Nat) : JTch a a gc ga := Tch.refl _ a
/-- what one instruction's writing makes forgotten -/
def fullT : JT := numT 0#64 Sp.mostB
def wid1 (K : Nat → JT) (i : InstV) : Nat → JT := if (writesV i).2 = true then updT K (writesV i).1.toNat (if (K (writesV i).1.toNat).k = 1 then fullT else j0) else K
def widF (l : List InstV) : (Nat → JT) → Nat → Nat → (Nat → JT)
 | K, _, 0 => K
 | K, j, f + 1 => widF l (wid1 K (l.getD j ins0)) (j + 1) f
def widX (l : List InstV) (p : Int) (K : Nat → JT) (x : LoopV) : Nat → JT := if x.h = p then widF l K x.h.toNat (x.a + 1 - x.h).toNat else K
def widP (ls : List LoopV) (l : List InstV) (p : Int) : (Nat → JT) → Nat → Nat → (Nat → JT)
 | K, _, 0 => K
 | K, k, f + 1 => widP ls l p (widX l p K (ls.getD k lp0)) (k + 1) f
theorem writes_r {i : InstV} (h : rightV i = true) : 0 ≤ (writesV i).1 ∧ (writesV i).1 < 8 := by
 unfold writesV
 rw [if_pos h]
 have r := right_is h
 split
 · rename_i h2
   exact ⟨r.d0, r.d8 h2⟩
 exact ⟨Int.le_refl _, by show (0 : Int) < 8; decide⟩

theorem widen_any (w : World) (g gc ga n nc na : Nat) (mV : Value) (cA lA : Option Addr) (cc L lc : Nat) (C : Nat → Nat → JT) (N : Nat → Bool) (p : Nat) (l : List InstV) (ls : List LoopV) (hp : p < n) (hm : n ≤ 64) (hn : n = l.length) (hcc : n ≤ cc) (hL : L = ls.length) (hL64 : L ≤ 64)
 (hr : ∀ i ∈ l, rightV i = true) (hls : ∀ k, k < L → 0 ≤ (ls.getD k lp0).h ∧ (ls.getD k lp0).h ≤ (ls.getD k lp0).a ∧ (ls.getD k lp0).a < n)
 (he : JEnv w gc ga cA lA l ls) (hj : JAt w g gc ga n nc na mV (.slice cA n cc) (.slice lA L lc) C N) :
 Calls Tryz.prog 54 #[.pointer (some ⟨g, 0, none⟩), .int .i64 p] w fun e w' => e = .returned (.tuple #[]) ∧ JAt w' g gc ga n nc na mV (.slice cA n cc) (.slice lA L lc) (updC C p (widP ls l p (C p) 0 L)) N ∧ JTch w w' gc ga := by
 have HP := Lib.hid hp
 have HN := Lib.hid hn
 have HL := Lib.hid hL
 have HLS := Lib.hid hls
 have HR := Lib.hid hr
 have HNC := Lib.hid hcc
 have HL6 := Lib.hid hL64
 have HM := Lib.hid hm
 have HE := Lib.hid he
 have HJ := Lib.hid hj
 have HWR := Lib.hid (fun w i ht => writes_any w i ht)
 have HFU := Lib.hid (fun w => Sp.full_any w)
 have HNU := Lib.hid (fun w lo hi => number_any w lo hi)
 have j4 : w.cell? ⟨g, 4, none⟩ = some (.slice lA L lc) := hj.o.cell 4
 obtain ⟨V, hV⟩ : ∃ V, widP ls l p (C p) 0 L = V := ⟨_, rfl⟩
 rw [hV]
 have HV := Lib.hid hV
 have hC0 : C = updC C p (C p) := by
  funext i
  unfold updC
  by_cases e : i = p
  · rw [if_pos e, e]
  rw [if_neg e]
 have HC0 := Lib.hid hC0
 clear hj he hp hn hL hr hls hV hcc hC0 hL64 hm
 go_enter Tryz.func54, Tryz.ntmps54
 go_wp2_with fail
 go_loopw [15] (fun i wr => ∃ (k : Nat) (K : Nat → JT), k ≤ L ∧ i = .int .i64 k ∧ widP ls l p K k (L - k) = V ∧ JAt wr g gc ga n nc na mV (.slice cA n cc) (.slice lA L lc) (updC C p K) N ∧ JTch w wr gc ga) (fun i _ => L - (intOf i).toNat)
 case atStart => exact ⟨0, C p, Nat.zero_le _, rfl, HV.out, by rw [← HC0.out]; exact HJ.out, JTch.refl _ _ _⟩
 case round =>
  obtain ⟨k, K, hk, rfl, hv, hj, ht⟩ := hrel
  clear HV
  have HV := Lib.hid hv
  have JW := Lib.hid hj
  have TW := Lib.hid ht
  have EW := Lib.hid (HE.out.tch ht)
  clear hv hj ht j4
  by_cases hlt : k < L
  · have g1 : (k : Int) < (L : Int) := by omega
    have g0 : (0 : Int) ≤ (k : Int) := by omega
    have g4 : wrap64 ((k : Int) + 1) = (k : Int) + 1 := by have := HL6.out; unfold wrap64; omega
    have hkl : k < ls.length := by have := HL.out; omega
    obtain ⟨bq, oq, rfl, _, hc⟩ := lp_at EW.out.s (by omega)
    obtain ⟨c0, c1, c2⟩ := hc k hkl
    have HLK := Lib.hid (HLS.out k hlt)
    have HSV := Lib.hid (show widP ls l p (widX l p K (ls.getD k lp0)) (k + 1) (L - (k + 1)) = V by rw [← HV.out, show L - k = (L - (k + 1)) + 1 by omega]; rfl)
    clear hc hkl HV
    generalize ls.getD k lp0 = x at c0 c1 c2 HSV HLK
    obtain ⟨h, a, b⟩ := x
    dsimp only at c0 c1 c2 HLK
    have B0 := Lib.hid (Below.refl wr.heap.size wr)
    go_upto_region 3 with fail
    clear c0 c1 c2
    have O1 := Lib.hid (Ob.fresh wr 172 [.int .i64 h, .int .i64 a, .int .i64 b])
    have B1 := Lib.hid (below_alloc (B0.out) (.cells #[.int .i64 h, .int .i64 a, .int .i64 b] 172))
    have Hq1 := Lib.hid (show wr.heap.size ≤ wr.heap.size by have := B0.out.size; omega)
    clear B0
    generalize (wr.alloc (.cells #[.int .i64 h, .int .i64 a, .int .i64 b] 172)) = w3 at O1 B1 ⊢
    obtain ⟨q1, hq1⟩ : ∃ q1, wr.heap.size = q1 := ⟨_, rfl⟩
    have Hq1 := Lib.hid (Nat.le_of_eq hq1)
    rw [hq1] at O1 ⊢
    clear hq1
    have J3 := Lib.hid (JW.out.below B1.out)
    have E3 := Lib.hid (EW.out.below B1.out)
    have T3 := Lib.hid (JTch.trans TW.out (JTch.of B1.out))
    clear B1 JW EW TW Hq1
    have i0 := O1.out.c0
    have i1 := O1.out.c1
    have y1 : w3.cell? ⟨g, 1, none⟩ = some (.slice cA n cc) := J3.out.o.cell 1
    by_cases hhp : h = (p : Int)
    · subst hhp
      obtain ⟨a', rfl⟩ : ∃ a' : Nat, a = a' := ⟨a.toNat, by have := HLK.out; omega⟩
      have hpa : p ≤ a' := by have := HLK.out.2.1; omega
      have han : a' < n := by have := HLK.out.2.2; omega
      have HW := Lib.hid (show widX l p K ⟨(p : Int), a', b⟩ = widF l K p (a' + 1 - p) by unfold widX; rw [if_pos rfl, Int.toNat_natCast, show ((a' : Int) + 1 - (p : Int)).toNat = a' + 1 - p by omega])
      have g6 : wrap64 ((a' : Int) + 1) = (a' : Int) + 1 := by have := HM.out; unfold wrap64; omega
      have g7 : (p : Int) ≤ (a' : Int) + 1 := by omega
      have g8 : (a' : Int) + 1 ≤ (cc : Int) := by have := HNC.out; omega
      go_upto_region 4 with fail
      obtain ⟨bc, oc, e, _, _⟩ := ins_at E3.out.c (by have := HN.out; omega)
      subst e
      go_quiet (fail)
      have J4 := Lib.hid (J3.out.drewN nq)
      have E4 := Lib.hid (E3.out.below (below_drewN (Below.refl _ _) nq))
      have T4 := Lib.hid (JTch.trans T3.out (JTch.of (below_drewN (Below.refl _ _) nq)))
      clear J3 E3 T3 O1 i0 i1 y1
      generalize w3.drewN nq = w4 at J4 E4 T4 ⊢
      obtain ⟨M, hM⟩ : ∃ M, a' + 1 - p = M := ⟨_, rfl⟩
      have HMM := Lib.hid (show p + M ≤ n by omega)
      rw [hM] at HW ⊢
      have HSV := Lib.hid (show widP ls l p (widF l K p M) (k + 1) (L - (k + 1)) = V by rw [← HSV.out, HW.out])
      clear hM g6 g7 g8 hpa han HW HLK
      obtain ⟨Z, hZ⟩ : ∃ Z, widF l K p M = Z := ⟨_, rfl⟩
      have HZ := Lib.hid hZ
      rw [hZ] at HSV
      clear hZ
      have HK2 := Lib.hid (And.intro hk hlt)
      have G4 := Lib.hid g4
      clear hk hlt g0 g1 g4
      go_wp2_with fail
      go_loopw [35] (fun i wq => ∃ (j : Nat) (K' : Nat → JT), j ≤ M ∧ i = .int .i64 j ∧ widF l K' (p + j) (M - j) = Z ∧ JAt wq g gc ga n nc na mV (.slice (some ⟨bc, oc, none⟩) n cc) (.slice (some ⟨bq, oq, none⟩) L lc) (updC C p K') N ∧ JTch w wq gc ga) (fun i _ => M - (intOf i).toNat)
      case atStart => exact ⟨0, K, Nat.zero_le _, rfl, HZ.out, J4.out, T4.out⟩
      case round =>
       obtain ⟨j, K2, hjM, rfl, hv, hj, ht⟩ := hrel
       clear HZ
       have HZ := Lib.hid hv
       have JX := Lib.hid hj
       have TX := Lib.hid ht
       have EX := Lib.hid (HE.out.tch ht)
       clear hv hj ht J4 E4 T4
       by_cases hjm : j < M
       · have g3 : (j : Int) < (M : Int) := by omega
         have g5 : (0 : Int) ≤ (j : Int) := by omega
         have g9 : wrap64 ((j : Int) + 1) = (j : Int) + 1 := by have := HMM.out; have := HM.out; unfold wrap64; omega
         have hpj : p + j < l.length := by have := HMM.out; have := HN.out; omega
         obtain ⟨bc', oc', e, _, hc⟩ := ins_at EX.out.c (by omega)
         cases e
         obtain ⟨c0, c1, c2, c3, c4⟩ := hc (p + j) hpj
         rw [show oc + (p + j) * 5 = oc + p * 5 + j * 5 by omega] at c0 c1 c2 c3 c4
         have HSX := Lib.hid (show widF l (wid1 K2 (l.getD (p + j) ins0)) (p + (j + 1)) (M - (j + 1)) = Z by rw [← HZ.out, show M - j = (M - (j + 1)) + 1 by omega]; rfl)
         have hri := HR.out (l.getD (p + j) ins0) (by rw [List.getD_eq_getElem?_getD, List.getElem?_eq_getElem hpj]; exact List.getElem_mem hpj)
         have hwr := writes_r hri
         have HWI := Lib.hid (fun w ht => HWR.out w (l.getD (p + j) ins0) ht)
         clear hc hpj HZ hri
         generalize l.getD (p + j) ins0 = i at c0 c1 c2 c3 c4 HSX hwr HWI
         have HW1 := Lib.hid (show wid1 K2 i = if (writesV i).2 = true then updT K2 (writesV i).1.toNat (if (K2 (writesV i).1.toNat).k = 1 then fullT else j0) else K2 from rfl)
         obtain ⟨⟨r, wt⟩, hwv⟩ : ∃ x, writesV i = x := ⟨_, rfl⟩
         rw [hwv] at hwr HWI HW1
         clear hwv
         generalize wid1 K2 i = K3 at HSX HW1
         obtain ⟨op, d, a, b, m⟩ := i
         unfold insVal at HWI
         dsimp only at c0 c1 c2 c3 c4 hwr HWI HW1
         obtain ⟨r, rfl⟩ : ∃ rn : Nat, r = rn := ⟨r.toNat, by omega⟩
         rw [Int.toNat_natCast] at HW1
         have hr8 : r < 8 := by omega
         have HR8 := Lib.hid hr8
         clear hwr
         have B0 := Lib.hid (Below.refl wr.heap.size wr)
         have gb : (r : Int) < 8 := by omega
         clear hr8
         go_upto_region 7 with fail
         clear c0 c1 c2 c3 c4
         have O1 := Lib.hid (Ob.fresh wr 59 [.int .i64 op, .int .i64 d, .int .i64 a, .int .i64 b, .int .i64 m])
         have B1 := Lib.hid (below_alloc (B0.out) (.cells #[.int .i64 op, .int .i64 d, .int .i64 a, .int .i64 b, .int .i64 m] 59))
         have Hq2 := Lib.hid (show wr.heap.size ≤ wr.heap.size by have := B0.out.size; omega)
         clear B0
         generalize (wr.alloc (.cells #[.int .i64 op, .int .i64 d, .int .i64 a, .int .i64 b, .int .i64 m] 59)) = w5 at O1 B1 ⊢
         obtain ⟨q2, hq2⟩ : ∃ q2, wr.heap.size = q2 := ⟨_, rfl⟩
         have Hq2 := Lib.hid (Nat.le_of_eq hq2)
         rw [hq2] at O1 ⊢
         clear hq2
         have J5 := Lib.hid (JX.out.below B1.out)
         have E5 := Lib.hid (EX.out.below B1.out)
         have T5 := Lib.hid (JTch.trans TX.out (JTch.of B1.out))
         clear B1 JX EX TX Hq2
         have i0 := O1.out.c0
         have i1 := O1.out.c1
         have i2 := O1.out.c2
         have i3 := O1.out.c3
         have i4 := O1.out.c4
         go_wp2_with fail
         refine (HWI.out w5 E5.out.f).mono ?_
         rintro e w6 ⟨rfl, b6⟩
         have J6 := Lib.hid (J5.out.below b6)
         have E6 := Lib.hid (E5.out.below b6)
         have T6 := Lib.hid (JTch.trans T5.out (JTch.of b6))
         clear b6 J5 E5 T5 O1 i0 i1 i2 i3 i4 HWI
         cases wt
         · have HX2 := Lib.hid (show widF l K2 (p + (j + 1)) (M - (j + 1)) = Z by rw [← HSX.out, HW1.out]; rfl)
           clear HSX HW1
           go_wp2_with fail
           go_roundw
           case rel => exact ⟨j + 1, K2, Nat.succ_le_of_lt hjm, by first | exact congrArg (Value.int .i64) (g9.trans (by push_cast; rfl)) | go_num, HX2.out, J6.out, T6.out⟩
           case measure => first | exact meas_lt hjm | (rw [g9]; exact meas_lt hjm)
         have hg := J6.out.reg HP.out HR8.out
         rw [show updC C p K2 p r = K2 r by unfold updC; rw [if_pos rfl]] at hg
         obtain ⟨y0, y1, y2, y3⟩ := hg
         have yg : w6.cell? ⟨g, 2, none⟩ = some (.slice (some ⟨gc, 0, none⟩) n nc) := J6.out.o.cell 2
         have fz := J6.out.c.frozen
         have gp : (p : Int) < (n : Int) := by have := HP.out; omega
         by_cases hk1 : (K2 r).k = 1
         · rw [hk1] at y0
           have HX2 := Lib.hid (show widF l (updT K2 r fullT) (p + (j + 1)) (M - (j + 1)) = Z by rw [← HSX.out, HW1.out, if_pos rfl, if_pos hk1])
           clear HSX HW1 hk1
           go_upto_region 10 with fail
           refine wp_region_held_drew (S := fun w' => w'.cell? ⟨g, 2, none⟩ = some (.slice (some ⟨gc, 0, none⟩) n nc)) (by kernel_rfl) yg (fun hHeld => ?_)
           refine tkq 0 57 rfl (by kernel_rfl) (by rfl) hHeld (fun _ _ _ h => h) (by intro w' hSw; go_simp; try with_reducible rfl) ?_
           simp only [Act.put, spa, spb, spc]
           refine tkq 1 58 rfl (by kernel_rfl) (by rfl) hHeld (fun _ _ _ h => h) (by intro w' hSw; go_simp; try with_reducible rfl) ?_
           simp only [Act.put, spa, spb, spc]
           refine tkq 2 59 rfl (by kernel_rfl) (by rfl) hHeld (fun _ _ _ h => h) (by intro w' hSw; go_simp; try with_reducible rfl) ?_
           simp only [Act.put, spa, spb, spc]
           refine tkq 3 60 rfl (by kernel_rfl) (by rfl) hHeld (fun _ _ _ h => h) (by intro w' hSw; go_simp; try with_reducible rfl) ?_
           simp only [Act.put, spa, spb, spc]
           refine tkq 4 61 rfl (by kernel_rfl) (by rfl) hHeld (fun _ _ _ h => h) (by intro w' hSw; go_simp; try with_reducible rfl) ?_
           simp only [Act.put, spa, spb, spc]
           refine tkq 5 62 rfl (by kernel_rfl) (by rfl) hHeld (fun _ _ _ h => h) (by intro w' hSw; go_simp; try with_reducible rfl) ?_
           simp only [Act.put, spa, spb, spc]
           refine tkq 8 65 rfl (by kernel_rfl) (by rfl) hHeld (fun _ _ _ h => h) (by intro w' hSw; go_simp; try with_reducible rfl) ?_
           simp only [Act.put, spa, spb, spc]
           refine rdq 6 ⟨some 63, _, _, _, _, _⟩ (by kernel_rfl) rfl (fun K' hK => ?_)
           go_simp
           refine (HFU.out _).mono ?_
           rintro e wx ⟨rfl, bx⟩
           dsimp only
           refine hK.out _ _ (keepS bx yg) (fun hHeld => ?_)
           clear hK K'
           refine rdq 7 ⟨some 64, _, _, _, _, _⟩ (by kernel_rfl) rfl (fun K' hK => ?_)
           go_simp
           refine (HNU.out _ 0#64 Sp.mostB).mono ?_
           rintro e wz ⟨rfl, bz⟩
           dsimp only [jVal, numT]
           refine hK.out _ _ (keepS bz (keepS bx yg)) (fun hHeld => ?_)
           clear hK K'
           refine tkq 9 66 rfl (by kernel_rfl) (by rfl) hHeld (fun _ _ _ h => h) (by intro w' hSw; go_simp; try with_reducible rfl) ?_
           simp only [Act.put, spa, spb, spc]
           have JZ := Lib.hid (((J6.out.drewN 1).below bx).below bz)
           have TZ := Lib.hid (JTch.trans T6.out (JTch.trans (JTch.of (below_drewN (Below.refl _ _) 1)) (JTch.trans (JTch.of bx) (JTch.of bz))))
           have x0 := keepS bz (keepS bx y0)
           have x1 := keepS bz (keepS bx y1)
           have x2 := keepS bz (keepS bx y2)
           have x3 := keepS bz (keepS bx y3)
           have fy := JZ.out.c.frozen
           clear bz bx hHeld y0 y1 y2 y3 yg fz
           refine rdq 10 ⟨none, _, _, _, _, _⟩ (by kernel_rfl) rfl (fun K' hK => ?_)
           go_simp
           have HZ4 := Lib.hid (JZ.out.set4 (p := p) HR8.out fullT)
           have HZT := Lib.hid (show JTch w _ gc ga from Tch.setCell (p := ⟨gc, p * 32 + r * 4 + 3, none⟩) (Tch.setCell (p := ⟨gc, p * 32 + r * 4 + 2, none⟩) (Tch.setCell (p := ⟨gc, p * 32 + r * 4 + 1, none⟩) (Tch.setCell (p := ⟨gc, p * 32 + r * 4, none⟩) (TZ.out) (Or.inl rfl) (.int .i64 1)) (Or.inl rfl) (.int .u64 (uv 0#64))) (Or.inl rfl) (.int .u64 (uv Sp.mostB))) (Or.inl rfl) (.int .i64 0))
           simp only [fullT, numT] at HZ4
           refine hK.out _ _ (HZ4.out.o.cell 2) (fun hHeld => ?_)
           clear hK K' hHeld x0 x1 x2 x3 fy
           generalize ((((wz.setCell ⟨gc, p * 32 + r * 4, none⟩ (.int .i64 1)).setCell ⟨gc, p * 32 + r * 4 + 1, none⟩ (.int .u64 (uv 0#64))).setCell ⟨gc, p * 32 + r * 4 + 2, none⟩ (.int .u64 (uv Sp.mostB))).setCell ⟨gc, p * 32 + r * 4 + 3, none⟩ (.int .i64 0)) = wf at HZ4 HZT ⊢
           clear JZ TZ
           refine wpAnyH_done (by kernel_rfl) ?_ _
           go_wp2_with fail
           go_roundw
           case rel => exact ⟨j + 1, (updT K2 r fullT), Nat.succ_le_of_lt hjm, by first | exact congrArg (Value.int .i64) (g9.trans (by push_cast; rfl)) | go_num, HX2.out, HZ4.out.ext (fun p' _ r' _ => by unfold updC; by_cases e : p' = p <;> simp [e, fullT, numT]), HZT.out⟩
           case measure => first | exact meas_lt hjm | (rw [g9]; exact meas_lt hjm)
         have HX2 := Lib.hid (show widF l (updT K2 r j0) (p + (j + 1)) (M - (j + 1)) = Z by rw [← HSX.out, HW1.out, if_pos rfl, if_neg hk1])
         have hk1i : ((K2 r).k == 1) = false := by simpa using hk1
         clear HSX HW1 hk1
         go_wp2_with fail
         have HZ4 := Lib.hid (J6.out.set4 (p := p) HR8.out j0)
         have HZT := Lib.hid (show JTch w _ gc ga from Tch.setCell (p := ⟨gc, p * 32 + r * 4 + 3, none⟩) (Tch.setCell (p := ⟨gc, p * 32 + r * 4 + 2, none⟩) (Tch.setCell (p := ⟨gc, p * 32 + r * 4 + 1, none⟩) (Tch.setCell (p := ⟨gc, p * 32 + r * 4, none⟩) (T6.out) (Or.inl rfl) (.int .i64 0)) (Or.inl rfl) (.int .u64 0)) (Or.inl rfl) (.int .u64 0)) (Or.inl rfl) (.int .i64 0))
         simp only [j0, uv_zero] at HZ4
         generalize ((((w6.setCell ⟨gc, p * 32 + r * 4, none⟩ (.int .i64 0)).setCell ⟨gc, p * 32 + r * 4 + 1, none⟩ (.int .u64 0)).setCell ⟨gc, p * 32 + r * 4 + 2, none⟩ (.int .u64 0)).setCell ⟨gc, p * 32 + r * 4 + 3, none⟩ (.int .i64 0)) = wf at HZ4 HZT ⊢
         go_roundw
         case rel => exact ⟨j + 1, (updT K2 r j0), Nat.succ_le_of_lt hjm, by first | exact congrArg (Value.int .i64) (g9.trans (by push_cast; rfl)) | go_num, HX2.out, HZ4.out.ext (fun p' _ r' _ => by unfold updC; by_cases e : p' = p <;> simp [e, j0]), HZT.out⟩
         case measure => first | exact meas_lt hjm | (rw [g9]; exact meas_lt hjm)
       have g3 : ¬ (j : Int) < (M : Int) := by omega
       have HV2 := Lib.hid (show widP ls l p K2 (k + 1) (L - (k + 1)) = V by rw [← HSV.out, ← HZ.out, show M - j = 0 by omega]; rfl)
       have hlt := HK2.out.2
       have g4 := G4.out
       clear HSV HZ
       go_wp2_with fail
       go_roundw
       case rel => exact ⟨k + 1, K2, Nat.succ_le_of_lt hlt, by first | exact congrArg (Value.int .i64) (g4.trans (by push_cast; rfl)) | go_num, HV2.out, JX.out, TX.out⟩
       case measure => first | exact meas_lt hlt | (rw [g4]; exact meas_lt hlt)
    have HX := Lib.hid (show widX l p K ⟨h, a, b⟩ = K from if_neg hhp)
    have hhi : (h != (p : Int)) = true := by simpa using hhp
    have HV2 := Lib.hid (show widP ls l p K (k + 1) (L - (k + 1)) = V by rw [← HSV.out, HX.out])
    clear HSV HX hhp
    go_wp2_with fail
    go_roundw
    case rel => exact ⟨k + 1, K, Nat.succ_le_of_lt hlt, by first | exact congrArg (Value.int .i64) (g4.trans (by push_cast; rfl)) | go_num, HV2.out, J3.out, T3.out⟩
    case measure => first | exact meas_lt hlt | (rw [g4]; exact meas_lt hlt)
  have g1 : ¬ (k : Int) < (L : Int) := by omega
  have HV2 : K = V := by rw [← HV.out, show L - k = 0 by omega]; rfl
  subst HV2
  go_wp2_with fail
  go_end0
  exact ⟨rfl, JW.out, TW.out⟩

end Go.Proofs.YtikkmkomlajnfaaGreatDoor.Jd
end

section
namespace Go.Proofs.YtikkmkomlajnfaaGreatDoor.Jd
open Go.RowKit
open Go.Proofs.YtikkmkomlajnfaaGreatDoor.Op (InstV insc insVal inss ins0 ins_at rightV right_is Frm goesV writesV sourceV LoopV lpc lps lp0 lp_at)

theorem below_setCells {B : Nat} {a : World} {g : Nat} (hg : B ≤ g) : ∀ (vs : List Value) (o : Nat) {b : World}, Below B a b → Below B a (b.setCells g o vs)
 | [], _, _, h => h
 | v :: r, o, _, h => below_setCells hg r (o + 1) (h.setCell (p := ⟨g, o, none⟩) hg v)
theorem putL_all : ∀ (vs cs : List Value), vs.length = cs.length → putL cs 0 vs = vs := by
 intro vs cs h
 have key : ∀ (vs pre post : List Value), vs.length = post.length → putL (pre ++ post) pre.length vs = pre ++ vs := by
  intro vs
  induction vs with
  | nil => intro pre post h; rw [putL, List.eq_nil_of_length_eq_zero h.symm]
  | cons v r ih =>
    intro pre post h
    cases post with
    | nil => simp at h
    | cons q post =>
      have h2 := ih (pre ++ [v]) post (by simpa using h)
      rw [putL]
      rw [List.set_append_right _ _ (Nat.le_refl _), Nat.sub_self, List.set_cons_zero]
      simpa using h2
 exact key vs [] cs h
theorem ob_over {w : World} {g : Nat} {t : TypeId} {cs vs : List Value} (h : Ob w g t cs) (hl : vs.length = cs.length) : Ob (w.setCells g 0 vs) g t vs := by
 have := ob_putL vs 0 h
 rwa [putL_all vs cs hl] at this

/-- the blocks of one -/
structure OSt (w0 w : World) (q4 q6 q7 q8 q9 : Nat) (R K : Nat → JT) (i : InstV) (a s : JT) : Prop where
 b : Below w0.heap.size w0 w
 o4 : Ob w q4 136 (kc R)
 o6 : Ob w q6 59 (insc i)
 o7 : Ob w q7 136 (kc K)
 o8 : Ob w q8 134 (jc a)
 o9 : Ob w q9 134 (jc s)
 l4 : w0.heap.size ≤ q4
 l6 : w0.heap.size ≤ q6
 l7 : w0.heap.size ≤ q7
 l8 : w0.heap.size ≤ q8
 l9 : w0.heap.size ≤ q9
 n47 : q4 ≠ q7
 n89 : q8 ≠ q9
section
variable {w0 w w' : World} {q4 q6 q7 q8 q9 : Nat} {R K : Nat → JT} {i : InstV} {a s : JT}
theorem OSt.below (h : OSt w0 w q4 q6 q7 q8 q9 R K i a s) (hb : Below w.heap.size w w') : OSt w0 w' q4 q6 q7 q8 q9 R K i a s :=
 ⟨h.b.trans (hb.mono h.b.size), h.o4.below hb h.o4.lt, h.o6.below hb h.o6.lt, h.o7.below hb h.o7.lt, h.o8.below hb h.o8.lt, h.o9.below hb h.o9.lt, h.l4, h.l6, h.l7, h.l8, h.l9, h.n47, h.n89⟩
theorem OSt.alloc (h : OSt w0 w q4 q6 q7 q8 q9 R K i a s) (ob : Obj) : OSt w0 (w.alloc ob) q4 q6 q7 q8 q9 R K i a s :=
 ⟨below_alloc h.b ob, h.o4.alloc ob, h.o6.alloc ob, h.o7.alloc ob, h.o8.alloc ob, h.o9.alloc ob, h.l4, h.l6, h.l7, h.l8, h.l9, h.n47, h.n89⟩
theorem OSt.drew (h : OSt w0 w q4 q6 q7 q8 q9 R K i a s) : OSt w0 w.drew q4 q6 q7 q8 q9 R K i a s :=
 ⟨below_drewN h.b 1, h.o4.drew, h.o6.drew, h.o7.drew, h.o8.drew, h.o9.drew, h.l4, h.l6, h.l7, h.l8, h.l9, h.n47, h.n89⟩
theorem OSt.drewN (h : OSt w0 w q4 q6 q7 q8 q9 R K i a s) (n : Nat) : OSt w0 (w.drewN n) q4 q6 q7 q8 q9 R K i a s :=
 ⟨below_drewN h.b n, h.o4.drewN n, h.o6.drewN n, h.o7.drewN n, h.o8.drewN n, h.o9.drewN n, h.l4, h.l6, h.l7, h.l8, h.l9, h.n47, h.n89⟩
theorem OSt.setR (h : OSt w0 w q4 q6 q7 q8 q9 R K i a s) (K' : Nat → JT) : OSt w0 (w.setCells q4 0 (kc K')) q4 q6 q7 q8 q9 K' K i a s :=
 ⟨below_setCells h.l4 _ _ h.b, ob_over h.o4 rfl, ob_farL (h.o6.ne_ h.o4 (by decide)) _ _ h.o6, ob_farL h.n47.symm _ _ h.o7, ob_farL (h.o8.ne_ h.o4 (by decide)) _ _ h.o8, ob_farL (h.o9.ne_ h.o4 (by decide)) _ _ h.o9, h.l4, h.l6, h.l7, h.l8, h.l9, h.n47, h.n89⟩
/-- four cells, one behind the other -/
def set4 (w : World) (q o : Nat) (t : JT) : World := (((w.setCell ⟨q, o, none⟩ (.int .i64 t.k)).setCell ⟨q, o + 1, none⟩ (.int .u64 (uv t.lo))).setCell ⟨q, o + 2, none⟩ (.int .u64 (uv t.hi))).setCell ⟨q, o + 3, none⟩ (.int .i64 t.m)
theorem far4 {g q : Nat} {T : TypeId} {cs : List Value} (h : Ob w g T cs) (hn : g ≠ q) (o : Nat) (t : JT) : Ob (set4 w q o t) g T cs :=
 (((h.far (p := ⟨q, o, none⟩) hn _).far (p := ⟨q, o + 1, none⟩) hn _).far (p := ⟨q, o + 2, none⟩) hn _).far (p := ⟨q, o + 3, none⟩) hn _
theorem below_set4 {q : Nat} (h : Below w0.heap.size w0 w) (hq : w0.heap.size ≤ q) (o : Nat) (t : JT) : Below w0.heap.size w0 (set4 w q o t) :=
 (((h.setCell (p := ⟨q, o, none⟩) hq _).setCell (p := ⟨q, o + 1, none⟩) hq _).setCell (p := ⟨q, o + 2, none⟩) hq _).setCell (p := ⟨q, o + 3, none⟩) hq _
theorem OSt.setK (h : OSt w0 w q4 q6 q7 q8 q9 R K i a s) {r : Nat} (hr : r < 8) (t : JT) : OSt w0 (set4 w q7 (r * 4) t) q4 q6 q7 q8 q9 R (updT K r t) i a s :=
 ⟨below_set4 h.b h.l7 _ _, far4 h.o4 h.n47 _ _, far4 h.o6 (h.o6.ne_ h.o7 (by decide)) _ _, by rw [← kc_set K hr t]; exact (((h.o7.set_ _ _).set_ _ _).set_ _ _).set_ _ _,
  far4 h.o8 (h.o8.ne_ h.o7 (by decide)) _ _, far4 h.o9 (h.o9.ne_ h.o7 (by decide)) _ _, h.l4, h.l6, h.l7, h.l8, h.l9, h.n47, h.n89⟩
theorem OSt.setA (h : OSt w0 w q4 q6 q7 q8 q9 R K i a s) (t : JT) : OSt w0 (set4 w q8 0 t) q4 q6 q7 q8 q9 R K i t s :=
 ⟨below_set4 h.b h.l8 _ _, far4 h.o4 (h.o4.ne_ h.o8 (by decide)) _ _, far4 h.o6 (h.o6.ne_ h.o8 (by decide)) _ _, far4 h.o7 (h.o7.ne_ h.o8 (by decide)) _ _, (((h.o8.set_ 0 _).set_ 1 _).set_ 2 _).set_ 3 _,
  far4 h.o9 h.n89.symm _ _, h.l4, h.l6, h.l7, h.l8, h.l9, h.n47, h.n89⟩
theorem OSt.setS (h : OSt w0 w q4 q6 q7 q8 q9 R K i a s) (t : JT) : OSt w0 (set4 w q9 0 t) q4 q6 q7 q8 q9 R K i a t :=
 ⟨below_set4 h.b h.l9 _ _, far4 h.o4 (h.o4.ne_ h.o9 (by decide)) _ _, far4 h.o6 (h.o6.ne_ h.o9 (by decide)) _ _, far4 h.o7 (h.o7.ne_ h.o9 (by decide)) _ _, far4 h.o8 h.n89 _ _, (((h.o9.set_ 0 _).set_ 1 _).set_ 2 _).set_ 3 _,
  h.l4, h.l6, h.l7, h.l8, h.l9, h.n47, h.n89⟩
theorem OSt.row (h : OSt w0 w q4 q6 q7 q8 q9 R K i a s) : w.rangeAt q7 0 (kc K) := fun j v hv => by rw [Nat.zero_add, h.o7.cell, hv]
theorem OSt.res (h : OSt w0 w q4 q6 q7 q8 q9 R K i a s) : w.rangeAt q4 0 (kc R) := fun j v hv => by rw [Nat.zero_add, h.o4.cell, hv]
theorem OSt.there (h : OSt w0 w q4 q6 q7 q8 q9 R K i a s) : w.there q4 0 32 := fun j hj => by
 rw [Nat.zero_add]
 exact ⟨by rw [h.o4.cell, kc_rg, rg_get _ _ hj]; rfl, h.o4.frozen _⟩
end
theorem loadV_kn {w : World} {q o : Nat} {K : Nat → JT} (h : w.rangeAt q o (kc K)) : (loadVar 136 ⟨q, o, none⟩).run Tryz.prog w = .ok (.agg (kc K).toArray) w :=
 run_loadVar_mid w q o 136 (kc K) (.array 8 134) h (by kernel_rfl) rfl (by rw [known_info, kc_length])
/-- what a helper answers -/
def tyT (t : JT) : Sg.TypeV := ⟨t.k, uv t.lo, uv t.hi, t.m⟩
def resT (y : Nat) : JT := if y < 7 then numT 0#64 (BitVec.ofInt 64 (Sg.msU y)) else j0
def callArgs (K : Nat → JT) (h : Int) : List JT := (List.range (Sg.argsL (Sg.hI h)).length).map fun j => K (1 + j)
def allFit (K H : Nat → JT) : Bool := (List.range 8).all fun r => fitsV (K r) (H r)
def srcV (i : InstV) (K : Nat → JT) : JT := if sourceV i = true then srcT i K else j0
/-- one looks at an instruction: what it leaves, what it asks for -/
def oneV (i : InstV) (K H : Nat → JT) (nm : Nat) : (Nat → JT) × Int :=
 if i.op = 0 then (if (srcV i K).k = 0 then (K, 33) else (updT K i.d.toNat (srcV i K), 0))
 else if i.op = 11 then (updT K i.d.toNat fullT, firstV (numsV [srcV i K]) (wordV (srcV i K)))
 else if i.op = 12 then (K, firstV (numsV [K i.a.toNat, srcV i K]) (wordV (srcV i K)))
 else if i.op = 13 then (updT K i.d.toNat fullT, 0)
 else if i.op = 14 then (updT K i.d.toNat ⟨2, 0#64, 0#64, i.m⟩, if (nm : Int) ≤ i.m then 35 else 0)
 else if i.op = 15 then (K, 0)
 else if i.op = 16 then (K, numsV [K i.a.toNat, srcV i K])
 else if i.op = 17 then (K, numsV [K i.a.toNat, srcV i K])
 else if i.op = 18 then (K, numsV [K i.a.toNat, srcV i K])
 else if i.op = 19 then (K, numsV [K i.a.toNat, srcV i K])
 else if i.op = 20 then (K, if numsV [K i.a.toNat] = 0 then (if allFit K H = true then 0 else 33) else numsV [K i.a.toNat])
 else if i.op = 21 then (updT K 0 (resT (Sg.hI i.m)), Sg.ckOf i.m ((callArgs K i.m).map tyT))
 else if i.op = 22 then (K, numsV [K i.a.toNat])
 else (updT K i.d.toNat (numT (Sp.dosR i.op (K i.a.toNat).lo (K i.a.toNat).hi (srcV i K).lo (srcV i K).hi).1 (Sp.dosR i.op (K i.a.toNat).lo (K i.a.toNat).hi (srcV i K).lo (srcV i K).hi).2), numsV [K i.a.toNat, srcV i K])

end Go.Proofs.YtikkmkomlajnfaaGreatDoor.Jd
end

section
namespace Go.Proofs.YtikkmkomlajnfaaGreatDoor.Jd
open Go.RowKit
open Go.Proofs.YtikkmkomlajnfaaGreatDoor.Op (InstV insc insVal inss ins0 ins_at rightV right_is Frm goesV writesV sourceV LoopV lpc lps lp0 lp_at)

/-- one way of a jump that has two -/
def wayT (i : InstV) (K : Nat → JT) (h : Bool) : Sp.BP × Bool := Sp.refR i.op (K i.a.toNat).lo (K i.a.toNat).hi (srcT i K).lo (srcT i K).hi h
def wayK (i : InstV) (K : Nat → JT) (h : Bool) : Nat → JT := updT K i.a.toNat (numT (wayT i K h).1.1 (wayT i K h).1.2)
def wayTo (i : InstV) (p : Nat) (h : Bool) : Nat := if h = true then p + i.d.toNat + 1 else p + 1
def wayC (i : InstV) (K : Nat → JT) (p : Nat) (h : Bool) (C : Nat → Nat → JT) (N : Nat → Bool) : Nat → Nat → JT := if (wayT i K h).2 = true then comC C N (wayTo i p h) (wayK i K h) else C
def wayN (i : InstV) (K : Nat → JT) (p : Nat) (h : Bool) (N : Nat → Bool) : Nat → Bool := if (wayT i K h).2 = true then updN N (wayTo i p h) else N
/-- what an instruction leaves is handed on -/
def waysC (i : InstV) (K : Nat → JT) (p : Nat) (C : Nat → Nat → JT) (N : Nat → Bool) : Nat → Nat → JT :=
 if i.op = 22 then C else if i.op = 15 then comC C N (p + i.d.toNat + 1) K
 else if 16 ≤ i.op ∧ i.op ≤ 19 then wayC i K p false (wayC i K p true C N) (wayN i K p true N)
 else comC C N (p + 1) K
def waysN (i : InstV) (K : Nat → JT) (p : Nat) (N : Nat → Bool) : Nat → Bool :=
 if i.op = 22 then N else if i.op = 15 then updN N (p + i.d.toNat + 1)
 else if 16 ≤ i.op ∧ i.op ≤ 19 then wayN i K p false (wayN i K p true N)
 else updN N (p + 1)
theorem meet_right {al ah bl bh : BitVec 64} (h : (Sp.meetV al ah bl bh).2 = true) : (Sp.meetV al ah bl bh).1.1.toNat ≤ (Sp.meetV al ah bl bh).1.2.toNat := by
 unfold Sp.meetV at h ⊢
 by_cases c : (Sp.maxB al bl).toNat ≤ (Sp.minB ah bh).toNat
 · rw [if_pos c]; exact c
 rw [if_neg c] at h; cases h
theorem add1_toNat {x y : BitVec 64} (h : x.toNat < y.toNat) : (x + 1#64).toNat = x.toNat + 1 := by
 rw [BitVec.toNat_add]
 have h1 := y.isLt
 have h2 : (1#64 : BitVec 64).toNat = 1 := rfl
 rw [h2]
 exact Nat.mod_eq_of_lt (by omega)
theorem sub1_toNat {x : BitVec 64} (h : 0 < x.toNat) : (x - 1#64).toNat = x.toNat - 1 := Sp.sub_toNat (y := 1#64) h
theorem ref_right {op : Int} {al ah bl bh : BitVec 64} {h : Bool} : (Sp.refR op al ah bl bh h).2 = true → (Sp.refR op al ah bl bh h).1.1.toNat ≤ (Sp.refR op al ah bl bh h).1.2.toNat := by
 unfold Sp.refR
 by_cases c : AM.hdOk op = true ∧ al.toNat ≤ ah.toNat ∧ bl.toNat ≤ bh.toNat
 · rw [if_pos c]
   by_cases e : bl = bh
   · rw [if_pos e]
     unfold Sp.refV
     by_cases c1 : (op = 18 ∧ h = true) ∨ (op = 19 ∧ h = false)
     · rw [if_pos c1]
       by_cases c2 : bl = 0#64
       · rw [if_pos c2]; intro hh; cases hh
       rw [if_neg c2]; exact meet_right
     rw [if_neg c1]
     by_cases c2 : op = 18 ∨ op = 19
     · rw [if_pos c2]; exact meet_right
     rw [if_neg c2]
     by_cases c3 : (op = 16 ∧ h = true) ∨ (op = 17 ∧ h = false)
     · rw [if_pos c3]; exact meet_right
     rw [if_neg c3]
     by_cases c4 : al = bl ∧ ah = bl
     · rw [if_pos c4]; intro hh; cases hh
     rw [if_neg c4]
     have hne : al = bl ∨ ah = bl → al.toNat < ah.toNat := fun hh => by
      rcases Nat.lt_or_ge al.toNat ah.toNat with l | l
      · exact l
      have e1 : al = ah := BitVec.eq_of_toNat_eq (by omega)
      exfalso
      rcases hh with hh | hh
      · exact c4 ⟨hh, e1 ▸ hh⟩
      exact c4 ⟨e1 ▸ hh, hh⟩
     by_cases c5 : al = bl
     · rw [if_pos c5]
       intro _
       have := hne (.inl c5)
       show (al + 1#64).toNat ≤ ah.toNat
       rw [add1_toNat this]; omega
     rw [if_neg c5]
     by_cases c6 : ah = bl
     · rw [if_pos c6]
       intro _
       have := hne (.inr c6)
       show al.toNat ≤ (ah - 1#64).toNat
       rw [sub1_toNat (by omega)]; omega
     rw [if_neg c6]; intro _; exact c.2.1
   rw [if_neg e]; intro _; exact c.2.1
 rw [if_neg c]; intro hh; cases hh
theorem srcT_right {i : InstV} {K : Nat → JT} (h : ∀ r, JR (K r)) : JR (srcT i K) := by
 unfold srcT
 by_cases c : i.b = 8
 · rw [if_pos c]; exact Nat.le_refl _
 rw [if_neg c]; exact h _
theorem wayK_right {i : InstV} {K : Nat → JT} {h : Bool} (hK : ∀ r, JR (K r)) (ho : (wayT i K h).2 = true) : ∀ r, JR (wayK i K h r) := by
 intro r
 unfold wayK updT
 by_cases c : r = i.a.toNat
 · rw [if_pos c]; exact ref_right ho
 rw [if_neg c]; exact hK r
theorem jn_right {a b : JT} (ha : JR a) (hb : JR b) : JR (jnT a b) := by
 unfold jnT
 by_cases c : a.k = b.k ∧ a.m = b.m
 · rw [if_pos c]
   by_cases c1 : a.k = 1
   · rw [if_pos c1]
     unfold JR numT at *
     dsimp only
     rw [Sp.minB_toNat, Sp.maxB_toNat]
     omega
   rw [if_neg c1]; exact ha
 rw [if_neg c]; exact Nat.le_refl _
theorem com_right {C : Nat → Nat → JT} {N : Nat → Bool} {p : Nat} {K : Nat → JT} (hC : ∀ p r, JR (C p r)) (hK : ∀ r, JR (K r)) : ∀ q r, JR (comC C N p K q r) := by
 intro q r
 unfold comC
 by_cases c : N p = true
 · rw [if_pos c]; unfold updC
   by_cases e : q = p
   · rw [if_pos e]; exact jn_right (hC p r) (hK r)
   rw [if_neg e]; exact hC q r
 rw [if_neg c]; unfold updC
 by_cases e : q = p
 · rw [if_pos e]; exact hK r
 rw [if_neg e]; exact hC q r
theorem wayC_right {i : InstV} {K : Nat → JT} {p : Nat} {h : Bool} {C : Nat → Nat → JT} {N : Nat → Bool} (hC : ∀ p r, JR (C p r)) (hK : ∀ r, JR (K r)) : ∀ q r, JR (wayC i K p h C N q r) := by
 unfold wayC
 by_cases c : (wayT i K h).2 = true
 · rw [if_pos c]; exact com_right hC (wayK_right hK c)
 rw [if_neg c]; exact hC
theorem ways_right {i : InstV} {K : Nat → JT} {p : Nat} {C : Nat → Nat → JT} {N : Nat → Bool} (hC : ∀ p r, JR (C p r)) (hK : ∀ r, JR (K r)) : ∀ q r, JR (waysC i K p C N q r) := by
 unfold waysC
 by_cases c1 : i.op = 22
 · rw [if_pos c1]; exact hC
 rw [if_neg c1]
 by_cases c2 : i.op = 15
 · rw [if_pos c2]; exact com_right hC hK
 rw [if_neg c2]
 by_cases c3 : 16 ≤ i.op ∧ i.op ≤ 19
 · rw [if_pos c3]; exact wayC_right (wayC_right hC hK) hK
 rw [if_neg c3]; exact com_right hC hK

theorem kc_zero2 : kc (fun _ => j0) = [.int .i64 0, .int .u64 0, .int .u64 0, .int .i64 0, .int .i64 0, .int .u64 0, .int .u64 0, .int .i64 0, .int .i64 0, .int .u64 0, .int .u64 0, .int .i64 0, .int .i64 0, .int .u64 0, .int .u64 0, .int .i64 0, .int .i64 0, .int .u64 0, .int .u64 0, .int .i64 0, .int .i64 0, .int .u64 0, .int .u64 0, .int .i64 0, .int .i64 0, .int .u64 0, .int .u64 0, .int .i64 0, .int .i64 0, .int .u64 0, .int .u64 0, .int .i64 0] := rfl
theorem keepR2 {w w' : World} (hb : Below w.heap.size w w') {b o : Nat} {cs : List Value} (h : w.rangeAt b o cs) : w'.rangeAt b o cs := fun j v hv => keepS hb (h j v hv)
/-- the blocks of ways -/
structure WSt (w0 w : World) (gc ga q5 q6 : Nat) (K : Nat → JT) (i : InstV) : Prop where
 t : JTch w0 w gc ga
 o5 : Ob w q5 136 (kc K)
 o6 : Ob w q6 59 (insc i)
 l5 : w0.heap.size ≤ q5
 l6 : w0.heap.size ≤ q6
 hgc : gc < w0.heap.size
 hga : ga < w0.heap.size
section
variable {w0 w w' : World} {gc ga q5 q6 : Nat} {K : Nat → JT} {i : InstV}
theorem WSt.below (h : WSt w0 w gc ga q5 q6 K i) (hb : Below w.heap.size w w') : WSt w0 w' gc ga q5 q6 K i :=
 ⟨JTch.trans h.t (JTch.of hb), h.o5.below hb h.o5.lt, h.o6.below hb h.o6.lt, h.l5, h.l6, h.hgc, h.hga⟩
theorem WSt.tch (h : WSt w0 w gc ga q5 q6 K i) (k : JTch w w' gc ga) : WSt w0 w' gc ga q5 q6 K i :=
 ⟨JTch.trans h.t k, h.o5.tch k (by have := h.l5; have := h.hgc; have := h.hga; omega), h.o6.tch k (by have := h.l6; have := h.hgc; have := h.hga; omega), h.l5, h.l6, h.hgc, h.hga⟩
theorem WSt.row (h : WSt w0 w gc ga q5 q6 K i) : w.rangeAt q5 0 (kc K) := fun j v hv => by rw [Nat.zero_add, h.o5.cell, hv]
end

/-- the state of the two ways -/
structure LSt (w0 w : World) (g gc ga n nc na : Nat) (mV cV lV : Value) (C : Nat → Nat → JT) (N : Nat → Bool) (q5 q6 q10 qb : Nat) (K : Nat → JT) (i : InstV) (s : JT) : Prop where
 W : WSt w0 w gc ga q5 q6 K i
 J : JAt w g gc ga n nc na mV cV lV C N
 s : Ob w q10 134 (jc s)
 b : Ob w qb 4 [.bool true, .bool false]
 ls : w0.heap.size ≤ q10
 lb : w0.heap.size ≤ qb
section
variable {w0 w w' : World} {g gc ga n nc na : Nat} {mV cV lV : Value} {C C' : Nat → Nat → JT} {N N' : Nat → Bool} {q5 q6 q10 qb : Nat} {K : Nat → JT} {i : InstV} {s : JT}
theorem LSt.below (h : LSt w0 w g gc ga n nc na mV cV lV C N q5 q6 q10 qb K i s) (hb : Below w.heap.size w w') : LSt w0 w' g gc ga n nc na mV cV lV C N q5 q6 q10 qb K i s :=
 ⟨h.W.below hb, h.J.below hb, h.s.below hb h.s.lt, h.b.below hb h.b.lt, h.ls, h.lb⟩
theorem LSt.drewN (h : LSt w0 w g gc ga n nc na mV cV lV C N q5 q6 q10 qb K i s) (k : Nat) : LSt w0 (w.drewN k) g gc ga n nc na mV cV lV C N q5 q6 q10 qb K i s := h.below (below_drewN (Below.refl _ _) k)
theorem LSt.drew (h : LSt w0 w g gc ga n nc na mV cV lV C N q5 q6 q10 qb K i s) : LSt w0 w.drew g gc ga n nc na mV cV lV C N q5 q6 q10 qb K i s := h.below (below_drewN (Below.refl _ _) 1)
theorem LSt.alloc (h : LSt w0 w g gc ga n nc na mV cV lV C N q5 q6 q10 qb K i s) (ob : Obj) : LSt w0 (w.alloc ob) g gc ga n nc na mV cV lV C N q5 q6 q10 qb K i s := h.below (below_alloc (Below.refl _ _) ob)
theorem LSt.apart {q : Nat} {cs : List Value} (h : LSt w0 w g gc ga n nc na mV cV lV C N q5 q6 q10 qb K i s) (k : Tch (fun x => x = q) w w') (hq : Ob w q 136 cs) (hw : w0.heap.size ≤ q) (h5 : q5 < q := by omega) : LSt w0 w' g gc ga n nc na mV cV lV C N q5 q6 q10 qb K i s :=
 have hgc : gc ≠ q := by have := h.W.hgc; omega
 have hga : ga ≠ q := by have := h.W.hga; omega
 ⟨⟨⟨k.os.trans h.W.t.os, k.tape.trans h.W.t.tape, k.output.trans h.W.t.output, Nat.le_trans h.W.t.size k.size, fun x hx hn => (k.block x (Nat.lt_of_lt_of_le hx h.W.t.size) (by omega)).trans (h.W.t.block x hx hn)⟩, h.W.o5.tch k (by omega), h.W.o6.tch k (h.W.o6.ne_ hq (by decide)), h.W.l5, h.W.l6, h.W.hgc, h.W.hga⟩,
  ⟨h.J.o.tch k (h.J.o.ne_ hq (by decide)), h.J.c.tch k hgc, h.J.a.tch k hga, h.J.hc, h.J.ha⟩, h.s.tch k (h.s.ne_ hq (by decide)), h.b.tch k (h.b.ne_ hq (by decide)), h.ls, h.lb⟩
theorem LSt.tch (h : LSt w0 w g gc ga n nc na mV cV lV C N q5 q6 q10 qb K i s) (k : JTch w w' gc ga) (hj : JAt w' g gc ga n nc na mV cV lV C' N') : LSt w0 w' g gc ga n nc na mV cV lV C' N' q5 q6 q10 qb K i s :=
 ⟨h.W.tch k, hj, h.s.tch k (by have := h.ls; have := h.W.hgc; have := h.W.hga; omega), h.b.tch k (by have := h.lb; have := h.W.hgc; have := h.W.hga; omega), h.ls, h.lb⟩
end

end Go.Proofs.YtikkmkomlajnfaaGreatDoor.Jd
end
