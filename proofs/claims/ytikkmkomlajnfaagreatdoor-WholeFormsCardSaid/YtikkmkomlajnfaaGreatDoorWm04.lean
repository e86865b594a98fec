/-
  Layer 7: flow.nested, flow.cost. Conditions: those of each theorem.
  Layer 7: flow.cost, Check, Loops, Cost. Conditions: those of each theorem.
  Layer 7: flow.Check, Loops, Cost. Conditions: those of each theorem.
  Layer 7: flow.Loops, its result being a block of the call's own. Conditions: those of each theorem.
-/
import Derived.Test.YtikkmkomlajnfaaGreatDoorWm01
import Derived.Test.YtikkmkomlajnfaaGreatDoorWm03
set_option linter.unusedVariables false
set_option linter.unusedSimpArgs false
section
namespace Go.Proofs.YtikkmkomlajnfaaGreatDoor.Op
set_option maxRecDepth 100000
set_option maxHeartbeats 4000000
open Go.RowKit

theorem meas_lt {L j : Nat} (h : j < L) : L - (intOf (Value.int .i64 ((j : Int) + 1))).toNat < L - (intOf (Value.int .i64 (j : Int))).toNat := by
 simp [intOf]; omega

def anyF (f : Nat → Bool) (j : Nat) : Nat → Bool
 | 0 => false
 | n + 1 => f j || anyF f (j + 1) n
theorem anyF_false {f : Nat → Bool} : ∀ {n j : Nat}, anyF f j n = false → ∀ i, j ≤ i → i < j + n → f i = false
 | 0, j, _, i, h1, h2 => absurd h2 (by omega)
 | n + 1, j, h, i, h1, h2 => by
   unfold anyF at h
   rw [Bool.or_eq_false_iff] at h
   by_cases e : i = j
   · rw [e]; exact h.1
   exact anyF_false h.2 i (by omega) (by omega)

def nbad (m : LoopV) (ls : List LoopV) (j : Nat) : Bool := decide (m.h ≤ (ls.getD j lp0).a) && decide ((ls.getD j lp0).h < m.h)
def jbadM (D : Int) (L : Bool) (p : Int) (m : LoopV) : Bool := L && decide (0 < D) && !inL m p && inL m (p + D) && (p + D != m.h)
def jbad (ls : List LoopV) (l : List InstV) (p : Nat) (j : Nat) : Bool := jbadM (goesV (l.getD p ins0)).1 (goesV (l.getD p ins0)).2.1 p (ls.getD j lp0)
def nestB (ls : List LoopV) (l : List InstV) (p : Nat) : Nat → Int × Int
 | 0 => (0, 0)
 | f + 1 => if anyF (jbad ls l p) 0 ls.length = true then (p, 31) else nestB ls l (p + 1) f
def nestA (ls : List LoopV) (l : List InstV) (k : Nat) : Nat → Int × Int
 | 0 => nestB ls l 0 l.length
 | f + 1 => if anyF (nbad (ls.getD k lp0) ls) 0 k = true then ((ls.getD k lp0).a, 31) else nestA ls l (k + 1) f
def nestedV (l : List InstV) : Int × Int := nestA (loopsV l) l 0 (loopsV l).length
theorem loopsV_len (l : List InstV) : (loopsV l).length ≤ l.length := loopsT_len l _

theorem nested_any (w : World) (l : List InstV) (A : Option Addr) (n c : Nat) (hn : n = l.length) (hm : n ≤ 64) (hr : ∀ i ∈ l, rightV i = true) (ht : Frm w) (hs : Sl w A (inss l)) :
 Calls Tryz.prog 75 #[.slice A n c] w fun e w' => e = .returned (.tuple #[.int .i64 (nestedV l).1, .int .i64 (nestedV l).2]) ∧ Below w.heap.size w w' := by
 have HLO := Lib.hid (loops_any w l A n c hn hm hr hs)
 have HN := Lib.hid hn
 have HS := Lib.hid hs
 have HT := Lib.hid ht
 have HG := Lib.hid (fun w i ht => goes_any w i ht)
 have HIN := Lib.hid (fun w l p => in_any w l p)
 have hLL := loopsV_len l
 rw [← hn] at hLL
 obtain ⟨V, hV⟩ : ∃ V, nestedV l = V := ⟨_, rfl⟩
 rw [hV]
 have HV := Lib.hid hV
 unfold nestedV at HV
 clear hn hs ht hV hr
 generalize loopsV l = ls at HV HLO hLL
 obtain ⟨L, hL⟩ : ∃ L, ls.length = L := ⟨_, rfl⟩
 have HL := Lib.hid hL
 rw [hL] at HV HLO hLL
 clear hL
 go_enter Tryz.func75, Tryz.ntmps75
 go_wp2_with fail
 refine HLO.out.mono ?_
 rintro e w2 ⟨A2, cc, rfl, hcc, hs2, b2⟩
 have HS2 := Lib.hid hs2
 have HB2 := Lib.hid b2
 have HT2 := Lib.hid (HT.out.below b2)
 have HS3 := Lib.hid (HS.out.below b2)
 clear hs2 b2 HLO
 go_wp2_with fail
 go_loopw [20] (fun i wr => ∃ k : Nat, k ≤ L ∧ i = .int .i64 k ∧ nestA ls l k (L - k) = V ∧ Below w2.heap.size w2 wr) (fun i _ => L - (intOf i).toNat)
 case atStart => exact ⟨0, Nat.zero_le _, rfl, HV.out, Below.refl _ _⟩
 case round =>
  obtain ⟨k, hk, rfl, hv, hb⟩ := hrel
  clear HV
  have HV := Lib.hid hv
  have HB := Lib.hid hb
  clear hv hb
  by_cases hlt : k < L
  · have g1 : (k : Int) < (L : Int) := by omega
    have g0 : (0 : Int) ≤ (k : Int) := by omega
    have hkl : k < ls.length := by have := HL.out; omega
    obtain ⟨bq, oq, rfl, _, hc⟩ := lp_at (HS2.out.below HB.out) (by omega)
    obtain ⟨c0, c1, c2⟩ := hc k hkl
    have HSV := Lib.hid (show (if anyF (nbad (ls.getD k lp0) ls) 0 k = true then ((ls.getD k lp0).a, 31) else nestA ls l (k + 1) (L - (k + 1))) = V by rw [← HV.out, show L - k = (L - (k + 1)) + 1 by omega]; rfl)
    clear hc hkl HV
    generalize ls.getD k lp0 = x at c0 c1 c2 HSV
    obtain ⟨h, a, b⟩ := x
    dsimp only at c0 c1 c2 HSV
    obtain ⟨X, hX⟩ : ∃ X, anyF (nbad ⟨h, a, b⟩ ls) 0 k = X := ⟨_, rfl⟩
    rw [hX] at HSV
    have HX := Lib.hid hX
    clear hX
    have g4 : wrap64 ((k : Int) + 1) = (k : Int) + 1 := by unfold wrap64; omega
    have O1 := Lib.hid (Ob.fresh wr 172 [.int .i64 h, .int .i64 a, .int .i64 b])
    have B1 := Lib.hid (below_alloc HB.out (.cells #[.int .i64 h, .int .i64 a, .int .i64 b] 172))
    clear HB
    go_upto_region 5 with fail
    clear c0 c1 c2
    generalize wr.alloc (.cells #[.int .i64 h, .int .i64 a, .int .i64 b] 172) = w3 at O1 B1 ⊢
    generalize wr.heap.size = q at O1 ⊢
    go_wp2_with fail
    go_loopw [29] (fun i wq => ∃ j : Nat, j ≤ k ∧ i = .int .i64 j ∧ anyF (nbad ⟨h, a, b⟩ ls) j (k - j) = X ∧ Below w3.heap.size w3 wq) (fun i _ => k - (intOf i).toNat)
    case atStart => exact ⟨0, Nat.zero_le _, rfl, HX.out, Below.refl _ _⟩
    case round =>
     obtain ⟨j, hj, rfl, hx, hb⟩ := hrel
     clear HX
     have HX := Lib.hid hx
     have HB := Lib.hid (B1.out.trans (hb.mono B1.out.size))
     have HBI := Lib.hid hb
     have O2 := Lib.hid (O1.out.below hb O1.out.lt)
     clear hx hb
     by_cases hjk : j < k
     · have g2 : (j : Int) < (k : Int) := by omega
       have g3 : (j : Int) < (L : Int) := by omega
       have g5 : (0 : Int) ≤ (j : Int) := by omega
       have hkl : j < ls.length := by have := HL.out; omega
       obtain ⟨bq', oq', e, _, hc⟩ := lp_at (HS2.out.below HB.out) (by omega)
       cases e
       obtain ⟨c0, c1, c2⟩ := hc j hkl
       have HSX := Lib.hid (show (nbad ⟨h, a, b⟩ ls j || anyF (nbad ⟨h, a, b⟩ ls) (j + 1) (k - (j + 1))) = X by rw [← HX.out, show k - j = (k - (j + 1)) + 1 by omega]; rfl)
       have HNB := Lib.hid (show nbad ⟨h, a, b⟩ ls j = (decide (h ≤ (ls.getD j lp0).a) && decide ((ls.getD j lp0).h < h)) from rfl)
       generalize nbad ⟨h, a, b⟩ ls j = NB at HNB HSX
       clear hc hkl HX
       generalize ls.getD j lp0 = y at c0 c1 c2 HNB
       obtain ⟨h2, a2, b2⟩ := y
       dsimp only at c0 c1 c2 HNB
       have g6 : wrap64 ((j : Int) + 1) = (j : Int) + 1 := by unfold wrap64; omega
       have O3 := Lib.hid (O2.out.alloc (.cells #[.int .i64 h2, .int .i64 a2, .int .i64 b2] 172))
       have O4 := Lib.hid (Ob.fresh wr 172 [.int .i64 h2, .int .i64 a2, .int .i64 b2])
       have B4 := Lib.hid (below_alloc HBI.out (.cells #[.int .i64 h2, .int .i64 a2, .int .i64 b2] 172))
       clear HB HBI O1 O2
       go_upto_region 8 with fail
       clear c0 c1 c2
       generalize wr.alloc (.cells #[.int .i64 h2, .int .i64 a2, .int .i64 b2] 172) = w4 at O3 O4 B4 ⊢
       generalize wr.heap.size = q4 at O4 ⊢
       have i0 := O3.out.c0
       have i1 := O3.out.c1
       have j0 := O4.out.c0
       have j1 := O4.out.c1
       by_cases hA : h ≤ a2
       · by_cases hB : h2 < h
         · have HV2 := Lib.hid (show (a, (31 : Int)) = V by rw [← HSV.out, ← HSX.out, HNB.out, decide_eq_true hA, decide_eq_true hB]; rfl)
           have HA := Lib.hid hA
           clear HSV HSX HNB
           go_wp2_with fail
           exact bodyPost_ret (v := .tuple #[.int .i64 a, .int .i64 31]) (by simp [results, Tryz.results75, go_sem]) rfl ⟨by rw [← HV2.out], HB2.out.trans ((B1.out.trans (B4.out.mono B1.out.size)).mono HB2.out.size)⟩
         have HX2 := Lib.hid (show anyF (nbad ⟨h, a, b⟩ ls) (j + 1) (k - (j + 1)) = X by rw [← HSX.out, HNB.out, decide_eq_true hA, decide_eq_false hB]; rfl)
         clear HSV HSX HNB
         go_wp2_with fail
         go_roundw
         case rel => exact ⟨j + 1, by omega, by go_num, HX2.out, B4.out⟩
         case measure => simp [intOf]; omega
       have HX2 := Lib.hid (show anyF (nbad ⟨h, a, b⟩ ls) (j + 1) (k - (j + 1)) = X by rw [← HSX.out, HNB.out, decide_eq_false hA]; rfl)
       clear HSV HSX HNB
       go_wp2_with fail
       go_roundw
       case rel => exact ⟨j + 1, by omega, by go_num, HX2.out, B4.out⟩
       case measure => simp [intOf]; omega
     have g2 : ¬ (j : Int) < (k : Int) := by omega
     have HV2 := Lib.hid (show nestA ls l (k + 1) (L - (k + 1)) = V by rw [← HSV.out, ← HX.out, show k - j = 0 by omega]; rfl)
     clear HSV HX HBI O2
     go_wp2_with fail
     go_roundw
     case rel => exact ⟨k + 1, by omega, by go_num, HV2.out, HB.out⟩
     case measure => simp [intOf]; omega
  have g1 : ¬ (k : Int) < (L : Int) := by omega
  have HV := Lib.hid (show nestB ls l 0 (n - 0) = V by rw [← HV.out, show L - k = 0 by omega, HN.out]; rfl)
  have HTR := Lib.hid (HT2.out.below HB.out)
  have HBR := Lib.hid (HB2.out.trans (HB.out.mono HB2.out.size))
  have HSR := Lib.hid (HS2.out.below HB.out)
  have HCR := Lib.hid (HS3.out.below HB.out)
  have HLR := Lib.hid (Nat.le_trans hLL hm)
  clear g1 hk HB HB2 HT2 HS2 HS3 HT HS
  obtain ⟨wo, rfl⟩ : ∃ wo : World, wo = wr := ⟨_, rfl⟩
  go_wp2_with fail
  go_loopw [51] (fun i wr => ∃ k : Nat, k ≤ n ∧ i = .int .i64 k ∧ nestB ls l k (n - k) = V ∧ Below wo.heap.size wo wr) (fun i _ => n - (intOf i).toNat)
  case atStart => exact ⟨0, Nat.zero_le _, rfl, HV.out, Below.refl _ _⟩
  case round =>
   obtain ⟨k, hk, rfl, hv, hb⟩ := hrel
   clear HV
   have HV := Lib.hid hv
   have HB := Lib.hid hb
   clear hv hb
   by_cases hlt : k < n
   · have g1 : (k : Int) < (n : Int) := by omega
     have g0 : (0 : Int) ≤ (k : Int) := by omega
     have hkl : k < l.length := by have := HN.out; omega
     obtain ⟨bq, oq, rfl, _, hc⟩ := ins_at (HCR.out.below HB.out) (by omega)
     obtain ⟨c0, c1, c2, c3, c4⟩ := hc k hkl
     have HSV := Lib.hid (show (if anyF (jbad ls l k) 0 L = true then ((k : Int), (31 : Int)) else nestB ls l (k + 1) (n - (k + 1))) = V by rw [← HV.out, show n - k = (n - (k + 1)) + 1 by omega, ← HL.out]; rfl)
     have HLE := goes_le (l.getD k ins0)
     have HGO := Lib.hid (fun w ht => HG.out w (l.getD k ins0) ht)
     have HJB := Lib.hid (show ∀ j, jbad ls l k j = jbadM (goesV (l.getD k ins0)).1 (goesV (l.getD k ins0)).2.1 k (ls.getD j lp0) from fun _ => rfl)
     obtain ⟨X, hX⟩ : ∃ X, anyF (jbad ls l k) 0 L = X := ⟨_, rfl⟩
     rw [hX] at HSV
     have HX := Lib.hid hX
     clear hc hkl HV hX
     generalize jbad ls l k = JB at HX HJB
     generalize l.getD k ins0 = i at c0 c1 c2 c3 c4 HLE HGO HJB
     obtain ⟨⟨D, Lb, O⟩, hG⟩ : ∃ x, goesV i = x := ⟨_, rfl⟩
     rw [hG] at HLE HGO HJB
     clear hG
     obtain ⟨op, d, a, b, m⟩ := i
     unfold insVal at HGO
     dsimp only at c0 c1 c2 c3 c4 HLE HGO HJB
     obtain ⟨hd0, hd1⟩ := HLE
     have g9 : wrap64 ((k : Int) + D) = (k : Int) + D := by unfold wrap64; omega
     have g4 : wrap64 ((k : Int) + 1) = (k : Int) + 1 := by unfold wrap64; omega
     clear hd0 hd1
     have B1 := Lib.hid (below_alloc HB.out (.cells #[.int .i64 op, .int .i64 d, .int .i64 a, .int .i64 b, .int .i64 m] 59))
     have O1 := Lib.hid (Ob.fresh wr 59 [.int .i64 op, .int .i64 d, .int .i64 a, .int .i64 b, .int .i64 m])
     clear HB
     go_upto_region 15 with fail
     clear c0 c1 c2 c3 c4
     generalize wr.alloc (.cells #[.int .i64 op, .int .i64 d, .int .i64 a, .int .i64 b, .int .i64 m] 59) = w3 at O1 B1 ⊢
     generalize wr.heap.size = q at O1 ⊢
     have i0 := O1.out.c0
     have i1 := O1.out.c1
     have i2 := O1.out.c2
     have i3 := O1.out.c3
     have i4 := O1.out.c4
     go_wp2_with fail
     refine (HGO.out w3 (HTR.out.below B1.out)).mono ?_
     rintro e w4 ⟨rfl, b4⟩
     have B4 := Lib.hid (B1.out.trans (b4.mono B1.out.size))
     have HK2 := Lib.hid (And.intro hk hlt)
     have G4 := Lib.hid g4
     clear b4 B1 O1 i0 i1 i2 i3 i4
     go_wp2_with fail
     clear hk hlt g0 g1 g4 hm hcc hLL
     go_loopw [64] (fun i wq => ∃ j : Nat, j ≤ L ∧ i = .int .i64 j ∧ anyF JB j (L - j) = X ∧ Below w4.heap.size w4 wq) (fun i _ => L - (intOf i).toNat)
     case atStart => exact ⟨0, Nat.zero_le _, rfl, HX.out, Below.refl _ _⟩
     case round =>
      obtain ⟨j, hj, rfl, hx, hb⟩ := hrel
      clear HX
      have HX := Lib.hid hx
      have HB := Lib.hid (B4.out.trans (hb.mono B4.out.size))
      have HBI := Lib.hid hb
      clear hx hb
      by_cases hjl : j < L
      · have g3 : (j : Int) < (L : Int) := by omega
        have g5 : (0 : Int) ≤ (j : Int) := by omega
        have hkl : j < ls.length := by have := HL.out; omega
        obtain ⟨bq', oq', rfl, _, hc⟩ := lp_at (HSR.out.below HB.out) (by omega)
        obtain ⟨c0, c1, c2⟩ := hc j hkl
        have HSX := Lib.hid (show (JB j || anyF JB (j + 1) (L - (j + 1))) = X by rw [← HX.out, show L - j = (L - (j + 1)) + 1 by omega]; rfl)
        have HNB := Lib.hid (HJB.out j)
        clear hc hkl HX
        have HI := Lib.hid (fun w p => HIN.out w (ls.getD j lp0) p)
        generalize ls.getD j lp0 = y at c0 c1 c2 HNB HI
        have g6 : wrap64 ((j : Int) + 1) = (j : Int) + 1 := by have := HLR.out; unfold wrap64; omega
        have HNB2 := Lib.hid (show JB j = (Lb && decide (0 < D) && !inL y k && inL y (k + D) && ((k : Int) + D != y.h)) from HNB.out)
        obtain ⟨J1, hJ1⟩ : ∃ J1, inL y k = J1 := ⟨_, rfl⟩
        obtain ⟨J2, hJ2⟩ : ∃ J2, inL y ((k : Int) + D) = J2 := ⟨_, rfl⟩
        have HI1 := Lib.hid (fun w => HI.out w k)
        have HI2 := Lib.hid (fun w => HI.out w ((k : Int) + D))
        rw [hJ1, hJ2] at HNB2
        rw [hJ1] at HI1
        rw [hJ2] at HI2
        clear hJ1 hJ2 HNB HI
        obtain ⟨h2, a2, b2⟩ := y
        unfold lpVal at HI1 HI2
        dsimp only at c0 c1 c2 HNB2 HI1 HI2
        have O4 := Lib.hid (Ob.fresh wr 172 [.int .i64 h2, .int .i64 a2, .int .i64 b2])
        have B5 := Lib.hid (below_alloc HBI.out (.cells #[.int .i64 h2, .int .i64 a2, .int .i64 b2] 172))
        clear HB HBI
        go_upto_region 19 with fail
        clear c0 c1 c2
        generalize wr.alloc (.cells #[.int .i64 h2, .int .i64 a2, .int .i64 b2] 172) = w5 at O4 B5 ⊢
        generalize wr.heap.size = q4 at O4 ⊢
        have j0 := O4.out.c0
        have j1 := O4.out.c1
        have j2 := O4.out.c2
        cases Lb
        · clear g9
          have HX2 := Lib.hid (show anyF JB (j + 1) (L - (j + 1)) = X by rw [← HSX.out, HNB2.out]; rfl)
          clear HSV HSX HNB2
          go_wp2_with fail
          go_roundw
          case rel => exact ⟨j + 1, Nat.succ_le_of_lt hjl, congrArg (Value.int .i64) (g6.trans (by push_cast; rfl)), HX2.out, B5.out⟩
          case measure => first | exact meas_lt hjl | (rw [g6]; exact meas_lt hjl)
        by_cases hD : 0 < D
        · have HDD := Lib.hid (decide_eq_true hD)
          go_wp2_with fail
          refine (HI1.out w5).mono ?_
          rintro e w6 ⟨rfl, b6⟩
          have B6 := Lib.hid (B5.out.trans (b6.mono B5.out.size))
          have O6 := Lib.hid (O4.out.below b6 O4.out.lt)
          clear b6 j0 j1 j2 O4 B5
          cases J1
          · have j0 := O6.out.c0
            have j1 := O6.out.c1
            have j2 := O6.out.c2
            go_wp2_with fail
            refine (HI2.out w6).mono ?_
            rintro e w7 ⟨rfl, b7⟩
            have B7 := Lib.hid (B6.out.trans (b7.mono B6.out.size))
            have O7 := Lib.hid (O6.out.below b7 O6.out.lt)
            clear b7 j0 j1 j2 O6 B6
            cases J2
            · clear g9
              have HX2 := Lib.hid (show anyF JB (j + 1) (L - (j + 1)) = X by rw [← HSX.out, HNB2.out, HDD.out]; rfl)
              clear HSV HSX HNB2
              go_wp2_with fail
              go_roundw
              case rel => exact ⟨j + 1, Nat.succ_le_of_lt hjl, congrArg (Value.int .i64) (g6.trans (by push_cast; rfl)), HX2.out, B7.out⟩
              case measure => first | exact meas_lt hjl | (rw [g6]; exact meas_lt hjl)
            have j0 := O7.out.c0
            by_cases hE : (k : Int) + D = h2
            · have hE2 : ((k : Int) + D != h2) = false := by simpa using hE
              clear hE
              have HX2 := Lib.hid (show anyF JB (j + 1) (L - (j + 1)) = X by rw [← HSX.out, HNB2.out, HDD.out, hE2]; rfl)
              clear HSV HSX HNB2
              go_wp2_with fail
              go_roundw
              case rel => exact ⟨j + 1, Nat.succ_le_of_lt hjl, congrArg (Value.int .i64) (g6.trans (by push_cast; rfl)), HX2.out, B7.out⟩
              case measure => first | exact meas_lt hjl | (rw [g6]; exact meas_lt hjl)
            have hE2 : ((k : Int) + D != h2) = true := by simpa using hE
            clear hE
            have HV2 := Lib.hid (show ((k : Int), (31 : Int)) = V by rw [← HSV.out, ← HSX.out, HNB2.out, HDD.out, hE2]; rfl)
            clear HSV HSX HNB2
            go_wp2_with fail
            exact bodyPost_ret (v := .tuple #[.int .i64 k, .int .i64 31]) (by simp [results, Tryz.results75, go_sem]) rfl ⟨by rw [← HV2.out], HBR.out.trans ((B4.out.trans (B7.out.mono B4.out.size)).mono HBR.out.size)⟩
          clear g9
          have HX2 := Lib.hid (show anyF JB (j + 1) (L - (j + 1)) = X by rw [← HSX.out, HNB2.out, HDD.out]; rfl)
          clear HSV HSX HNB2
          go_wp2_with fail
          go_roundw
          case rel => exact ⟨j + 1, Nat.succ_le_of_lt hjl, congrArg (Value.int .i64) (g6.trans (by push_cast; rfl)), HX2.out, B6.out⟩
          case measure => first | exact meas_lt hjl | (rw [g6]; exact meas_lt hjl)
        clear g9
        have HX2 := Lib.hid (show anyF JB (j + 1) (L - (j + 1)) = X by rw [← HSX.out, HNB2.out, decide_eq_false hD]; rfl)
        clear HSV HSX HNB2
        go_wp2_with fail
        go_roundw
        case rel => exact ⟨j + 1, Nat.succ_le_of_lt hjl, congrArg (Value.int .i64) (g6.trans (by push_cast; rfl)), HX2.out, B5.out⟩
        case measure => first | exact meas_lt hjl | (rw [g6]; exact meas_lt hjl)
      have g3 : ¬ (j : Int) < (L : Int) := by omega
      have HV2 := Lib.hid (show nestB ls l (k + 1) (n - (k + 1)) = V by rw [← HSV.out, ← HX.out, show L - j = 0 by omega]; rfl)
      clear HSV HX HBI
      have hlt := HK2.out.2
      have g4 := G4.out
      go_wp2_with fail
      go_roundw
      case rel => exact ⟨k + 1, by omega, by go_num, HV2.out, HB.out⟩
      case measure => first | exact meas_lt hlt | (rw [g4]; exact meas_lt hlt)
   have g1 : ¬ (k : Int) < (n : Int) := by omega
   have HV2 := Lib.hid (show ((0 : Int), (0 : Int)) = V by rw [← HV.out, show n - k = 0 by omega]; rfl)
   go_wp2_with fail
   exact bodyPost_ret (v := .tuple #[.int .i64 0, .int .i64 0]) (by simp [results, Tryz.results75, go_sem]) rfl ⟨by rw [← HV2.out], HBR.out.trans (HB.out.mono HBR.out.size)⟩

end Go.Proofs.YtikkmkomlajnfaaGreatDoor.Op
end

section
namespace Go.Proofs.YtikkmkomlajnfaaGreatDoor.Op
set_option maxRecDepth 100000
set_option maxHeartbeats 4000000
open Go.RowKit

/-- min with 257, as the code's min says it -/
abbrev mn (x : Int) : Int := if 257 < x then 257 else x
theorem mn_le (x : Int) (h : 0 ≤ x) : 0 ≤ mn x ∧ mn x ≤ 257 := by unfold mn; split <;> omega
def timesF (ls : List LoopV) (p : Int) (j : Nat) : Nat → Int → Int
 | 0, t => t
 | f + 1, t => timesF ls p (j + 1) f (if inL (ls.getD j lp0) p = true then mn (t * ((ls.getD j lp0).b + 1)) else t)
def costF (ls : List LoopV) (p : Nat) : Nat → Int → Int
 | 0, s => s
 | f + 1, s => costF ls (p + 1) f (mn (s + timesF ls p 0 ls.length 1))
def costV (l : List InstV) : Int := costF (loopsV l) 0 l.length 0

theorem loopsT_b {l : List InstV} (hr : ∀ i ∈ l, rightV i = true) : ∀ k, k ≤ l.length → ∀ x ∈ loopsT l k, 1 ≤ x.b ∧ x.b ≤ 255
 | 0, _, x, hx => absurd hx (by simp [loopsT])
 | k + 1, hk, x, hx => by
   unfold loopsT at hx
   rcases List.mem_append.1 hx with h | h
   · exact loopsT_b hr k (by omega) x h
   split at h
   · rename_i ho
     have hri := right_is (hr (l.getD k ins0) (by rw [List.getD_eq_getElem?_getD, List.getElem?_eq_getElem (show k < l.length by omega)]; exact List.getElem_mem _))
     have h2 := hri.l ho
     simp only [List.mem_singleton] at h
     subst h
     exact h2.2
   exact absurd h (by simp)
theorem loopsV_b {l : List InstV} (hr : ∀ i ∈ l, rightV i = true) : ∀ x ∈ loopsV l, 1 ≤ x.b ∧ x.b ≤ 255 := loopsT_b hr _ (Nat.le_refl _)
theorem mul_small {t b : Int} (h0 : 0 ≤ t) (h1 : t ≤ 257) (h2 : 1 ≤ b) (h3 : b ≤ 255) : 0 ≤ t * (b + 1) ∧ wrap64 (t * (b + 1)) = t * (b + 1) := by
 have a : 0 ≤ t * (b + 1) := Int.mul_nonneg h0 (by omega)
 have c : t * (b + 1) ≤ 257 * 256 := Int.mul_le_mul h1 (by omega) (by omega) (by omega)
 refine ⟨a, ?_⟩
 generalize t * (b + 1) = z at *
 unfold wrap64; omega

theorem cost_any (w : World) (l : List InstV) (A : Option Addr) (n c : Nat) (hn : n = l.length) (hm : n ≤ 64) (hr : ∀ i ∈ l, rightV i = true) (ht : Frm w) (hs : Sl w A (inss l)) :
 Calls Tryz.prog 76 #[.slice A n c] w fun e w' => e = .returned (.int .i64 (costV l)) ∧ Below w.heap.size w w' := by
 have HLO := Lib.hid (loops_any w l A n c hn hm hr hs)
 have HLB := Lib.hid (loopsV_b hr)
 have HN := Lib.hid hn
 have HIN := Lib.hid (fun w l p => in_any w l p)
 have hLL := loopsV_len l
 rw [← hn] at hLL
 obtain ⟨V, hV⟩ : ∃ V, costV l = V := ⟨_, rfl⟩
 rw [hV]
 have HV := Lib.hid hV
 unfold costV at HV
 rw [← hn] at HV
 clear hn hs ht hV hr
 generalize loopsV l = ls at HV HLO hLL HLB
 obtain ⟨L, hL⟩ : ∃ L, ls.length = L := ⟨_, rfl⟩
 have HL := Lib.hid hL
 rw [hL] at HLO hLL
 clear hL
 go_enter Tryz.func76, Tryz.ntmps76
 go_wp2_with fail
 refine HLO.out.mono ?_
 rintro e w2 ⟨A2, cc, rfl, hcc, hs2, b2⟩
 have HS2 := Lib.hid hs2
 have HB2 := Lib.hid b2
 clear hs2 b2 HLO
 go_wp2_with fail
 go_loopw [4, 13] (fun u i wr => ∃ (k : Nat) (s : Int), k ≤ n ∧ u = .int .i64 s ∧ i = .int .i64 k ∧ 0 ≤ s ∧ s ≤ 257 ∧ costF ls k (n - k) s = V ∧ Below w2.heap.size w2 wr) (fun _ i _ => n - (intOf i).toNat)
 case atStart => exact ⟨0, 0, Nat.zero_le _, rfl, rfl, by omega, by omega, HV.out, Below.refl _ _⟩
 case round =>
  obtain ⟨k, s, hk, rfl, rfl, hs0, hs1, hv, hb⟩ := hrel
  clear HV
  have HV := Lib.hid hv
  have HB := Lib.hid hb
  clear hv hb
  by_cases hlt : k < n
  · have g1 : (k : Int) < (n : Int) := by omega
    have g4 : wrap64 ((k : Int) + 1) = (k : Int) + 1 := by unfold wrap64; omega
    have HSV := Lib.hid (show costF ls (k + 1) (n - (k + 1)) (mn (s + timesF ls k 0 L 1)) = V by rw [← HV.out, show n - k = (n - (k + 1)) + 1 by omega, ← HL.out]; rfl)
    obtain ⟨T, hT⟩ : ∃ T, timesF ls k 0 L 1 = T := ⟨_, rfl⟩
    rw [hT] at HSV
    have HT := Lib.hid hT
    have HLR := Lib.hid (Nat.le_trans hLL hm)
    have HK2 := Lib.hid (And.intro hk hlt)
    have HS2' := Lib.hid (And.intro hs0 hs1)
    have G4 := Lib.hid g4
    clear HV hT
    go_wp2_with fail
    clear hk hlt g1 g4 hs0 hs1 hLL hm hcc
    go_loopw [6, 18] (fun u i wq => ∃ (j : Nat) (t : Int), j ≤ L ∧ u = .int .i64 t ∧ i = .int .i64 j ∧ 0 ≤ t ∧ t ≤ 257 ∧ timesF ls k j (L - j) t = T ∧ Below w2.heap.size w2 wq) (fun _ i _ => L - (intOf i).toNat)
    case atStart => exact ⟨0, 1, Nat.zero_le _, rfl, rfl, by omega, by omega, HT.out, HB.out⟩
    case round =>
     obtain ⟨j, t, hj, rfl, rfl, ht0, ht1, hx, hb⟩ := hrel
     clear HT HB
     have HX := Lib.hid hx
     have HB := Lib.hid hb
     clear hx hb
     by_cases hjl : j < L
     · have g3 : (j : Int) < (L : Int) := by omega
       have g5 : (0 : Int) ≤ (j : Int) := by omega
       have hkl : j < ls.length := by have := HL.out; omega
       obtain ⟨bq', oq', rfl, _, hc⟩ := lp_at (HS2.out.below HB.out) (by omega)
       obtain ⟨c0, c1, c2⟩ := hc j hkl
       have hbb := HLB.out (ls.getD j lp0) (by rw [List.getD_eq_getElem?_getD, List.getElem?_eq_getElem hkl]; exact List.getElem_mem hkl)
       have HSX := Lib.hid (show timesF ls k (j + 1) (L - (j + 1)) (if inL (ls.getD j lp0) k = true then mn (t * ((ls.getD j lp0).b + 1)) else t) = T by rw [← HX.out, show L - j = (L - (j + 1)) + 1 by omega]; rfl)
       have HI := Lib.hid (fun w => HIN.out w (ls.getD j lp0) k)
       clear hc hkl HX
       generalize ls.getD j lp0 = y at c0 c1 c2 HSX HI hbb
       have g6 : wrap64 ((j : Int) + 1) = (j : Int) + 1 := by have := HLR.out; unfold wrap64; omega
       obtain ⟨J1, hJ1⟩ : ∃ J1, inL y k = J1 := ⟨_, rfl⟩
       rw [hJ1] at HSX HI
       clear hJ1
       obtain ⟨h, a, b⟩ := y
       unfold lpVal at HI
       dsimp only at c0 c1 c2 HSX HI hbb
       obtain ⟨hb0, hb1⟩ := hbb
       have hms := mul_small ht0 ht1 hb0 hb1
       have g7 : wrap64 (b + 1) = b + 1 := by unfold wrap64; omega
       have O4 := Lib.hid (Ob.fresh wr 172 [.int .i64 h, .int .i64 a, .int .i64 b])
       have B5 := Lib.hid (below_alloc HB.out (.cells #[.int .i64 h, .int .i64 a, .int .i64 b] 172))
       clear HB hb0 hb1
       obtain ⟨hz0, hz1⟩ := hms
       have HTT := Lib.hid (And.intro ht0 ht1)
       clear ht0 ht1
       go_upto_region 10 with fail
       clear c0 c1 c2
       generalize wr.alloc (.cells #[.int .i64 h, .int .i64 a, .int .i64 b] 172) = w5 at O4 B5 ⊢
       generalize wr.heap.size = q4 at O4 ⊢
       have j0 := O4.out.c0
       have j1 := O4.out.c1
       have j2 := O4.out.c2
       go_wp2_with fail
       refine (HI.out w5).mono ?_
       rintro e w6 ⟨rfl, b6⟩
       have B6 := Lib.hid (B5.out.trans (b6.mono B5.out.size))
       have O6 := Lib.hid (O4.out.below b6 O4.out.lt)
       clear b6 j0 j1 j2 O4 B5
       cases J1
       · have HX2 := Lib.hid (show timesF ls k (j + 1) (L - (j + 1)) t = T from HSX.out)
         clear HSX
         go_wp2_with fail
         go_roundw
         case rel => exact ⟨j + 1, t, Nat.succ_le_of_lt hjl, rfl, congrArg (Value.int .i64) (g6.trans (by push_cast; rfl)), HTT.out.1, HTT.out.2, HX2.out, B6.out⟩
         case measure => first | exact meas_lt hjl | (rw [g6]; exact meas_lt hjl)
       have HX2 := Lib.hid (show timesF ls k (j + 1) (L - (j + 1)) (mn (t * (b + 1))) = T from HSX.out)
       clear HSX
       have j2 := O6.out.c2
       go_wp2_with fail
       go_roundw
       case rel => exact ⟨j + 1, mn (t * (b + 1)), Nat.succ_le_of_lt hjl, rfl, congrArg (Value.int .i64) (g6.trans (by push_cast; rfl)), (mn_le _ hz0).1, (mn_le _ hz0).2, HX2.out, B6.out⟩
       case measure => first | exact meas_lt hjl | (rw [g6]; exact meas_lt hjl)
     have g3 : ¬ (j : Int) < (L : Int) := by omega
     have HV2 := Lib.hid (show costF ls (k + 1) (n - (k + 1)) (mn (s + t)) = V by rw [← HSV.out, ← HX.out, show L - j = 0 by omega]; rfl)
     have hlt := HK2.out.2
     have g4 := G4.out
     have HTT2 := Lib.hid (And.intro ht0 ht1)
     have hs0 := HS2'.out.1
     have hs1 := HS2'.out.2
     have g8 : wrap64 (s + t) = s + t := by unfold wrap64; omega
     have HM := Lib.hid (show 0 ≤ mn (s + t) ∧ mn (s + t) ≤ 257 from mn_le _ (by have := HTT2.out.1; omega))
     clear HSV HX hs0 hs1 ht0 ht1 hj hjl
     go_wp2_with fail
     go_roundw
     case rel => exact ⟨k + 1, mn (s + t), Nat.succ_le_of_lt hlt, rfl, congrArg (Value.int .i64) (g4.trans (by push_cast; rfl)), HM.out.1, HM.out.2, HV2.out, HB.out⟩
     case measure => first | exact meas_lt hlt | (rw [g4]; exact meas_lt hlt)
  have g1 : ¬ (k : Int) < (n : Int) := by omega
  have HV2 : s = V := by rw [← HV.out, show n - k = 0 by omega]; rfl
  subst HV2
  go_wp2_with fail
  go_ret
  exact ⟨rfl, HB2.out.trans (HB.out.mono HB2.out.size)⟩

end Go.Proofs.YtikkmkomlajnfaaGreatDoor.Op
end

section
namespace Go.Proofs.YtikkmkomlajnfaaGreatDoor.Op
set_option maxRecDepth 100000
set_option maxHeartbeats 4000000
open Go.RowKit

def checkV (l : List InstV) : Int × Int :=
 if l.length = 0 then (0, 10) else if 64 < l.length then (0, 11) else
 if (placesV l).2 = 0 then (if (nestedV l).2 = 0 then (if 256 < costV l then (0, 32) else (0, 0)) else nestedV l) else placesV l
theorem plFrom_ok {l : List InstV} : ∀ {f k : Nat}, (plFrom l k f).2 = 0 → ∀ p, k ≤ p → p < k + f → plBad l p = 0
 | 0, k, _, p, h1, h2 => absurd h2 (by omega)
 | f + 1, k, h, p, h1, h2 => by
   unfold plFrom at h
   by_cases hb : plBad l k = 0
   · rw [if_pos hb] at h
     by_cases e : p = k
     · rw [e]; exact hb
     exact plFrom_ok h p (by omega) (by omega)
   rw [if_neg hb] at h
   exact absurd h hb
theorem placesV_ok {l : List InstV} (h : (placesV l).2 = 0) (p : Nat) (hp : p < l.length) : plBad l p = 0 := plFrom_ok h p (Nat.zero_le _) (by omega)
theorem right_of_places {l : List InstV} (h : (placesV l).2 = 0) : ∀ i ∈ l, rightV i = true := by
 intro i hi
 obtain ⟨k, hk, rfl⟩ := List.getElem_of_mem hi
 have hb := placesV_ok h k hk
 unfold plBad plV at hb
 rw [show l.getD k ins0 = l[k] by rw [List.getD_eq_getElem?_getD, List.getElem?_eq_getElem hk]; rfl] at hb
 by_cases hr : rightV l[k] = true
 · exact hr
 rw [if_neg hr] at hb
 exact absurd hb (by decide)
/-- what Check's OK says -/
structure CheckI (l : List InstV) : Prop where
 n0 : 0 < l.length
 n1 : l.length ≤ 64
 pl : (placesV l).2 = 0
 ne : (nestedV l).2 = 0
 co : costV l ≤ 256
theorem check_is {l : List InstV} (h : (checkV l).2 = 0) : CheckI l := by
 unfold checkV at h
 by_cases h1 : l.length = 0
 · rw [if_pos h1] at h; exact absurd h (by decide)
 rw [if_neg h1] at h
 by_cases h2 : 64 < l.length
 · rw [if_pos h2] at h; exact absurd h (by decide)
 rw [if_neg h2] at h
 by_cases h3 : (placesV l).2 = 0
 · rw [if_pos h3] at h
   by_cases h4 : (nestedV l).2 = 0
   · rw [if_pos h4] at h
     by_cases h5 : 256 < costV l
     · rw [if_pos h5] at h; exact absurd h (by decide)
     exact ⟨by omega, by omega, h3, h4, by omega⟩
   rw [if_neg h4] at h; exact absurd h h4
 rw [if_neg h3] at h; exact absurd h h3

theorem check_any (w : World) (l : List InstV) (A : Option Addr) (n c : Nat) (hn : n = l.length) (ht : Frm w) (hs : Sl w A (inss l)) :
 Calls Tryz.prog 52 #[.slice A n c] w fun e w' => e = .returned (.tuple #[.int .i64 (checkV l).1, .int .i64 (checkV l).2]) ∧ Below w.heap.size w w' := by
 have HP := Lib.hid (fun hm => places_any w l A n c hn hm ht hs)
 have HNE := Lib.hid (fun w hm hr ht hs => nested_any w l A n c hn hm hr ht hs)
 have HCO := Lib.hid (fun w hm hr ht hs => cost_any w l A n c hn hm hr ht hs)
 have HS := Lib.hid hs
 have HT := Lib.hid ht
 have HRP := Lib.hid (@right_of_places l)
 obtain ⟨V, hV⟩ : ∃ V, checkV l = V := ⟨_, rfl⟩
 rw [hV]
 have HV := Lib.hid hV
 unfold checkV at HV
 rw [← hn] at HV
 clear hV hs ht hn
 generalize placesV l = PV at HP HV HRP
 generalize nestedV l = NV at HNE HV
 generalize costV l = CV at HCO HV
 obtain ⟨p1, p2⟩ := PV
 obtain ⟨n1, n2⟩ := NV
 dsimp only at HP HV HRP HNE
 go_enter Tryz.func52, Tryz.ntmps52
 by_cases h0 : n = 0
 · subst h0
   have HV2 := Lib.hid (show ((0 : Int), (10 : Int)) = V from HV.out)
   go_wp2_with fail
   exact bodyPost_ret (v := .tuple #[.int .i64 0, .int .i64 10]) (by simp [results, Tryz.results52, go_sem]) rfl ⟨by rw [← HV2.out], Below.refl _ _⟩
 have HV := Lib.hid (HV.out.symm.trans (if_neg h0))
 have h0i : ((n : Int) == 0) = false := by rw [beq_eq_false_iff_ne]; omega
 have H0 := Lib.hid h0
 clear h0
 by_cases h1 : 64 < n
 · have HV2 := Lib.hid (show ((0 : Int), (11 : Int)) = V from (HV.out.trans (if_pos h1)).symm)
   have h1i : (64 : Int) < (n : Int) := by omega
   clear h1
   go_wp2_with fail
   exact bodyPost_ret (v := .tuple #[.int .i64 0, .int .i64 11]) (by simp [results, Tryz.results52, go_sem]) rfl ⟨by rw [← HV2.out], Below.refl _ _⟩
 have HV := Lib.hid (HV.out.trans (if_neg h1))
 have h1i : ¬ (64 : Int) < (n : Int) := by omega
 have HM := Lib.hid (show n ≤ 64 by omega)
 clear h1
 go_wp2_with fail
 refine (HP.out HM.out).mono ?_
 rintro e w2 ⟨rfl, b2⟩
 have HB2 := Lib.hid b2
 have HS2 := Lib.hid (HS.out.below b2)
 have HT2 := Lib.hid (HT.out.below b2)
 clear b2 HP HS HT
 by_cases h2 : p2 = 0
 · subst h2
   have HR := Lib.hid (HRP.out rfl)
   have HV := Lib.hid (HV.out.trans (if_pos (by trivial)))
   go_wp2_with fail
   refine (HNE.out w2 HM.out HR.out HT2.out HS2.out).mono ?_
   rintro e w3 ⟨rfl, b3⟩
   have HS3 := Lib.hid (HS2.out.below b3)
   have HT3 := Lib.hid (HT2.out.below b3)
   have HB3 := Lib.hid (HB2.out.trans (b3.mono HB2.out.size))
   clear b3 HB2 HS2 HT2 HNE
   by_cases h3 : n2 = 0
   · subst h3
     have HV := Lib.hid (HV.out.trans (if_pos (by trivial)))
     go_wp2_with fail
     refine (HCO.out w3 HM.out HR.out HT3.out HS3.out).mono ?_
     rintro e w4 ⟨rfl, b4⟩
     have HB4 := Lib.hid (HB3.out.trans (b4.mono HB3.out.size))
     clear b4 HB3
     by_cases h4 : 256 < CV
     · have HV2 := Lib.hid (show ((0 : Int), (32 : Int)) = V from (HV.out.trans (if_pos h4)).symm)
       go_wp2_with fail
       exact bodyPost_ret (v := .tuple #[.int .i64 0, .int .i64 32]) (by simp [results, Tryz.results52, go_sem]) rfl ⟨by rw [← HV2.out], HB4.out⟩
     have HV2 := Lib.hid (show ((0 : Int), (0 : Int)) = V from (HV.out.trans (if_neg h4)).symm)
     go_wp2_with fail
     exact bodyPost_ret (v := .tuple #[.int .i64 0, .int .i64 0]) (by simp [results, Tryz.results52, go_sem]) rfl ⟨by rw [← HV2.out], HB4.out⟩
   have HV2 := Lib.hid (show (n1, n2) = V from (HV.out.trans (if_neg h3)).symm)
   have h3i : (n2 != 0) = true := by simpa using h3
   clear h3
   go_wp2_with fail
   exact bodyPost_ret (v := .tuple #[.int .i64 n1, .int .i64 n2]) (by simp [results, Tryz.results52, go_sem]) rfl ⟨by rw [← HV2.out], HB3.out⟩
 have HV2 := Lib.hid (show (p1, p2) = V from (HV.out.trans (if_neg h2)).symm)
 have h2i : (p2 != 0) = true := by simpa using h2
 clear h2
 go_wp2_with fail
 exact bodyPost_ret (v := .tuple #[.int .i64 p1, .int .i64 p2]) (by simp [results, Tryz.results52, go_sem]) rfl ⟨by rw [← HV2.out], HB2.out⟩

end Go.Proofs.YtikkmkomlajnfaaGreatDoor.Op
end

section
namespace Go.Proofs.YtikkmkomlajnfaaGreatDoor.Op
set_option maxRecDepth 100000
set_option maxHeartbeats 4000000
open Go.RowKit

theorem loops_own (w : World) (l : List InstV) (A : Option Addr) (n c : Nat) (hn : n = l.length) (hm : n ≤ 64) (hr : ∀ i ∈ l, rightV i = true) (hs : Sl w A (inss l)) :
 Calls Tryz.prog 77 #[.slice A n c] w fun e w' => ∃ A' c', e = .returned (.slice A' (loopsV l).length c') ∧ (loopsV l).length ≤ c' ∧ Sl w' A' (lps (loopsV l)) ∧ Below w.heap.size w w' ∧ (∀ a, A' = some a → w.heap.size ≤ a.block) := by
 have HN := Lib.hid hn
 have HS := Lib.hid hs
 have HRI := Lib.hid hr
 clear hn hs hr
 obtain ⟨i0, hi0, hz0, hz1, hz2⟩ := info_parts loop_info
 go_enter Tryz.func77, Tryz.ntmps77
 go_wp2_with fail
 go_loopw [3, 8] (fun u i wr => ∃ k : Nat, k ≤ n ∧ i = .int .i64 k ∧ wr.ownsRow w.heap.size 172 3 u (loopsT l k).length (lps (loopsT l k)) ∧ Below w.heap.size w wr) (fun _ i _ => n - (intOf i).toNat)
 case atStart => exact ⟨0, Nat.zero_le _, rfl, World.ownsRow_nil _ _ _ _, Below.refl _ _⟩
 case round =>
  obtain ⟨k, hk, rfl, hown, hb⟩ := hrel
  have HO := Lib.hid hown
  have HB := Lib.hid hb
  clear hown hb
  by_cases hlt : k < n
  · have g1 : (k : Int) < (n : Int) := by omega
    have g0 : (0 : Int) ≤ (k : Int) := by omega
    have hkl : k < l.length := by have := HN.out; omega
    obtain ⟨bq, oq, rfl, _, hc⟩ := ins_at (HS.out.below HB.out) (by have := HN.out; omega)
    obtain ⟨c0, c1, c2, c3, c4⟩ := hc k hkl
    have HST := Lib.hid (show loopsT l (k + 1) = loopsT l k ++ (if (l.getD k ins0).op = 20 then [⟨(k : Int) - (l.getD k ins0).d, k, (l.getD k ins0).m⟩] else []) from rfl)
    have hri := right_is (HRI.out (l.getD k ins0) (by rw [List.getD_eq_getElem?_getD, List.getElem?_eq_getElem hkl]; exact List.getElem_mem hkl))
    have hd0 := hri.d0
    have hd1 := hri.d1
    clear hri hc hkl
    generalize l.getD k ins0 = i at c0 c1 c2 c3 c4 HST hd0 hd1
    obtain ⟨op, d, a, b, m⟩ := i
    dsimp only at c0 c1 c2 c3 c4 HST hd0 hd1
    have g9 : wrap64 ((k : Int) - d) = (k : Int) - d := by unfold wrap64; omega
    have g4 : wrap64 ((k : Int) + 1) = (k : Int) + 1 := by unfold wrap64; omega
    have O1 := Lib.hid (Ob.fresh wr 59 [.int .i64 op, .int .i64 d, .int .i64 a, .int .i64 b, .int .i64 m])
    have B1 := Lib.hid (below_alloc HB.out (.cells #[.int .i64 op, .int .i64 d, .int .i64 a, .int .i64 b, .int .i64 m] 59))
    have W1 := Lib.hid (World.ownsRow.alloc HO.out (.cells #[.int .i64 op, .int .i64 d, .int .i64 a, .int .i64 b, .int .i64 m] 59))
    clear hd0 hd1 HB HO
    go_upto_region 5 with fail
    clear c0 c1 c2 c3 c4
    generalize wr.alloc (.cells #[.int .i64 op, .int .i64 d, .int .i64 a, .int .i64 b, .int .i64 m] 59) = w2 at O1 B1 W1 ⊢
    generalize wr.heap.size = q at O1 ⊢
    have i0' : w2.cell? ⟨q, 0, none⟩ = some (.int .i64 op) := O1.out.cell 0
    have i1' : w2.cell? ⟨q, 1, none⟩ = some (.int .i64 d) := O1.out.cell 1
    have i4' : w2.cell? ⟨q, 4, none⟩ = some (.int .i64 m) := O1.out.cell 4
    by_cases ho : op = 20
    · have HST := Lib.hid (HST.out.trans (by rw [if_pos ho]))
      have g5 : (op == 20) = true := by rw [ho]; rfl
      clear ho
      go_wp2_with
      (at_builtin
       refine wpList_append_in _ rfl (.tmp 16) (.tmp 25) _ rfl (below_alloc B1.out _) 172 i0 _ 3 24 Tryz.underlying124 hi0 hz0 hz1 hz2 rfl (by omega) u3 (loopsT l k).length (lps (loopsT l k)) rfl (World.ownsRow.alloc W1.out _)
        (some ⟨w2.heap.size, 0, none⟩) 1 1 (lpc ⟨(k : Int) - d, k, m⟩) rfl rfl (Sl.fresh w2 (lpc ⟨(k : Int) - d, k, m⟩).toArray 172 (0, 0)) (lpc_one _) (by have := loopsT_len l k; omega) (by omega) ?_
       intro v2 w3 hown hb2 g1' g2'
       have HR := Lib.hid hown
       have HB4 := Lib.hid hb2
       clear hown hb2 g1' g2')
      refine ⟨⟨k + 1, by omega, by go_num, by rw [HST.out, List.length_append, lps_app, lps_one]; exact HR.out, HB4.out⟩, by simp [intOf]; omega⟩
    have HST := Lib.hid (HST.out.trans (by rw [if_neg ho, List.append_nil]))
    have g5 : (op == 20) = false := by rw [beq_eq_false_iff_ne]; exact ho
    clear ho
    go_wp2_with fail
    refine ⟨⟨k + 1, by omega, by go_num, by rw [HST.out]; exact W1.out, B1.out⟩, by simp [intOf]; omega⟩
  have g1 : ¬ (k : Int) < (n : Int) := by omega
  have hke : k = l.length := by have := HN.out; omega
  subst hke
  obtain ⟨A', c', hu, hle, _, hsl, hbase⟩ := own_form HO.out
  have HBS := Lib.hid (show ∀ a, A' = some a → w.heap.size ≤ a.block from fun a h => (hbase a h).1)
  clear hbase
  subst hu
  have HSL := Lib.hid hsl
  have HLE := Lib.hid hle
  clear hsl hle
  go_wp2_with fail
  go_ret
  exact ⟨A', c', rfl, HLE.out, HSL.out, HB.out, HBS.out⟩

theorem loopsy_any (w : World) (l : List InstV) (A : Option Addr) (n c : Nat) (hn : n = l.length) (hk : (checkV l).2 = 0) (ht : Frm w) (hs : Sl w A (inss l)) :
 Calls Tryz.prog 53 #[.slice A n c] w fun e w' => ∃ A' c', e = .returned (.tuple #[.slice A' (loopsV l).length c', .int .i64 0]) ∧ (loopsV l).length ≤ c' ∧ Sl w' A' (lps (loopsV l)) ∧ Below w.heap.size w w' ∧ (∀ a, A' = some a → w.heap.size ≤ a.block) := by
 have HI := check_is hk
 have HC := Lib.hid (check_any w l A n c hn ht hs)
 rw [hk] at HC
 have HLO := Lib.hid (fun w hs => loops_own w l A n c hn (by have := HI.n1; omega) (right_of_places HI.pl) hs)
 have HS := Lib.hid hs
 clear hs ht hn hk HI
 go_enter Tryz.func53, Tryz.ntmps53
 go_wp2_with fail
 refine HC.out.mono ?_
 rintro e w2 ⟨rfl, b2⟩
 have HB2 := Lib.hid b2
 have HS2 := Lib.hid (HS.out.below b2)
 clear b2
 go_wp2_with fail
 refine (HLO.out w2 HS2.out).mono ?_
 rintro e w3 ⟨A', c', rfl, hc', hs', b3, hbs⟩
 have HBS := Lib.hid (show ∀ a, A' = some a → w.heap.size ≤ a.block from fun a h => Nat.le_trans HB2.out.size (hbs a h))
 clear hbs
 have HB3 := Lib.hid (HB2.out.trans (b3.mono HB2.out.size))
 have HCC := Lib.hid hc'
 have HSS := Lib.hid hs'
 clear b3 hc' hs'
 go_wp2_with fail
 exact bodyPost_ret (v := .tuple #[.slice A' (loopsV l).length c', .int .i64 0]) (by simp [results, Tryz.results53, go_sem]) rfl ⟨A', c', rfl, HCC.out, HSS.out, HB3.out, HBS.out⟩

end Go.Proofs.YtikkmkomlajnfaaGreatDoor.Op
end
