/-
  Layer 8: the reference's Check; awake. Conditions: those of each theorem.
-/
import Derived.Test.YthmfenagdoefcaaDoorSigsC
namespace Go.Proofs.YthmfenagdoefcaaDoor
open Go.RowKit


set_option maxRecDepth 100000 in
set_option maxHeartbeats 8000000 in
theorem rcheck_any (w : World) (h : Int) (l : List TypeV) (A : Option Addr) (n c : Nat) (hn : n = l.length) (hm : n ≤ 4611686018427387904) (hs : Sl w A (tys l)) :
    Calls Tryd.prog 13 #[.int .i64 h, .slice A n c] w fun e w' => e = .returned (.int .i64 (ckOf h l)) ∧ Below w.heap.size w w' := by
  have HN := Lib.hid hn
  have HS := Lib.hid hs
  clear hn hs
  obtain ⟨V0, hV⟩ : ∃ V, ckOf h l = V := ⟨_, rfl⟩
  rw [hV]
  have HV := Lib.hid hV
  clear hV
  by_cases h7 : 0 ≤ h ∧ h < 7
  · have H7 := Lib.hid (show hI h < 7 by unfold hI; rw [if_pos h7]; omega)
    have g8 : ¬ h < 0 := by omega
    have g9 : ¬ 6 < h := by omega
    clear h7
    go_enter Tryd.func13, Tryd.ntmps13
    go_wp2_with fail
    refine (rargs_any w h).mono ?_
    rintro e w1 ⟨v, rfl, hown, b1⟩
    obtain ⟨A1, c1, rfl, hA1, _, hsl, _⟩ := own_form hown
    have HS1 := Lib.hid hsl
    have B1 := Lib.hid b1
    have hW3 := argsL_len (hI h)
    clear hown hsl b1
    obtain ⟨m, hmm⟩ : ∃ m, (argsL (hI h)).length = m := ⟨_, rfl⟩
    rw [hmm] at hW3 ⊢
    have HM := Lib.hid hmm
    clear hmm
    by_cases hmn : m = n
    · subst hmn
      obtain ⟨V, hV1⟩ : ∃ V, ckL (argsL (hI h)) l = V := ⟨_, rfl⟩
      have HV1 := Lib.hid hV1
      have HVV := Lib.hid (show V0 = V by rw [← HV.out, ← hV1]; unfold ckOf; rw [if_pos H7.out, if_pos (by rw [HM.out, HN.out])])
      clear hV1
      go_wp2_with fail
      go_loopw [6] (fun i wr => ∃ k : Nat, k ≤ m ∧ i = .int .i64 k ∧ Below w1.heap.size w1 wr ∧ ckL ((argsL (hI h)).drop k) (l.drop k) = V) (fun i _ => m - (intOf i).toNat)
      case atStart => exact ⟨0, Nat.zero_le _, rfl, Below.refl _ _, HV1.out⟩
      case round =>
        obtain ⟨k, hk, rfl, hb, hck⟩ := hrel
        have BB := Lib.hid hb
        have HCK := Lib.hid hck
        clear hb hck
        by_cases hlt : k < m
        · have g1 : (k : Int) < (m : Int) := by omega
          have hk1 : k < (argsL (hI h)).length := by rw [HM.out]; exact hlt
          have hk2 : k < l.length := by rw [← HN.out]; exact hlt
          obtain ⟨b, o, rfl, hb1, hc1⟩ := tys_at HS1.out (by omega)
          obtain ⟨b', o', rfl, hb2, hc2⟩ := tys_at HS.out (by omega)
          have f0 : wr.cell? ⟨b, o + k * 4, none⟩ = some ((tyc ((argsL (hI h)).getD k ty0)).getD 0 undef) := (BB.out.cell hb1).trans (hc1 k hk1 0 (by omega))
          have f1 : wr.cell? ⟨b, o + k * 4 + 1, none⟩ = some ((tyc ((argsL (hI h)).getD k ty0)).getD 1 undef) := (BB.out.cell hb1).trans (hc1 k hk1 1 (by omega))
          have f2 : wr.cell? ⟨b, o + k * 4 + 2, none⟩ = some ((tyc ((argsL (hI h)).getD k ty0)).getD 2 undef) := (BB.out.cell hb1).trans (hc1 k hk1 2 (by omega))
          have f3 : wr.cell? ⟨b, o + k * 4 + 3, none⟩ = some ((tyc ((argsL (hI h)).getD k ty0)).getD 3 undef) := (BB.out.cell hb1).trans (hc1 k hk1 3 (by omega))
          have e0 : wr.cell? ⟨b', o' + k * 4, none⟩ = some ((tyc (l.getD k ty0)).getD 0 undef) := (BB.out.cell (Nat.lt_of_lt_of_le hb2 B1.out.size)).trans ((B1.out.cell hb2).trans (hc2 k hk2 0 (by omega)))
          have e1 : wr.cell? ⟨b', o' + k * 4 + 1, none⟩ = some ((tyc (l.getD k ty0)).getD 1 undef) := (BB.out.cell (Nat.lt_of_lt_of_le hb2 B1.out.size)).trans ((B1.out.cell hb2).trans (hc2 k hk2 1 (by omega)))
          have e2 : wr.cell? ⟨b', o' + k * 4 + 2, none⟩ = some ((tyc (l.getD k ty0)).getD 2 undef) := (BB.out.cell (Nat.lt_of_lt_of_le hb2 B1.out.size)).trans ((B1.out.cell hb2).trans (hc2 k hk2 2 (by omega)))
          have HST := Lib.hid (ckL_at (argsL (hI h)) l k hk1 hk2)
          clear hc1 hc2 hk1 hk2
          generalize (argsL (hI h)).getD k ty0 = t at f0 f1 f2 f3 HST
          generalize l.getD k ty0 = a at e0 e1 e2 HST
          obtain ⟨tk, tl, th, tm⟩ := t
          obtain ⟨ak, al, ah, am⟩ := a
          replace f0 : wr.cell? ⟨b, o + k * 4, none⟩ = some (.int .i64 tk) := f0
          replace f1 : wr.cell? ⟨b, o + k * 4 + 1, none⟩ = some (.int .u64 tl) := f1
          replace f2 : wr.cell? ⟨b, o + k * 4 + 2, none⟩ = some (.int .u64 th) := f2
          replace f3 : wr.cell? ⟨b, o + k * 4 + 3, none⟩ = some (.int .i64 tm) := f3
          replace e0 : wr.cell? ⟨b', o' + k * 4, none⟩ = some (.int .i64 ak) := e0
          replace e1 : wr.cell? ⟨b', o' + k * 4 + 1, none⟩ = some (.int .u64 al) := e1
          replace e2 : wr.cell? ⟨b', o' + k * 4 + 2, none⟩ = some (.int .u64 ah) := e2
          have HST2 : Hid (V = if ak ≠ tk then 33 else if tk = 1 ∧ withinB al ah tl th = false then 35 else ckL ((argsL (hI h)).drop (k + 1)) (l.drop (k + 1))) := Lib.hid (HCK.out.symm.trans HST.out)
          clear HST
          clear f3 hb1 hb2
          by_cases hkk : ak = tk
          · subst hkk
            go_wp2_with fail
            go_quiet (fail)
            go_upto_region 11 with fail
            have BY := Lib.hid (below_drewN BB.out nq)
            have y0 : (wr.drewN nq).cell? ⟨b, o + k * 4, none⟩ = some (.int .i64 ak) := f0
            have y1 : (wr.drewN nq).cell? ⟨b, o + k * 4 + 1, none⟩ = some (.int .u64 tl) := f1
            have y2 : (wr.drewN nq).cell? ⟨b, o + k * 4 + 2, none⟩ = some (.int .u64 th) := f2
            have y3 : (wr.drewN nq).cell? ⟨b', o' + k * 4 + 1, none⟩ = some (.int .u64 al) := e1
            have y4 : (wr.drewN nq).cell? ⟨b', o' + k * 4 + 2, none⟩ = some (.int .u64 ah) := e2
            generalize wr.drewN nq = wy at BY y0 y1 y2 y3 y4 ⊢
            clear f0 f1 f2 e0 e1 e2
            by_cases hk1 : ak = 1
            · subst hk1
              have HWA := Lib.hid (fun w => rwithin_any w al ah tl th)
              unfold spVal at HWA
              obtain ⟨wb, hwb⟩ : ∃ b, withinB al ah tl th = b := ⟨_, rfl⟩
              rw [hwb] at HST2 HWA
              clear hwb
              have HST3 := Lib.hid (show V = if wb = false then 35 else ckL ((argsL (hI h)).drop (k + 1)) (l.drop (k + 1)) by simpa using HST2.out)
              clear HST2
              have Y0 := Lib.hid y0
              have Y1 := Lib.hid y1
              have Y2 := Lib.hid y2
              have Y3 := Lib.hid y3
              have Y4 := Lib.hid y4
              go_region_held3 (fun w' => w'.cell? ⟨b, o + k * 4, none⟩ = some (.int .i64 1) ∧ w'.cell? ⟨b, o + k * 4 + 1, none⟩ = some (.int .u64 tl) ∧ w'.cell? ⟨b, o + k * 4 + 2, none⟩ = some (.int .u64 th) ∧ w'.cell? ⟨b', o' + k * 4 + 1, none⟩ = some (.int .u64 al) ∧ w'.cell? ⟨b', o' + k * 4 + 2, none⟩ = some (.int .u64 ah)) (go_keep)
                (first
                 | (go_at_call 28
                    refine (HWA.out wy.drew).mono ?_
                    rintro e w5 ⟨rfl, b5⟩
                    have BZ := Lib.hid ((below_drewN BY.out 1).trans (b5.mono (below_drewN BY.out 1).size))
                    have z0 : w5.cell? ⟨b, o + k * 4, none⟩ = some (.int .i64 1) := (b5.cell (cell_lt Y0.out)).trans Y0.out
                    have z1 : w5.cell? ⟨b, o + k * 4 + 1, none⟩ = some (.int .u64 tl) := (b5.cell (cell_lt Y1.out)).trans Y1.out
                    have z2 : w5.cell? ⟨b, o + k * 4 + 2, none⟩ = some (.int .u64 th) := (b5.cell (cell_lt Y2.out)).trans Y2.out
                    have z3 : w5.cell? ⟨b', o' + k * 4 + 1, none⟩ = some (.int .u64 al) := (b5.cell (cell_lt Y3.out)).trans Y3.out
                    have z4 : w5.cell? ⟨b', o' + k * 4 + 2, none⟩ = some (.int .u64 ah) := (b5.cell (cell_lt Y4.out)).trans Y4.out
                    clear b5))
              clear z0 z1 z2 z3 z4 y0 y1 y2 y3 y4
              cases wb
              · have HR := Lib.hid (show V0 = 35 by rw [HVV.out, HST3.out, if_pos rfl])
                go_wp2_with fail
                go_ret
                exact ⟨by rw [HR.out]; rfl, B1.out.trans (BZ.out.mono B1.out.size)⟩
              · have HST4 := Lib.hid (show ckL ((argsL (hI h)).drop (k + 1)) (l.drop (k + 1)) = V by rw [HST3.out, if_neg (by decide)])
                go_wp2_with fail
                go_roundw
                case rel => exact ⟨k + 1, by omega, by go_num, BZ.out, HST4.out⟩
                case measure => simp [intOf]; omega
            · have hk1' : (ak == 1) = false := by simpa using hk1
              have HST3 := Lib.hid (show ckL ((argsL (hI h)).drop (k + 1)) (l.drop (k + 1)) = V by rw [HST2.out, if_neg (fun h => h rfl), if_neg (fun h => hk1 h.1)])
              go_wp2_with fail
              go_quiet (fail)
              go_wp2_with fail
              go_roundw
              case rel => exact ⟨k + 1, by omega, by go_num, below_drewN BY.out _, HST3.out⟩
              case measure => simp [intOf]; omega
          · have hkk' : (ak == tk) = false := by simpa using hkk
            have HR := Lib.hid (show V0 = 33 by rw [HVV.out, HST2.out, if_pos hkk])
            go_wp2_with fail
            go_quiet (fail)
            go_wp2_with fail
            go_ret
            exact ⟨by rw [HR.out]; rfl, B1.out.trans (below_drewN (BB.out.mono B1.out.size) _)⟩
        · have g1 : ¬ (k : Int) < (m : Int) := by omega
          have HR := Lib.hid (show V0 = 0 by rw [HVV.out, ← HCK.out, List.drop_of_length_le (by rw [HM.out]; omega)]; rfl)
          go_wp2_with fail
          go_ret
          exact ⟨by rw [HR.out]; rfl, B1.out.trans (BB.out.mono B1.out.size)⟩
    · have hmn' : ((m : Int) == (n : Int)) = false := by simp; omega
      have HR := Lib.hid (show V0 = 2 by rw [← HV.out]; unfold ckOf; rw [if_pos H7.out, if_neg (by rw [HM.out, ← HN.out]; exact hmn)])
      go_wp2_with fail
      go_ret
      exact ⟨by rw [HR.out]; rfl, B1.out⟩
  · have HR := Lib.hid (show V0 = 34 by rw [← HV.out]; unfold ckOf; rw [if_neg (by unfold hI; rw [if_neg h7]; omega)])
    have hh : h < 0 ∨ (¬ h < 0 ∧ 6 < h) := by omega
    clear h7
    rcases hh with h0 | ⟨h0, h1⟩
    all_goals
      go_enter Tryd.func13, Tryd.ntmps13
      go_wp2_with fail
      go_ret
      exact ⟨by rw [HR.out]; rfl, Below.refl _ _⟩

set_option maxRecDepth 100000 in
set_option maxHeartbeats 4000000 in
theorem awake_any (w : World) (ht : Tab w) :
    Calls Tryd.prog 8 #[] w fun e w' => e = .returned (.bool true) ∧ Below w.heap.size w w' := by
  have HT := Lib.hid ht
  clear ht
  go_enter Tryd.func8, Tryd.ntmps8
  go_wp2_with fail
  refine (find_any w _ HT.out).mono ?_
  rintro e w1 ⟨rfl, b1⟩
  rw [show fdI ⟨#[110, 111, 116, 101]⟩ = 6 from by decide, show fdB ⟨#[110, 111, 116, 101]⟩ = true from by decide]
  have T1 := Lib.hid (HT.out.below b1)
  have B1 := Lib.hid b1
  clear b1
  go_wp2_with fail
  refine (args_any w1 0 T1.out).mono ?_
  rintro e w2 ⟨v, rfl, hown, b2⟩
  have hown2 : w2.ownsRow w1.heap.size 31 4 v 2 (tys [⟨2, 0, 0, 0⟩, ⟨1, 0, 18446744073709551615, 0⟩]) := hown
  obtain ⟨A2, c2, rfl, hA2, _, hsl, _⟩ := own_form hown2
  have T2 := Lib.hid (T1.out.below b2)
  have B2 := Lib.hid (B1.out.trans (b2.mono B1.out.size))
  obtain ⟨b, o, rfl, hbl, hc⟩ := tys_at hsl (by decide)
  have f0 : w2.cell? ⟨b, o, none⟩ = some (.int .i64 2) := hc 0 (by decide) 0 (by decide)
  have F0 := Lib.hid f0
  clear b2 hown hown2 hsl hc
  go_wp2_with fail
  refine (name_any w2 2 T2.out).mono ?_
  rintro e w3 ⟨rfl, b3⟩
  rw [show nmB (hI 2) = ⟨#[112, 117, 116]⟩ from rfl]
  have T3 := Lib.hid (T2.out.below b3)
  have B3 := Lib.hid (B2.out.trans (b3.mono B2.out.size))
  have f3 : w3.cell? ⟨b, o, none⟩ = some (.int .i64 2) := (b3.cell hbl).trans F0.out
  clear b3 f0
  go_wp2_with fail
  refine (check_any w3 9 [] none 0 0 rfl (by omega) T3.out (Sl.nil _ _)).mono ?_
  rintro e w4 ⟨rfl, b4⟩
  rw [show ckOf 9 [] = 34 from by decide]
  have B4 := Lib.hid (B3.out.trans (b4.mono B3.out.size))
  clear b4 f3
  go_wp2_with fail
  refine (value_any w4 0 ⟨0, false, 7, false, 0, 0⟩).mono ?_
  rintro e w5 ⟨rfl, b5⟩
  rw [show vlOf (hI 0) ⟨0, false, 7, false, 0, 0⟩ = 7 from by decide]
  have B5 := Lib.hid (B4.out.trans (b5.mono B4.out.size))
  clear b5
  go_wp2_with fail
  go_ret
  exact ⟨rfl, B5.out⟩

end Go.Proofs.YthmfenagdoefcaaDoor
