/-
  The walk of the law SigsArgs. Conditions: those of each theorem.
-/
import Derived.Test.YthmfenagdoefcaaDoorSigsL
namespace Go.Proofs.YthmfenagdoefcaaDoor
open Go.RowKit

/-- a row stays a row where one of its cells is written -/
theorem own_poke {w : World} {B : Nat} {e : TypeId} {size : Nat} {v : Value} {n g k : Nat} {xs : List Value} (h : w.ownsRow B e size v n xs) (hv : v.ownBlock = some g) (u : Value) : ∃ ys, (w.setCell ⟨g, k, none⟩ u).ownsRow B e size v n ys := by
  rcases h.2 with ⟨rfl, _⟩ | ⟨g', cap, cur, rfl, hb, hg, hnc, hcm, hs, ht⟩
  · cases hv
  · injection hv with hv
    subst hv
    refine ⟨(cur.setIfInBounds k u).toList.take (n * size), ?_, .inr ⟨g', cap, cur.setIfInBounds k u, rfl, hb, ?_, hnc, hcm, by simpa using hs, ?_⟩⟩
    · have h1 := congrArg List.length ht
      have h2 := h.1
      simp only [List.length_take, Array.length_toList, Array.size_setIfInBounds] at h1 ⊢
      omega
    · simp [World.setCell, Array.getElem?_modify, hg]
    · rfl
theorem own_head {w : World} {B : Nat} {e : TypeId} {size : Nat} {v : Value} {n : Nat} {xs : List Value} (h : w.ownsRow B e size v n xs) (hn : 0 < n * size) : ∃ g cap, v = .slice (some ⟨g, 0, none⟩) n cap ∧ B ≤ g ∧ g < w.heap.size ∧ v.ownBlock = some g ∧ (∀ i, w.frozen? ⟨g, i, none⟩ = false) ∧ ∀ k, k < n * size → ∃ u, w.cell? ⟨g, k, none⟩ = some u := by
  rcases h.2 with ⟨_, rfl⟩ | ⟨g, cap, cur, rfl, hb, hg, hnc, hcm, hs, ht⟩
  · exact absurd hn (by simp)
  · refine ⟨g, cap, rfl, hb, (Array.getElem?_eq_some_iff.1 hg).1, rfl, fun i => by simp [World.frozen?, hg], fun k hk => ?_⟩
    have h1 : k < cur.size := by
      have h1 := congrArg List.length ht
      have h2 := h.1
      simp only [List.length_take, Array.length_toList] at h1
      omega
    exact ⟨cur[k], by rw [cell_of_row w g k cur e (0, 0) hg, Array.getElem?_eq_getElem h1]⟩
theorem Sl.tch {S : Nat → Prop} {w w' : World} {A : Option Addr} {xs : List Value} (h : Sl w A xs) (k : Tch S w w') (hn : ∀ q, A = some q → ¬ S q.block) : Sl w' A xs := fun hp => by
  obtain ⟨b, o, e, hc⟩ := h hp
  have hl := cell_lt (hc 0 hp)
  refine ⟨b, o, e, fun j hj => ?_⟩
  rw [World.cell?_of_block (k.block b hl (hn _ e))]
  exact hc j hj
/-- a row of the call's own, whatever it holds -/
def Own (w : World) (B : Nat) (v : Value) (n : Nat) : Prop := ∃ xs, w.ownsRow B 31 4 v n xs


set_option maxRecDepth 100000 in
set_option maxHeartbeats 8000000 in
theorem args_walk (w : World) (h : Int) (ht : Tab w) :
    Calls Tryd.prog 3 #[.int .i64 h] w fun e w' => e = .returned (.bool true) ∧ Below w.heap.size w w' := by
  have HT := Lib.hid ht
  clear ht
  obtain ⟨i0, hi0, hz0, hz1, hz2⟩ := info_parts type_info
  go_enter Tryd.func3, Tryd.ntmps3
  go_wp2_with fail
  refine (awake_any w HT.out).mono ?_
  rintro e w0 ⟨rfl, b0⟩
  have B0 := Lib.hid b0
  clear b0
  go_wp2_with fail
  go_loopw [3] (fun i wr => ∃ z : Int, -1 ≤ z ∧ z ≤ 9 ∧ i = .int .i64 z ∧ Below w.heap.size w wr) (fun i _ => (9 - intOf i).toNat)
  case atStart => exact ⟨-1, by omega, by omega, rfl, B0.out⟩
  case round =>
    obtain ⟨z, hz1', hz9, rfl, hb⟩ := hrel
    have BB := Lib.hid hb
    clear hb B0
    by_cases hlt : z < 9
    · by_cases hz8 : z = 8
      · subst hz8
        go_wp2_with fail
        refine (args_any wr h (HT.out.below BB.out)).mono ?_
        rintro e w1 ⟨va, rfl, hown1, b1⟩
        obtain ⟨m, hm⟩ : ∃ m, (argsL (hI h)).length = m := ⟨_, rfl⟩
        rw [hm] at hown1
        have HM := Lib.hid hm
        have hm3 : m ≤ 3 := by rw [← hm]; exact argsL_len _
        clear hm
        have R1 := Lib.hid (own_base hown1 BB.out.size)
        have HG1 : Hid (∀ g, va.ownBlock = some g → g < w1.heap.size) := Lib.hid fun g hg => (World.ownsRow.lt hown1 g hg).2
        have B1 := Lib.hid (BB.out.trans (b1.mono BB.out.size))
        have HS1 := Lib.hid b1.size
        clear hown1 b1
        go_wp2_with fail
        refine (args_any w1 h (HT.out.below B1.out)).mono ?_
        rintro e w2 ⟨vb, rfl, hown2, b2⟩
        rw [HM.out] at hown2
        obtain ⟨A2, c2, rfl, _, _, hs2, _⟩ := own_form hown2
        have S2 := Lib.hid hs2
        have N2 : Hid (∀ q, A2 = some q → w1.heap.size ≤ q.block) := Lib.hid fun q hq => by
          obtain ⟨A, c, hv, _, _, _, hb⟩ := own_form hown2
          injection hv with hv
          subst hv
          exact (hb q hq).1
        have R2 := Lib.hid (own_tch (S := fun _ => False) R1.out (Tch.of_below b2) fun _ _ => id)
        have B2 := Lib.hid (B1.out.trans (b2.mono B1.out.size))
        have L12 := Lib.hid b2.size
        clear hown2 hs2 b2 R1
        go_wp2_with fail
        refine (rargs_any w2 h).mono ?_
        rintro e w3 ⟨vw, rfl, hown3, b3⟩
        rw [HM.out] at hown3
        obtain ⟨A3, c3, rfl, _, _, hs3, _⟩ := own_form hown3
        have S3 := Lib.hid hs3
        have N3 : Hid (∀ q, A3 = some q → w2.heap.size ≤ q.block) := Lib.hid fun q hq => by
          obtain ⟨A, c, hv, _, _, _, hb⟩ := own_form hown3
          injection hv with hv
          subst hv
          exact (hb q hq).1
        have S23 := Lib.hid (Sl.below S2.out b3)
        have R3 := Lib.hid (own_tch (S := fun _ => False) R2.out (Tch.of_below b3) fun _ _ => id)
        have B3 := Lib.hid (B2.out.trans (b3.mono B2.out.size))
        clear hown3 hs3 b3 R2 S2
        obtain ⟨A1, c1, rfl, _, _, hs1, _⟩ := own_form R3.out
        have hsl1 := Lib.hid hs1
        clear hs1
        go_wp2_with fail
        refine (alike_eq w3 (argsL (hI h)) A1 A3 m c1 c3 HM.out.symm (by omega) hsl1.out S3.out).mono ?_
        rintro e w4 ⟨rfl, b4⟩
        have S24 := Lib.hid (Sl.below S23.out b4)
        have S34 := Lib.hid (Sl.below S3.out b4)
        have R4 := Lib.hid (own_tch (S := fun _ => False) R3.out (Tch.of_below b4) fun _ _ => id)
        have B4 := Lib.hid (B3.out.trans (b4.mono B3.out.size))
        clear b4 S23 S3 R3 hsl1
        go_wp2_with fail
        refine (alike_eq w4 (argsL (hI h)) A2 A3 m c2 c3 HM.out.symm (by omega) S24.out S34.out).mono ?_
        rintro e w5 ⟨rfl, b5⟩
        have S25 := Lib.hid (Sl.below S24.out b5)
        have S35 := Lib.hid (Sl.below S34.out b5)
        have R5 : Hid (Own w5 w.heap.size (.slice A1 m c1) m) := Lib.hid ⟨_, own_tch (S := fun _ => False) R4.out (Tch.of_below b5) fun _ _ => id⟩
        have B5 := Lib.hid (B4.out.trans (b5.mono B4.out.size))
        clear b5 S24 S34 R4
        go_wp2_with fail
        go_loopw [8] (fun i wq => ∃ j : Nat, j ≤ m ∧ i = .int .i64 j ∧ Own wq w.heap.size (.slice A1 m c1) m ∧ Tch (fun i => (Value.slice A1 m c1).ownBlock = some i) w5 wq ∧ Below w.heap.size w wq) (fun i _ => m - (intOf i).toNat)
        case atStart => exact ⟨0, Nat.zero_le _, rfl, R5.out, Tch.refl _ _, B5.out⟩
        case round =>
          obtain ⟨j, hj, rfl, hown, htc, hbj⟩ := hrel
          have RJ := Lib.hid hown
          have TJ := Lib.hid htc
          have BJ := Lib.hid hbj
          clear hown htc hbj
          by_cases hjm : j < m
          · have g2 : (j : Int) < (m : Int) := by omega
            obtain ⟨xs, hown⟩ := RJ.out
            obtain ⟨g, cap, hv, hBg, hgl, hob, hfz, hcl⟩ := own_head hown (by omega)
            injection hv with hv1 hv2 hv3
            subst hv1
            obtain ⟨u0, f0⟩ := hcl (j * 4) (by omega)
            obtain ⟨u1, f1⟩ := hcl (j * 4 + 1) (by omega)
            obtain ⟨u2, f2⟩ := hcl (j * 4 + 2) (by omega)
            obtain ⟨u3, f3⟩ := hcl (j * 4 + 3) (by omega)
            obtain ⟨x1, p1⟩ := own_poke (k := j * 4) hown hob (.int .i64 77)
            obtain ⟨x2, p2⟩ := own_poke (k := j * 4 + 1) p1 hob (.int .u64 0)
            obtain ⟨x3, p3⟩ := own_poke (k := j * 4 + 2) p2 hob (.int .u64 0)
            obtain ⟨x4, p4⟩ := own_poke (k := j * 4 + 3) p3 hob (.int .i64 0)
            have P4 := Lib.hid p4
            have HOB := Lib.hid hob
            have HBG := Lib.hid hBg
            clear hown hcl p1 p2 p3 p4 hob
            go_wp2_with fail
            go_roundw
            case rel => exact ⟨j + 1, by omega, by go_num, ⟨_, P4.out⟩, (((TJ.out.setCell HOB.out _).setCell HOB.out _).setCell HOB.out _).setCell HOB.out _, (((BJ.out.setCell HBG.out _).setCell HBG.out _).setCell HBG.out _).setCell HBG.out _⟩
            case measure => simp [intOf]; omega
          · have g2 : ¬ (j : Int) < (m : Int) := by omega
            obtain ⟨xs, hown⟩ := RJ.out
            have RO := Lib.hid hown
            clear hown
            go_wp2_with
              (at_builtin
               refine wpList_append_in _ rfl (.tmp 45) (.tmp 47) _ rfl (below_alloc BJ.out _) 31 i0 _ 4 32 Tryd.underlying23 hi0 hz0 hz1 hz2 rfl (by omega) (.slice A1 m c1) m xs rfl (World.ownsRow.alloc RO.out _)
                 (some ⟨wr.heap.size, 0, none⟩) 1 1 (tyc ⟨78, 0, 0, 0⟩) rfl rfl (Sl.fresh wr (tyc ⟨78, 0, 0, 0⟩).toArray 31 (0, 0)) (tyc_one _) (by omega) (by omega) ?_
               intro v2 w6 hown6 hb6 h1 _
               have B6 := Lib.hid hb6
               have T6 := Lib.hid (TJ.out.trans (Tch.of_grown ((World.grownBy_alloc wr _ _).trans h1)))
               have S26 := Lib.hid (S25.out.tch T6.out fun q hq hs => by have := N2.out q hq; have := HG1.out _ hs; omega)
               have S36 := Lib.hid (S35.out.tch T6.out fun q hq hs => by have := N3.out q hq; have := L12.out; have := HG1.out _ hs; omega)
               obtain ⟨A6, c6, rfl, _, _, _, _⟩ := own_form hown6
               clear hown6 hb6 h1 S25 S35 TJ)
            refine (alike_eq w6 (argsL (hI h)) A2 A3 m c2 c3 HM.out.symm (by omega) S26.out S36.out).mono ?_
            rintro e w7 ⟨rfl, b7⟩
            have S37 := Lib.hid (Sl.below S36.out b7)
            have B7 := Lib.hid (B6.out.trans (b7.mono B6.out.size))
            clear b7
            go_wp2_with fail
            refine (args_any w7 h (HT.out.below B7.out)).mono ?_
            rintro e w8 ⟨vc, rfl, hown8, b8⟩
            rw [HM.out] at hown8
            obtain ⟨A8, c8, rfl, _, _, hs8, _⟩ := own_form hown8
            have S8 := Lib.hid hs8
            have S38 := Lib.hid (Sl.below S37.out b8)
            have B8 := Lib.hid (B7.out.trans (b8.mono B7.out.size))
            clear hown8 hs8 b8
            go_wp2_with fail
            refine (alike_eq w8 (argsL (hI h)) A8 A3 m c8 c3 HM.out.symm (by omega) S8.out S38.out).mono ?_
            rintro e w9 ⟨rfl, b9⟩
            have B9 := Lib.hid (B8.out.trans (b9.mono B8.out.size))
            clear b9
            go_wp2_with fail
            refine ⟨⟨9, by omega, by omega, rfl, B9.out⟩, by simp [intOf]⟩
      · have hz8' : (z == 8) = false := by simpa using hz8
        go_wp2_with fail
        refine (args_any wr z (HT.out.below BB.out)).mono ?_
        rintro e w1 ⟨va, rfl, hown1, b1⟩
        obtain ⟨m, hm⟩ : ∃ m, (argsL (hI z)).length = m := ⟨_, rfl⟩
        rw [hm] at hown1
        have HM := Lib.hid hm
        have hm3 : m ≤ 3 := by rw [← hm]; exact argsL_len _
        clear hm
        have R1 := Lib.hid (own_base hown1 BB.out.size)
        have HG1 : Hid (∀ g, va.ownBlock = some g → g < w1.heap.size) := Lib.hid fun g hg => (World.ownsRow.lt hown1 g hg).2
        have B1 := Lib.hid (BB.out.trans (b1.mono BB.out.size))
        have HS1 := Lib.hid b1.size
        clear hown1 b1
        go_wp2_with fail
        refine (args_any w1 z (HT.out.below B1.out)).mono ?_
        rintro e w2 ⟨vb, rfl, hown2, b2⟩
        rw [HM.out] at hown2
        obtain ⟨A2, c2, rfl, _, _, hs2, _⟩ := own_form hown2
        have S2 := Lib.hid hs2
        have N2 : Hid (∀ q, A2 = some q → w1.heap.size ≤ q.block) := Lib.hid fun q hq => by
          obtain ⟨A, c, hv, _, _, _, hb⟩ := own_form hown2
          injection hv with hv
          subst hv
          exact (hb q hq).1
        have R2 := Lib.hid (own_tch (S := fun _ => False) R1.out (Tch.of_below b2) fun _ _ => id)
        have B2 := Lib.hid (B1.out.trans (b2.mono B1.out.size))
        have L12 := Lib.hid b2.size
        clear hown2 hs2 b2 R1
        go_wp2_with fail
        refine (rargs_any w2 z).mono ?_
        rintro e w3 ⟨vw, rfl, hown3, b3⟩
        rw [HM.out] at hown3
        obtain ⟨A3, c3, rfl, _, _, hs3, _⟩ := own_form hown3
        have S3 := Lib.hid hs3
        have N3 : Hid (∀ q, A3 = some q → w2.heap.size ≤ q.block) := Lib.hid fun q hq => by
          obtain ⟨A, c, hv, _, _, _, hb⟩ := own_form hown3
          injection hv with hv
          subst hv
          exact (hb q hq).1
        have S23 := Lib.hid (Sl.below S2.out b3)
        have R3 := Lib.hid (own_tch (S := fun _ => False) R2.out (Tch.of_below b3) fun _ _ => id)
        have B3 := Lib.hid (B2.out.trans (b3.mono B2.out.size))
        clear hown3 hs3 b3 R2 S2
        obtain ⟨A1, c1, rfl, _, _, hs1, _⟩ := own_form R3.out
        have hsl1 := Lib.hid hs1
        clear hs1
        go_wp2_with fail
        refine (alike_eq w3 (argsL (hI z)) A1 A3 m c1 c3 HM.out.symm (by omega) hsl1.out S3.out).mono ?_
        rintro e w4 ⟨rfl, b4⟩
        have S24 := Lib.hid (Sl.below S23.out b4)
        have S34 := Lib.hid (Sl.below S3.out b4)
        have R4 := Lib.hid (own_tch (S := fun _ => False) R3.out (Tch.of_below b4) fun _ _ => id)
        have B4 := Lib.hid (B3.out.trans (b4.mono B3.out.size))
        clear b4 S23 S3 R3 hsl1
        go_wp2_with fail
        refine (alike_eq w4 (argsL (hI z)) A2 A3 m c2 c3 HM.out.symm (by omega) S24.out S34.out).mono ?_
        rintro e w5 ⟨rfl, b5⟩
        have S25 := Lib.hid (Sl.below S24.out b5)
        have S35 := Lib.hid (Sl.below S34.out b5)
        have R5 : Hid (Own w5 w.heap.size (.slice A1 m c1) m) := Lib.hid ⟨_, own_tch (S := fun _ => False) R4.out (Tch.of_below b5) fun _ _ => id⟩
        have B5 := Lib.hid (B4.out.trans (b5.mono B4.out.size))
        clear b5 S24 S34 R4
        go_wp2_with fail
        go_loopw [8] (fun i wq => ∃ j : Nat, j ≤ m ∧ i = .int .i64 j ∧ Own wq w.heap.size (.slice A1 m c1) m ∧ Tch (fun i => (Value.slice A1 m c1).ownBlock = some i) w5 wq ∧ Below w.heap.size w wq) (fun i _ => m - (intOf i).toNat)
        case atStart => exact ⟨0, Nat.zero_le _, rfl, R5.out, Tch.refl _ _, B5.out⟩
        case round =>
          obtain ⟨j, hj, rfl, hown, htc, hbj⟩ := hrel
          have RJ := Lib.hid hown
          have TJ := Lib.hid htc
          have BJ := Lib.hid hbj
          clear hown htc hbj
          by_cases hjm : j < m
          · have g2 : (j : Int) < (m : Int) := by omega
            obtain ⟨xs, hown⟩ := RJ.out
            obtain ⟨g, cap, hv, hBg, hgl, hob, hfz, hcl⟩ := own_head hown (by omega)
            injection hv with hv1 hv2 hv3
            subst hv1
            obtain ⟨u0, f0⟩ := hcl (j * 4) (by omega)
            obtain ⟨u1, f1⟩ := hcl (j * 4 + 1) (by omega)
            obtain ⟨u2, f2⟩ := hcl (j * 4 + 2) (by omega)
            obtain ⟨u3, f3⟩ := hcl (j * 4 + 3) (by omega)
            obtain ⟨x1, p1⟩ := own_poke (k := j * 4) hown hob (.int .i64 77)
            obtain ⟨x2, p2⟩ := own_poke (k := j * 4 + 1) p1 hob (.int .u64 0)
            obtain ⟨x3, p3⟩ := own_poke (k := j * 4 + 2) p2 hob (.int .u64 0)
            obtain ⟨x4, p4⟩ := own_poke (k := j * 4 + 3) p3 hob (.int .i64 0)
            have P4 := Lib.hid p4
            have HOB := Lib.hid hob
            have HBG := Lib.hid hBg
            clear hown hcl p1 p2 p3 p4 hob
            go_wp2_with fail
            go_roundw
            case rel => exact ⟨j + 1, by omega, by go_num, ⟨_, P4.out⟩, (((TJ.out.setCell HOB.out _).setCell HOB.out _).setCell HOB.out _).setCell HOB.out _, (((BJ.out.setCell HBG.out _).setCell HBG.out _).setCell HBG.out _).setCell HBG.out _⟩
            case measure => simp [intOf]; omega
          · have g2 : ¬ (j : Int) < (m : Int) := by omega
            obtain ⟨xs, hown⟩ := RJ.out
            have RO := Lib.hid hown
            clear hown
            go_wp2_with
              (at_builtin
               refine wpList_append_in _ rfl (.tmp 45) (.tmp 47) _ rfl (below_alloc BJ.out _) 31 i0 _ 4 32 Tryd.underlying23 hi0 hz0 hz1 hz2 rfl (by omega) (.slice A1 m c1) m xs rfl (World.ownsRow.alloc RO.out _)
                 (some ⟨wr.heap.size, 0, none⟩) 1 1 (tyc ⟨78, 0, 0, 0⟩) rfl rfl (Sl.fresh wr (tyc ⟨78, 0, 0, 0⟩).toArray 31 (0, 0)) (tyc_one _) (by omega) (by omega) ?_
               intro v2 w6 hown6 hb6 h1 _
               have B6 := Lib.hid hb6
               have T6 := Lib.hid (TJ.out.trans (Tch.of_grown ((World.grownBy_alloc wr _ _).trans h1)))
               have S26 := Lib.hid (S25.out.tch T6.out fun q hq hs => by have := N2.out q hq; have := HG1.out _ hs; omega)
               have S36 := Lib.hid (S35.out.tch T6.out fun q hq hs => by have := N3.out q hq; have := L12.out; have := HG1.out _ hs; omega)
               obtain ⟨A6, c6, rfl, _, _, _, _⟩ := own_form hown6
               clear hown6 hb6 h1 S25 S35 TJ)
            refine (alike_eq w6 (argsL (hI z)) A2 A3 m c2 c3 HM.out.symm (by omega) S26.out S36.out).mono ?_
            rintro e w7 ⟨rfl, b7⟩
            have S37 := Lib.hid (Sl.below S36.out b7)
            have B7 := Lib.hid (B6.out.trans (b7.mono B6.out.size))
            clear b7
            go_wp2_with fail
            refine (args_any w7 z (HT.out.below B7.out)).mono ?_
            rintro e w8 ⟨vc, rfl, hown8, b8⟩
            rw [HM.out] at hown8
            obtain ⟨A8, c8, rfl, _, _, hs8, _⟩ := own_form hown8
            have S8 := Lib.hid hs8
            have S38 := Lib.hid (Sl.below S37.out b8)
            have B8 := Lib.hid (B7.out.trans (b8.mono B7.out.size))
            clear hown8 hs8 b8
            go_wp2_with fail
            refine (alike_eq w8 (argsL (hI z)) A8 A3 m c8 c3 HM.out.symm (by omega) S8.out S38.out).mono ?_
            rintro e w9 ⟨rfl, b9⟩
            have B9 := Lib.hid (B8.out.trans (b9.mono B8.out.size))
            clear b9
            go_wp2_with fail
            refine ⟨⟨z + 1, by omega, by omega, by go_num, B9.out⟩, by simp [intOf]; omega⟩
    · go_wp2_with fail
      go_ret
      exact ⟨rfl, BB.out⟩

theorem args_law (w : World) (ht : Tab w) (h : Int) (_ : (Lit.int .i64 h).wf = true) :
    Calls Tryd.prog 3 #[.int .i64 h] w fun e w' => e = .returned (.bool true) ∧ Below w.heap.size w w' := args_walk w h ht

end Go.Proofs.YthmfenagdoefcaaDoor
