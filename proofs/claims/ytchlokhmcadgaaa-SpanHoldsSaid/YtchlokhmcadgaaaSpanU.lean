/-
  The walk of the law SpanHolds. Conditions: none.
-/
import Derived.Test.YtchlokhmcadgaaaSpanE
import Derived.Test.YtchlokhmcadgaaaSpanT
namespace Go.Proofs.Ytchlokhmcadgaaa
open Go.RowKit

set_option maxRecDepth 100000 in
set_option maxHeartbeats 16000000 in
theorem holds_walk (w : World) (al ah bl' bh X Y : BitVec 64) :
    Calls Try.prog 7 #[.agg #[.int .u64 (uv al), .int .u64 (uv ah), .int .u64 (uv bl'), .int .u64 (uv bh), .int .u64 (uv X), .int .u64 (uv Y)]] w fun e w' => e = .returned (.bool true) ∧ Below w.heap.size w w' := by
  have B1 := Lib.hid (below_new w (.cells #[.int .u64 (uv al), .int .u64 (uv ah), .int .u64 (uv bl'), .int .u64 (uv bh), .int .u64 (uv X), .int .u64 (uv Y)] 42))
  have O1 := Lib.hid (Ob.fresh w 42 [.int .u64 (uv al), .int .u64 (uv ah), .int .u64 (uv bl'), .int .u64 (uv bh), .int .u64 (uv X), .int .u64 (uv Y)])
  have HRA := Lib.hid (fun w => right_any w (uv al) (uv ah))
  have HRB := Lib.hid (fun w => right_any w (uv bl') (uv bh))
  have HIX := Lib.hid (fun w => inside_any w al ah X)
  have HIY := Lib.hid (fun w => inside_any w bl' bh Y)
  have HAW := Lib.hid awake_any
  unfold spVal at HRA HRB HIX HIY
  go_enter Try.func7, Try.ntmps7
  go_upto_region 1 with fail
  generalize w.alloc (.cells #[.int .u64 (uv al), .int .u64 (uv ah), .int .u64 (uv bl'), .int .u64 (uv bh), .int .u64 (uv X), .int .u64 (uv Y)] 42) = w1 at B1 O1 ⊢
  obtain ⟨q, hq⟩ : ∃ q, w.heap.size = q := ⟨_, rfl⟩
  rw [hq] at O1 ⊢
  clear hq
  go_wp2_with fail
  refine (HAW.out w1).mono ?_
  rintro e w2 ⟨rfl, b2⟩
  have O2 := Lib.hid (O1.out.below b2 O1.out.lt)
  have B2 := Lib.hid (B1.out.trans (b2.mono B1.out.size))
  clear b2 O1 B1
  go_upto_region 3 with fail
  go_cut [3, 4] (fun s3 s4 w' => ∃ p3 p4, s3 = .pointer (some ⟨p3, 0, none⟩) ∧ s4 = .pointer (some ⟨p4, 0, none⟩) ∧ Ob w' p3 26 [.int .u64 (uv al), .int .u64 (uv ah)] ∧ Ob w' p4 26 [.int .u64 (uv bl'), .int .u64 (uv bh)] ∧ Ob w' q 42 [.int .u64 (uv al), .int .u64 (uv ah), .int .u64 (uv bl'), .int .u64 (uv bh), .int .u64 (uv X), .int .u64 (uv Y)] ∧ Below w.heap.size w w')
  case first =>
    have c0 : w2.cell? ⟨q, 0, none⟩ = some (.int .u64 (uv al)) := O2.out.cell 0
    have c1 : w2.cell? ⟨q, 1, none⟩ = some (.int .u64 (uv ah)) := O2.out.cell 1
    have c2 : w2.cell? ⟨q, 2, none⟩ = some (.int .u64 (uv bl')) := O2.out.cell 2
    have c3 : w2.cell? ⟨q, 3, none⟩ = some (.int .u64 (uv bh)) := O2.out.cell 3
    go_region_held3 (fun w' => w'.cell? ⟨q, 0, none⟩ = some (.int .u64 (uv al)) ∧ w'.cell? ⟨q, 1, none⟩ = some (.int .u64 (uv ah)) ∧ w'.cell? ⟨q, 2, none⟩ = some (.int .u64 (uv bl')) ∧ w'.cell? ⟨q, 3, none⟩ = some (.int .u64 (uv bh))) (go_keep) (first | (exact absurd rfl (fun h => h.elim)))
    all_goals
      go_wp2_with fail
      go_meet
      first
      | exact ⟨_, _, rfl, rfl, laid1 w2 _ _ _ _, laid2 w2 _ _ _ _, (O2.out.alloc _).alloc _, below_drewN (below_alloc (below_alloc B2.out _) _) 1⟩
      | exact ⟨_, _, rfl, rfl, laid2 w2 _ _ _ _, laid1 w2 _ _ _ _, (O2.out.alloc _).alloc _, below_drewN (below_alloc (below_alloc B2.out _) _) 1⟩
  case rest =>
    obtain ⟨p3, p4, rfl, rfl, h3, h4, hq, hb⟩ := hcut
    have A := Lib.hid h3
    have D := Lib.hid h4
    have O3 := Lib.hid hq
    have B3 := Lib.hid hb
    clear h3 h4 hq hb O2 B2
    have a0 : wc.cell? ⟨p3, 0, none⟩ = some (.int .u64 (uv al)) := A.out.cell 0
    have a1 : wc.cell? ⟨p3, 1, none⟩ = some (.int .u64 (uv ah)) := A.out.cell 1
    by_cases hA : al.toNat ≤ ah.toNat
    · by_cases hB : bl'.toNat ≤ bh.toNat
      · rw [uv_dec_le hA] at HRA
        rw [uv_dec_le hB] at HRB
        have HAL := Lib.hid hA
        have HBL := Lib.hid hB
        clear hA hB
        have a0 : wc.cell? ⟨p3, 0, none⟩ = some (.int .u64 (uv al)) := A.out.cell 0
        have a1 : wc.cell? ⟨p3, 1, none⟩ = some (.int .u64 (uv ah)) := A.out.cell 1
        have d0 : wc.cell? ⟨p4, 0, none⟩ = some (.int .u64 (uv bl')) := D.out.cell 0
        have d1 : wc.cell? ⟨p4, 1, none⟩ = some (.int .u64 (uv bh)) := D.out.cell 1
        go_wp2_with fail
        refine (HRA.out wc).mono ?_
        rintro e w4 ⟨rfl, b4⟩
        have A4 := Lib.hid (A.out.below b4 A.out.lt)
        have D4 := Lib.hid (D.out.below b4 D.out.lt)
        have O4 := Lib.hid (O3.out.below b4 O3.out.lt)
        have B4 := Lib.hid (B3.out.trans (b4.mono B3.out.size))
        clear b4 A D O3 B3 a0 a1 d0 d1
        have a0 : w4.cell? ⟨p3, 0, none⟩ = some (.int .u64 (uv al)) := A4.out.cell 0
        have a1 : w4.cell? ⟨p3, 1, none⟩ = some (.int .u64 (uv ah)) := A4.out.cell 1
        have d0 : w4.cell? ⟨p4, 0, none⟩ = some (.int .u64 (uv bl')) := D4.out.cell 0
        have d1 : w4.cell? ⟨p4, 1, none⟩ = some (.int .u64 (uv bh)) := D4.out.cell 1
        go_wp2_with fail
        refine (HRB.out w4).mono ?_
        rintro e w5 ⟨rfl, b5⟩
        have A5 := Lib.hid (A4.out.below b5 A4.out.lt)
        have D5 := Lib.hid (D4.out.below b5 D4.out.lt)
        have O5 := Lib.hid (O4.out.below b5 O4.out.lt)
        have B5 := Lib.hid (B4.out.trans (b5.mono B4.out.size))
        clear b5 A4 D4 O4 B4 a0 a1 d0 d1
        go_upto_region 7 with fail
        go_cut [7] (fun s w' => ∃ b o, s = .slice (some ⟨b, o, none⟩) 3 3 ∧ Sl w' (some ⟨b, o, none⟩) [.int .u64 (uv al), .int .u64 (uv ah), .int .u64 (uv (insideV al ah X))] ∧ Below w5.heap.size w5 w')
        case first =>
          have m0 : w5.cell? ⟨p3, 0, none⟩ = some (.int .u64 (uv al)) := A5.out.cell 0
          have m1 : w5.cell? ⟨p3, 1, none⟩ = some (.int .u64 (uv ah)) := A5.out.cell 1
          have m2 : w5.cell? ⟨q, 4, none⟩ = some (.int .u64 (uv X)) := O5.out.cell 4
          go_region_held3 (fun w' => w'.cell? ⟨p3, 0, none⟩ = some (.int .u64 (uv al)) ∧ w'.cell? ⟨p3, 1, none⟩ = some (.int .u64 (uv ah)) ∧ w'.cell? ⟨q, 4, none⟩ = some (.int .u64 (uv X))) (go_keep)
            (first
             | (go_at_call 23
                refine (HIX.out _).mono ?_
                rintro e wz ⟨rfl, bz⟩
                have BZ := Lib.hid ((below_drewN' w5 1).trans bz)
                have n0 : wz.cell? ⟨p3, 0, none⟩ = some (.int .u64 (uv al)) := (A5.out.below BZ.out A5.out.lt).cell 0
                have n1 : wz.cell? ⟨p3, 1, none⟩ = some (.int .u64 (uv ah)) := (A5.out.below BZ.out A5.out.lt).cell 1
                have n2 : wz.cell? ⟨q, 4, none⟩ = some (.int .u64 (uv X)) := (O5.out.below BZ.out O5.out.lt).cell 4
                clear bz))
          all_goals
            go_wp2_with fail
            go_meet
            exact ⟨_, _, rfl, Sl.fresh wz #[.int .u64 (uv al), .int .u64 (uv ah), .int .u64 (uv (insideV al ah X))] _ (0, 0), below_alloc BZ.out _⟩
        case rest =>
          obtain ⟨bx, ox, rfl, hx, b6⟩ := hcut
          have A6 := Lib.hid (A5.out.below b6 A5.out.lt)
          have D6 := Lib.hid (D5.out.below b6 D5.out.lt)
          have O6 := Lib.hid (O5.out.below b6 O5.out.lt)
          have B6 := Lib.hid (B5.out.trans (b6.mono B5.out.size))
          have S6 := Lib.hid hx
          clear b6 hx A5 D5 O5 B5
          obtain ⟨w6, hw6⟩ : ∃ w6, wc = w6 := ⟨_, rfl⟩
          rw [hw6] at A6 D6 O6 B6 S6 ⊢
          clear hw6
          go_upto_region 8 with fail
          go_cut [8] (fun s w' => ∃ b o, s = .slice (some ⟨b, o, none⟩) 3 3 ∧ Sl w' (some ⟨b, o, none⟩) [.int .u64 (uv bl'), .int .u64 (uv bh), .int .u64 (uv (insideV bl' bh Y))] ∧ Below w6.heap.size w6 w')
          case first =>
            have m0 : w6.cell? ⟨p4, 0, none⟩ = some (.int .u64 (uv bl')) := D6.out.cell 0
            have m1 : w6.cell? ⟨p4, 1, none⟩ = some (.int .u64 (uv bh)) := D6.out.cell 1
            have m2 : w6.cell? ⟨q, 5, none⟩ = some (.int .u64 (uv Y)) := O6.out.cell 5
            go_region_held3 (fun w' => w'.cell? ⟨p4, 0, none⟩ = some (.int .u64 (uv bl')) ∧ w'.cell? ⟨p4, 1, none⟩ = some (.int .u64 (uv bh)) ∧ w'.cell? ⟨q, 5, none⟩ = some (.int .u64 (uv Y))) (go_keep)
              (first
               | (go_at_call 23
                  refine (HIY.out _).mono ?_
                  rintro e wz ⟨rfl, bz⟩
                  have BZ := Lib.hid ((below_drewN' w6 1).trans bz)
                  have n0 : wz.cell? ⟨p4, 0, none⟩ = some (.int .u64 (uv bl')) := (D6.out.below BZ.out D6.out.lt).cell 0
                  have n1 : wz.cell? ⟨p4, 1, none⟩ = some (.int .u64 (uv bh)) := (D6.out.below BZ.out D6.out.lt).cell 1
                  have n2 : wz.cell? ⟨q, 5, none⟩ = some (.int .u64 (uv Y)) := (O6.out.below BZ.out O6.out.lt).cell 5
                  clear bz))
            all_goals
              go_wp2_with fail
              go_meet
              exact ⟨_, _, rfl, Sl.fresh wz #[.int .u64 (uv bl'), .int .u64 (uv bh), .int .u64 (uv (insideV bl' bh Y))] _ (0, 0), below_alloc BZ.out _⟩
          case rest =>
            obtain ⟨bY, oY, rfl, hy, b7⟩ := hcut
            have hxi := inside_in (n := X) HAL.out
            have hyi := inside_in (n := Y) HBL.out
            obtain ⟨x, hx⟩ : ∃ x, insideV al ah X = x := ⟨_, rfl⟩
            obtain ⟨y, hyy⟩ : ∃ y, insideV bl' bh Y = y := ⟨_, rfl⟩
            rw [hx] at hxi S6
            rw [hyy] at hyi hy
            have HX1 := Lib.hid hxi.1
            have HX2 := Lib.hid hxi.2
            have HY1 := Lib.hid hyi.1
            have HY2 := Lib.hid hyi.2
            have ST : Hid (HoldsAt w wc p3 p4 bx ox bY oY (uv al) (uv ah) (uv bl') (uv bh) [.int .u64 (uv al), .int .u64 (uv ah), .int .u64 (uv x)] [.int .u64 (uv bl'), .int .u64 (uv bh), .int .u64 (uv y)]) := Lib.hid ⟨A6.out.below b7 A6.out.lt, D6.out.below b7 D6.out.lt, S6.out.below b7, hy, B6.out.trans (b7.mono B6.out.size)⟩
            clear hx hyy hxi hyi hy b7 A6 D6 S6 B6 O6 HIX HIY HRA HRB HAW
            go_wp2_with fail
            go_loopw [9] (fun i wr => ∃ k : Nat, k ≤ 3 ∧ i = .int .i64 k ∧ HoldsAt w wr p3 p4 bx ox bY oY (uv al) (uv ah) (uv bl') (uv bh) [.int .u64 (uv al), .int .u64 (uv ah), .int .u64 (uv x)] [.int .u64 (uv bl'), .int .u64 (uv bh), .int .u64 (uv y)]) (fun i _ => 3 - (intOf i).toNat)
            case atStart => exact ⟨0, Nat.zero_le _, rfl, ST.out⟩
            case round =>
              obtain ⟨k, hk, rfl, hst⟩ := hrel
              have S1 := Lib.hid hst
              clear hst ST
              by_cases hlt : k < 3
              · have g1 : (k : Int) < 3 := by omega
                have g0 : (0 : Int) ≤ (k : Int) := by omega
                have HK := Lib.hid hlt
                clear hlt hk
                go_wp2_with fail
                go_loopw [10] (fun i wr => ∃ j : Nat, j ≤ 3 ∧ i = .int .i64 j ∧ HoldsAt w wr p3 p4 bx ox bY oY (uv al) (uv ah) (uv bl') (uv bh) [.int .u64 (uv al), .int .u64 (uv ah), .int .u64 (uv x)] [.int .u64 (uv bl'), .int .u64 (uv bh), .int .u64 (uv y)]) (fun i _ => 3 - (intOf i).toNat)
                case atStart => exact ⟨0, Nat.zero_le _, rfl, S1.out⟩
                case round =>
                  obtain ⟨j, hj, rfl, hst⟩ := hrel
                  have S2 := Lib.hid hst
                  clear hst S1
                  by_cases hltj : j < 3
                  · have g2 : (j : Int) < 3 := by omega
                    have g3 : (0 : Int) ≤ (j : Int) := by omega
                    have HJ := Lib.hid hltj
                    clear hltj hj
                    go_wp2_with fail
                    go_loopw [11] (fun i wr => ∃ m : Nat, 1 ≤ m ∧ m ≤ 11 ∧ i = .int .i64 m ∧ HoldsAt w wr p3 p4 bx ox bY oY (uv al) (uv ah) (uv bl') (uv bh) [.int .u64 (uv al), .int .u64 (uv ah), .int .u64 (uv x)] [.int .u64 (uv bl'), .int .u64 (uv bh), .int .u64 (uv y)]) (fun i _ => 11 - (intOf i).toNat)
                    case atStart => exact ⟨1, Nat.le_refl _, by omega, rfl, S2.out⟩
                    case round =>
                      obtain ⟨m, hm1, hm2, rfl, hst⟩ := hrel
                      have S3 := Lib.hid hst
                      clear hst S2
                      by_cases hltm : m ≤ 10
                      · as_aux_lemma =>
                          have g4 : (m : Int) ≤ 10 := by omega
                          obtain ⟨zx, zx1, zx2, fx⟩ := pick3 S3.out.x HAL.out HX1.out HX2.out k HK.out
                          obtain ⟨zy, zy1, zy2, fy⟩ := pick3 S3.out.y HBL.out HY1.out HY2.out j HJ.out
                          have ho : AM.doOk (m : Int) = true := decide_eq_true ⟨by omega, by omega⟩
                          obtain ⟨hok, hin⟩ := dos_sound zx1 zx2 zy1 zy2 ho
                          have HD := Lib.hid (fun w => do_any (m : Int) zx zy w)
                          have HS := Lib.hid (fun w => sdo_any (m : Int) w al ah bl' bh)
                          rw [hok] at HS
                          rw [ho] at HD
                          generalize AM.doV (m : Int) zx zy = n at hin HD
                          generalize dosR (m : Int) al ah bl' bh = V at hin HS
                          obtain ⟨v1, v2⟩ := V
                          obtain ⟨i1, i2⟩ := hin
                          dsimp only at i1 i2
                          have HR1 := Lib.hid (fun w => right_any w (uv v1) (uv v2))
                          rw [uv_dec_le (Nat.le_trans i1 i2)] at HR1
                          have HH1 := Lib.hid (fun w => has_any w (uv v1) (uv v2) (uv n))
                          rw [has_in i1 i2] at HH1
                          unfold spVal at HS HR1 HH1
                          dsimp only at HS
                          have HM1 := Lib.hid hm1
                          have HM2 := Lib.hid hltm
                          clear ho hok i1 i2 zx1 zx2 zy1 zy2 hm1 hm2 hltm
                          go_wp2_with fail
                          go_region_held3 (fun w' => w'.cell? ⟨bx, ox + k, none⟩ = some (.int .u64 (uv zx)) ∧ w'.cell? ⟨bY, oY + j, none⟩ = some (.int .u64 (uv zy))) (go_keep)
                            (first
                             | (go_at_call 24
                                refine (HD.out _).mono ?_
                                rintro e wz ⟨rfl, rfl⟩))
                          all_goals
                            go_upto_region 19 with fail
                            have S4 := Lib.hid (S3.out.drewN 1)
                            clear fx fy S3
                            obtain ⟨w4, hw4⟩ : ∃ w4, wr.drewN 1 = w4 := ⟨_, rfl⟩
                            rw [show wr.drew = w4 from hw4]
                            rw [hw4] at S4
                            clear hw4
                            have a0 : w4.cell? ⟨p3, 0, none⟩ = some (.int .u64 (uv al)) := S4.out.a.cell 0
                            have a1 : w4.cell? ⟨p3, 1, none⟩ = some (.int .u64 (uv ah)) := S4.out.a.cell 1
                            have d0 : w4.cell? ⟨p4, 0, none⟩ = some (.int .u64 (uv bl')) := S4.out.b.cell 0
                            have d1 : w4.cell? ⟨p4, 1, none⟩ = some (.int .u64 (uv bh)) := S4.out.b.cell 1
                            go_wp2_with fail
                            refine (HS.out w4).mono ?_
                            rintro e wu ⟨rfl, bu⟩
                            have S5 := Lib.hid ((S4.out.below bu).alloc (.cells #[.int .u64 (uv v1), .int .u64 (uv v2)] 26))
                            have E5 := Lib.hid (Ob.fresh wu 26 [.int .u64 (uv v1), .int .u64 (uv v2)])
                            clear bu S4 a0 a1 d0 d1
                            go_upto_region 20 with fail
                            generalize wu.alloc (.cells #[.int .u64 (uv v1), .int .u64 (uv v2)] 26) = w5 at S5 E5 ⊢
                            generalize wu.heap.size = p5 at E5 ⊢
                            have e0 : w5.cell? ⟨p5, 0, none⟩ = some (.int .u64 (uv v1)) := E5.out.cell 0
                            have e1 : w5.cell? ⟨p5, 1, none⟩ = some (.int .u64 (uv v2)) := E5.out.cell 1
                            go_wp2_with fail
                            refine (HR1.out w5).mono ?_
                            rintro e w6 ⟨rfl, b6⟩
                            have S6 := Lib.hid (S5.out.below b6)
                            have E6 := Lib.hid (E5.out.below b6 E5.out.lt)
                            clear b6 S5 E5 e0 e1
                            have e0 : w6.cell? ⟨p5, 0, none⟩ = some (.int .u64 (uv v1)) := E6.out.cell 0
                            have e1 : w6.cell? ⟨p5, 1, none⟩ = some (.int .u64 (uv v2)) := E6.out.cell 1
                            go_wp2_with fail
                            refine (HH1.out w6).mono ?_
                            rintro e w7 ⟨rfl, b7⟩
                            have S7 := Lib.hid (S6.out.below b7)
                            clear b7 S6 E6 e0 e1
                            go_wp2_with fail
                            have h1 := HM1.out
                            have h2 := HM2.out
                            exact ⟨⟨m + 1, by omega, by omega, by go_num, S7.out⟩, by simp [intOf]; omega⟩
                      · have g4 : ¬ (m : Int) ≤ 10 := by omega
                        clear hltm hm1 hm2
                        go_wp2_with fail
                        go_loopw [16] (fun i wr => ∃ m : Nat, 16 ≤ m ∧ m ≤ 20 ∧ i = .int .i64 m ∧ HoldsAt w wr p3 p4 bx ox bY oY (uv al) (uv ah) (uv bl') (uv bh) [.int .u64 (uv al), .int .u64 (uv ah), .int .u64 (uv x)] [.int .u64 (uv bl'), .int .u64 (uv bh), .int .u64 (uv y)]) (fun i _ => 20 - (intOf i).toNat)
                        case atStart => exact ⟨16, Nat.le_refl _, by omega, rfl, S3.out⟩
                        case round =>
                          obtain ⟨m, hm1, hm2, rfl, hst⟩ := hrel
                          have S4 := Lib.hid hst
                          clear hst S3
                          by_cases hltm : m ≤ 19
                          · as_aux_lemma =>
                              have g5 : (m : Int) ≤ 19 := by omega
                              obtain ⟨zx, zx1, zx2, fx⟩ := pick3 S4.out.x HAL.out HX1.out HX2.out k HK.out
                              obtain ⟨zy, zy1, zy2, fy⟩ := pick3 S4.out.y HBL.out HY1.out HY2.out j HJ.out
                              have ho : AM.hdOk (m : Int) = true := decide_eq_true ⟨by omega, by omega⟩
                              have hs := ref_sound (op := (m : Int)) zx1 zx2 zy1 zy2 ho
                              have HD := Lib.hid (fun w => hd_any (m : Int) zx zy w)
                              have HS := Lib.hid (fun w => ref_any (m : Int) w al ah bl' bh (AM.hdV (m : Int) zx zy) ho HAL.out HBL.out)
                              rw [ho] at HD
                              generalize AM.hdV (m : Int) zx zy = hv at hs HD HS
                              generalize refR (m : Int) al ah bl' bh hv = V at hs HS
                              obtain ⟨⟨v1, v2⟩, v3⟩ := V
                              obtain ⟨e3, ⟨i1, i2⟩, i3, i4⟩ := hs
                              dsimp only at e3 i1 i2 i3 i4
                              subst e3
                              have HH1 := Lib.hid (fun w => has_any w (uv v1) (uv v2) (uv zx))
                              rw [has_in i1 i2] at HH1
                              have HW1 := Lib.hid (fun w => within_any w (uv v1) (uv v2) (uv al) (uv ah))
                              rw [within_in (Nat.le_trans i1 i2) i3 i4] at HW1
                              unfold spVal at HS HW1 HH1
                              dsimp only at HS
                              have HM1 := Lib.hid hm1
                              have HM2 := Lib.hid hltm
                              clear ho i1 i2 i3 i4 zx1 zx2 zy1 zy2 hm1 hm2 hltm
                              go_wp2_with fail
                              go_region_held3 (fun w' => w'.cell? ⟨bx, ox + k, none⟩ = some (.int .u64 (uv zx)) ∧ w'.cell? ⟨bY, oY + j, none⟩ = some (.int .u64 (uv zy))) (go_keep)
                                (first
                                 | (go_at_call 25
                                    refine (HD.out _).mono ?_
                                    rintro e wz ⟨rfl, rfl⟩))
                              all_goals
                                go_upto_region 26 with fail
                                have S5 := Lib.hid (S4.out.drewN 1)
                                clear fy S4
                                have fx4 : (wr.drewN 1).cell? ⟨bx, ox + k, none⟩ = some (.int .u64 (uv zx)) := fx
                                clear fx
                                obtain ⟨w4, hw4⟩ : ∃ w4, wr.drewN 1 = w4 := ⟨_, rfl⟩
                                rw [show wr.drew = w4 from hw4]
                                rw [hw4] at S5 fx4
                                clear hw4
                                have a0 : w4.cell? ⟨p3, 0, none⟩ = some (.int .u64 (uv al)) := S5.out.a.cell 0
                                have a1 : w4.cell? ⟨p3, 1, none⟩ = some (.int .u64 (uv ah)) := S5.out.a.cell 1
                                have d0 : w4.cell? ⟨p4, 0, none⟩ = some (.int .u64 (uv bl')) := S5.out.b.cell 0
                                have d1 : w4.cell? ⟨p4, 1, none⟩ = some (.int .u64 (uv bh)) := S5.out.b.cell 1
                                go_wp2_with fail
                                refine (HS.out w4).mono ?_
                                rintro e wu ⟨rfl, bu⟩
                                have S6 := Lib.hid ((S5.out.below bu).alloc (.cells #[.int .u64 (uv v1), .int .u64 (uv v2)] 26))
                                have E6 := Lib.hid (Ob.fresh wu 26 [.int .u64 (uv v1), .int .u64 (uv v2)])
                                have FX := Lib.hid fun (w' : World) (h : Below w4.heap.size w4 w') => (show w'.cell? ⟨bx, ox + k, none⟩ = some (.int .u64 (uv zx)) by rw [h.cell (cell_lt fx4)]; exact fx4)
                                have K6 := Lib.hid (below_alloc bu (.cells #[.int .u64 (uv v1), .int .u64 (uv v2)] 26))
                                clear bu S5 a0 a1 d0 d1 fx4
                                go_upto_region 27 with fail
                                generalize wu.alloc (.cells #[.int .u64 (uv v1), .int .u64 (uv v2)] 26) = w5 at S6 E6 K6 ⊢
                                generalize wu.heap.size = p5 at E6 ⊢
                                have e0 : w5.cell? ⟨p5, 0, none⟩ = some (.int .u64 (uv v1)) := E6.out.cell 0
                                have e1 : w5.cell? ⟨p5, 1, none⟩ = some (.int .u64 (uv v2)) := E6.out.cell 1
                                have a0 : w5.cell? ⟨p3, 0, none⟩ = some (.int .u64 (uv al)) := S6.out.a.cell 0
                                have a1 : w5.cell? ⟨p3, 1, none⟩ = some (.int .u64 (uv ah)) := S6.out.a.cell 1
                                have fx : w5.cell? ⟨bx, ox + k, none⟩ = some (.int .u64 (uv zx)) := FX.out _ K6.out
                                go_region_held3 (fun w' => w'.cell? ⟨p5, 0, none⟩ = some (.int .u64 (uv v1)) ∧ w'.cell? ⟨p5, 1, none⟩ = some (.int .u64 (uv v2)) ∧ w'.cell? ⟨p3, 0, none⟩ = some (.int .u64 (uv al)) ∧ w'.cell? ⟨p3, 1, none⟩ = some (.int .u64 (uv ah)) ∧ w'.cell? ⟨bx, ox + k, none⟩ = some (.int .u64 (uv zx))) (go_keep)
                                  (first
                                   | (go_at_call 16
                                      have hthere := K7.out
                                      clear hthere
                                      refine (HW1.out _).mono ?_
                                      rintro e w7 ⟨rfl, bz⟩
                                      have S8 := Lib.hid (S7.out.below bz)
                                      have E8 := Lib.hid (E7.out.below bz E7.out.lt)
                                      have n0 : w7.cell? ⟨p5, 0, none⟩ = some (.int .u64 (uv v1)) := E8.out.cell 0
                                      have n1 : w7.cell? ⟨p5, 1, none⟩ = some (.int .u64 (uv v2)) := E8.out.cell 1
                                      have n2 : w7.cell? ⟨p3, 0, none⟩ = some (.int .u64 (uv al)) := S8.out.a.cell 0
                                      have n3 : w7.cell? ⟨p3, 1, none⟩ = some (.int .u64 (uv ah)) := S8.out.a.cell 1
                                      have n4 : w7.cell? ⟨bx, ox + k, none⟩ = some (.int .u64 (uv zx)) := FX.out _ (K7.out.trans (bz.mono K7.out.size))
                                      clear bz)
                                   | (go_at_call 20
                                      refine (HH1.out _).mono ?_
                                      rintro e w6 ⟨rfl, bz⟩
                                      have S7 := Lib.hid ((S6.out.drewN 1).below bz)
                                      have E7 := Lib.hid ((E6.out.drewN 1).below bz (E6.out.drewN 1).lt)
                                      have K7 := Lib.hid ((below_drewN K6.out 1).trans (bz.mono (below_drewN K6.out 1).size))
                                      have m0 : w6.cell? ⟨p5, 0, none⟩ = some (.int .u64 (uv v1)) := E7.out.cell 0
                                      have m1 : w6.cell? ⟨p5, 1, none⟩ = some (.int .u64 (uv v2)) := E7.out.cell 1
                                      have m2 : w6.cell? ⟨p3, 0, none⟩ = some (.int .u64 (uv al)) := S7.out.a.cell 0
                                      have m3 : w6.cell? ⟨p3, 1, none⟩ = some (.int .u64 (uv ah)) := S7.out.a.cell 1
                                      have m4 : w6.cell? ⟨bx, ox + k, none⟩ = some (.int .u64 (uv zx)) := FX.out _ K7.out
                                      clear bz))
                                all_goals
                                  go_wp2_with fail
                                  have h1 := HM1.out
                                  have h2 := HM2.out
                                  exact ⟨⟨m + 1, by omega, by omega, by go_num, S8.out⟩, by simp [intOf]; omega⟩
                          · have g5 : ¬ (m : Int) ≤ 19 := by omega
                            have HJJ := HJ.out
                            go_wp2_with fail
                            exact ⟨⟨j + 1, by omega, by go_num, S4.out⟩, by simp [intOf]; omega⟩
                  · have g2 : ¬ (j : Int) < 3 := by omega
                    have HKK := HK.out
                    go_wp2_with fail
                    exact ⟨⟨k + 1, by omega, by go_num, S2.out⟩, by simp [intOf]; omega⟩
              · as_aux_lemma =>
                  have g1 : ¬ (k : Int) < 3 := by omega
                  clear hlt hk
                  have HJ := Lib.hid (fun (w : World) A hs => join2_any (w := w) (A := A) (al := al) (ah := ah) (bl' := bl') (bh := bh) HAL.out HBL.out hs)
                  have HM := Lib.hid (fun (w : World) A hs => meet2_any (w := w) (A := A) (al := al) (ah := ah) (bl' := bl') (bh := bh) HAL.out HBL.out hs)
                  have HAX := Lib.hid (fun w => has_any w (uv al) (uv ah) (uv x))
                  rw [has_in HX1.out HX2.out] at HAX
                  have HBX := Lib.hid (fun w => has_any w (uv bl') (uv bh) (uv x))
                  have hmeet := meet_has HAL.out HBL.out HX1.out HX2.out
                  obtain ⟨P, hP⟩ : ∃ P, decide (uv bl' ≤ uv bh ∧ uv bl' ≤ uv x ∧ uv x ≤ uv bh) = P := ⟨_, rfl⟩
                  rw [hP] at HBX hmeet
                  clear hP
                  generalize meetV al ah bl' bh = V at HM hmeet
                  obtain ⟨⟨m1, m2⟩, m3⟩ := V
                  dsimp only at hmeet
                  have HMX := Lib.hid (fun w => has_any w (uv m1) (uv m2) (uv x))
                  have e1 := minB_toNat al bl'
                  have e2 := maxB_toNat ah bh
                  have hlo := lo_is al bl'
                  have hhi := hi_is ah bh
                  have h1 := HAL.out
                  have h2 := HBL.out
                  generalize minB al bl' = j1 at HJ e1 hlo
                  generalize maxB ah bh = j2 at HJ e2 hhi
                  have HWA := Lib.hid (fun w => within_any w (uv al) (uv ah) (uv j1) (uv j2))
                  rw [within_in (by omega) (by omega) (by omega)] at HWA
                  have HWB := Lib.hid (fun w => within_any w (uv bl') (uv bh) (uv j1) (uv j2))
                  rw [within_in (by omega) (by omega) (by omega)] at HWB
                  clear e1 e2 h1 h2
                  unfold spVal at HJ HM HAX HBX HMX HWA HWB
                  dsimp only at HM
                  have a0 : wr.cell? ⟨p3, 0, none⟩ = some (.int .u64 (uv al)) := S1.out.a.cell 0
                  have a1 : wr.cell? ⟨p3, 1, none⟩ = some (.int .u64 (uv ah)) := S1.out.a.cell 1
                  have d0 : wr.cell? ⟨p4, 0, none⟩ = some (.int .u64 (uv bl')) := S1.out.b.cell 0
                  have d1 : wr.cell? ⟨p4, 1, none⟩ = some (.int .u64 (uv bh)) := S1.out.b.cell 1
                  go_wp2_with fail
                  have SX := Lib.hid (Sl.fresh wr #[.int .u64 (uv al), .int .u64 (uv ah), .int .u64 (uv bl'), .int .u64 (uv bh)] 26 (0, 0))
                  refine (HJ.out _ _ SX.out).mono ?_
                  rintro e w4 ⟨rfl, b4⟩
                  have S4 := Lib.hid (((S1.out.alloc (.cells #[.int .u64 (uv al), .int .u64 (uv ah), .int .u64 (uv bl'), .int .u64 (uv bh)] 26)).below b4).alloc (.cells #[.int .u64 (uv j1), .int .u64 (uv j2)] 26))
                  have J4 := Lib.hid (Ob.fresh w4 26 [.int .u64 (uv j1), .int .u64 (uv j2)])
                  clear b4 SX S1 a0 a1 d0 d1
                  go_upto_region 30 with fail
                  generalize w4.alloc (.cells #[.int .u64 (uv j1), .int .u64 (uv j2)] 26) = w5 at S4 J4 ⊢
                  generalize w4.heap.size = pj at J4 ⊢
                  have a0 : w5.cell? ⟨p3, 0, none⟩ = some (.int .u64 (uv al)) := S4.out.a.cell 0
                  have a1 : w5.cell? ⟨p3, 1, none⟩ = some (.int .u64 (uv ah)) := S4.out.a.cell 1
                  have d0 : w5.cell? ⟨p4, 0, none⟩ = some (.int .u64 (uv bl')) := S4.out.b.cell 0
                  have d1 : w5.cell? ⟨p4, 1, none⟩ = some (.int .u64 (uv bh)) := S4.out.b.cell 1
                  go_wp2_with fail
                  have SX := Lib.hid (Sl.fresh w5 #[.int .u64 (uv al), .int .u64 (uv ah), .int .u64 (uv bl'), .int .u64 (uv bh)] 26 (0, 0))
                  refine (HM.out _ _ SX.out).mono ?_
                  rintro e w6 ⟨rfl, b6⟩
                  have S6 := Lib.hid (((S4.out.alloc (.cells #[.int .u64 (uv al), .int .u64 (uv ah), .int .u64 (uv bl'), .int .u64 (uv bh)] 26)).below b6).alloc (.cells #[.int .u64 (uv m1), .int .u64 (uv m2)] 26))
                  have J6 := Lib.hid (((J4.out.alloc (.cells #[.int .u64 (uv al), .int .u64 (uv ah), .int .u64 (uv bl'), .int .u64 (uv bh)] 26)).below b6 (J4.out.alloc _).lt).alloc (.cells #[.int .u64 (uv m1), .int .u64 (uv m2)] 26))
                  have M6 := Lib.hid (Ob.fresh w6 26 [.int .u64 (uv m1), .int .u64 (uv m2)])
                  clear b6 SX S4 J4 a0 a1 d0 d1
                  go_upto_region 31 with fail
                  generalize w6.alloc (.cells #[.int .u64 (uv m1), .int .u64 (uv m2)] 26) = w7 at S6 J6 M6 ⊢
                  generalize w6.heap.size = pm at M6 ⊢
                  have fx : w7.cell? ⟨bx, ox + 2, none⟩ = some (.int .u64 (uv x)) := sl_two S6.out.x
                  go_upto_region 32 with fail
                  clear fx
                  have S := Lib.hid S6.out
                  have J := Lib.hid J6.out
                  have M := Lib.hid M6.out
                  clear S6 J6 M6
                  have a0 : w7.cell? ⟨p3, 0, none⟩ = some (.int .u64 (uv al)) := S.out.a.cell 0
                  have a1 : w7.cell? ⟨p3, 1, none⟩ = some (.int .u64 (uv ah)) := S.out.a.cell 1
                  have d0 : w7.cell? ⟨p4, 0, none⟩ = some (.int .u64 (uv bl')) := S.out.b.cell 0
                  have d1 : w7.cell? ⟨p4, 1, none⟩ = some (.int .u64 (uv bh)) := S.out.b.cell 1
                  have j0 : w7.cell? ⟨pj, 0, none⟩ = some (.int .u64 (uv j1)) := J.out.cell 0
                  have j1' : w7.cell? ⟨pj, 1, none⟩ = some (.int .u64 (uv j2)) := J.out.cell 1
                  have m0 : w7.cell? ⟨pm, 0, none⟩ = some (.int .u64 (uv m1)) := M.out.cell 0
                  have m1' : w7.cell? ⟨pm, 1, none⟩ = some (.int .u64 (uv m2)) := M.out.cell 1
                  go_wp2_with fail
                  refine (HWA.out w7).mono ?_
                  rintro e w8 ⟨rfl, bb⟩
                  have S' := Lib.hid (S.out.below bb)
                  have J' := Lib.hid (J.out.below bb J.out.lt)
                  have M' := Lib.hid (M.out.below bb M.out.lt)
                  clear bb S J M a0 a1 d0 d1 j0 j1' m0 m1'
                  have S := Lib.hid S'.out
                  have J := Lib.hid J'.out
                  have M := Lib.hid M'.out
                  clear S' J' M'
                  have a0 : w8.cell? ⟨p3, 0, none⟩ = some (.int .u64 (uv al)) := S.out.a.cell 0
                  have a1 : w8.cell? ⟨p3, 1, none⟩ = some (.int .u64 (uv ah)) := S.out.a.cell 1
                  have d0 : w8.cell? ⟨p4, 0, none⟩ = some (.int .u64 (uv bl')) := S.out.b.cell 0
                  have d1 : w8.cell? ⟨p4, 1, none⟩ = some (.int .u64 (uv bh)) := S.out.b.cell 1
                  have j0 : w8.cell? ⟨pj, 0, none⟩ = some (.int .u64 (uv j1)) := J.out.cell 0
                  have j1' : w8.cell? ⟨pj, 1, none⟩ = some (.int .u64 (uv j2)) := J.out.cell 1
                  have m0 : w8.cell? ⟨pm, 0, none⟩ = some (.int .u64 (uv m1)) := M.out.cell 0
                  have m1' : w8.cell? ⟨pm, 1, none⟩ = some (.int .u64 (uv m2)) := M.out.cell 1
                  go_wp2_with fail
                  refine (HWB.out w8).mono ?_
                  rintro e w9 ⟨rfl, bb⟩
                  have S' := Lib.hid (S.out.below bb)
                  have J' := Lib.hid (J.out.below bb J.out.lt)
                  have M' := Lib.hid (M.out.below bb M.out.lt)
                  clear bb S J M a0 a1 d0 d1 j0 j1' m0 m1'
                  have S := Lib.hid S'.out
                  have J := Lib.hid J'.out
                  have M := Lib.hid M'.out
                  clear S' J' M'
                  have a0 : w9.cell? ⟨p3, 0, none⟩ = some (.int .u64 (uv al)) := S.out.a.cell 0
                  have a1 : w9.cell? ⟨p3, 1, none⟩ = some (.int .u64 (uv ah)) := S.out.a.cell 1
                  have d0 : w9.cell? ⟨p4, 0, none⟩ = some (.int .u64 (uv bl')) := S.out.b.cell 0
                  have d1 : w9.cell? ⟨p4, 1, none⟩ = some (.int .u64 (uv bh)) := S.out.b.cell 1
                  have j0 : w9.cell? ⟨pj, 0, none⟩ = some (.int .u64 (uv j1)) := J.out.cell 0
                  have j1' : w9.cell? ⟨pj, 1, none⟩ = some (.int .u64 (uv j2)) := J.out.cell 1
                  have m0 : w9.cell? ⟨pm, 0, none⟩ = some (.int .u64 (uv m1)) := M.out.cell 0
                  have m1' : w9.cell? ⟨pm, 1, none⟩ = some (.int .u64 (uv m2)) := M.out.cell 1
                  rcases hlo with s1 | ⟨s1, s2⟩ <;> rcases hhi with s3 | ⟨s3, s4⟩
                  · go_wp2_with fail
                    refine (HAX.out w9).mono ?_
                    rintro e w10 ⟨rfl, bb⟩
                    have S' := Lib.hid (S.out.below bb)
                    have J' := Lib.hid (J.out.below bb J.out.lt)
                    have M' := Lib.hid (M.out.below bb M.out.lt)
                    clear bb S J M a0 a1 d0 d1 j0 j1' m0 m1'
                    have S := Lib.hid S'.out
                    have J := Lib.hid J'.out
                    have M := Lib.hid M'.out
                    clear S' J' M'
                    have a0 : w10.cell? ⟨p3, 0, none⟩ = some (.int .u64 (uv al)) := S.out.a.cell 0
                    have a1 : w10.cell? ⟨p3, 1, none⟩ = some (.int .u64 (uv ah)) := S.out.a.cell 1
                    have d0 : w10.cell? ⟨p4, 0, none⟩ = some (.int .u64 (uv bl')) := S.out.b.cell 0
                    have d1 : w10.cell? ⟨p4, 1, none⟩ = some (.int .u64 (uv bh)) := S.out.b.cell 1
                    have j0 : w10.cell? ⟨pj, 0, none⟩ = some (.int .u64 (uv j1)) := J.out.cell 0
                    have j1' : w10.cell? ⟨pj, 1, none⟩ = some (.int .u64 (uv j2)) := J.out.cell 1
                    have m0 : w10.cell? ⟨pm, 0, none⟩ = some (.int .u64 (uv m1)) := M.out.cell 0
                    have m1' : w10.cell? ⟨pm, 1, none⟩ = some (.int .u64 (uv m2)) := M.out.cell 1
                    go_wp2_with fail
                    refine (HBX.out w10).mono ?_
                    rintro e w11 ⟨rfl, bb⟩
                    have S' := Lib.hid (S.out.below bb)
                    have J' := Lib.hid (J.out.below bb J.out.lt)
                    have M' := Lib.hid (M.out.below bb M.out.lt)
                    clear bb S J M a0 a1 d0 d1 j0 j1' m0 m1'
                    have S := Lib.hid S'.out
                    have J := Lib.hid J'.out
                    have M := Lib.hid M'.out
                    clear S' J' M'
                    have a0 : w11.cell? ⟨p3, 0, none⟩ = some (.int .u64 (uv al)) := S.out.a.cell 0
                    have a1 : w11.cell? ⟨p3, 1, none⟩ = some (.int .u64 (uv ah)) := S.out.a.cell 1
                    have d0 : w11.cell? ⟨p4, 0, none⟩ = some (.int .u64 (uv bl')) := S.out.b.cell 0
                    have d1 : w11.cell? ⟨p4, 1, none⟩ = some (.int .u64 (uv bh)) := S.out.b.cell 1
                    have j0 : w11.cell? ⟨pj, 0, none⟩ = some (.int .u64 (uv j1)) := J.out.cell 0
                    have j1' : w11.cell? ⟨pj, 1, none⟩ = some (.int .u64 (uv j2)) := J.out.cell 1
                    have m0 : w11.cell? ⟨pm, 0, none⟩ = some (.int .u64 (uv m1)) := M.out.cell 0
                    have m1' : w11.cell? ⟨pm, 1, none⟩ = some (.int .u64 (uv m2)) := M.out.cell 1
                    rcases hmeet with ⟨t1, t2⟩ | ⟨t1, t2⟩
                    · subst t1
                      rw [t2] at HMX
                      clear t2
                      go_wp2_with fail
                      refine (HMX.out w11).mono ?_
                      rintro e w12 ⟨rfl, bb⟩
                      have S' := Lib.hid (S.out.below bb)
                      have J' := Lib.hid (J.out.below bb J.out.lt)
                      have M' := Lib.hid (M.out.below bb M.out.lt)
                      clear bb S J M a0 a1 d0 d1 j0 j1' m0 m1'
                      have S := Lib.hid S'.out
                      have J := Lib.hid J'.out
                      have M := Lib.hid M'.out
                      clear S' J' M'
                      have a0 : w12.cell? ⟨p3, 0, none⟩ = some (.int .u64 (uv al)) := S.out.a.cell 0
                      have a1 : w12.cell? ⟨p3, 1, none⟩ = some (.int .u64 (uv ah)) := S.out.a.cell 1
                      have d0 : w12.cell? ⟨p4, 0, none⟩ = some (.int .u64 (uv bl')) := S.out.b.cell 0
                      have d1 : w12.cell? ⟨p4, 1, none⟩ = some (.int .u64 (uv bh)) := S.out.b.cell 1
                      have j0 : w12.cell? ⟨pj, 0, none⟩ = some (.int .u64 (uv j1)) := J.out.cell 0
                      have j1' : w12.cell? ⟨pj, 1, none⟩ = some (.int .u64 (uv j2)) := J.out.cell 1
                      have m0 : w12.cell? ⟨pm, 0, none⟩ = some (.int .u64 (uv m1)) := M.out.cell 0
                      have m1' : w12.cell? ⟨pm, 1, none⟩ = some (.int .u64 (uv m2)) := M.out.cell 1
                      go_wp2_with fail
                      go_ret
                      exact ⟨by simp, S.out.bel⟩
                    · subst t1
                      subst t2
                      go_wp2_with fail
                      go_ret
                      exact ⟨by simp, S.out.bel⟩
                  · go_wp2_with fail
                    refine (HAX.out w9).mono ?_
                    rintro e w10 ⟨rfl, bb⟩
                    have S' := Lib.hid (S.out.below bb)
                    have J' := Lib.hid (J.out.below bb J.out.lt)
                    have M' := Lib.hid (M.out.below bb M.out.lt)
                    clear bb S J M a0 a1 d0 d1 j0 j1' m0 m1'
                    have S := Lib.hid S'.out
                    have J := Lib.hid J'.out
                    have M := Lib.hid M'.out
                    clear S' J' M'
                    have a0 : w10.cell? ⟨p3, 0, none⟩ = some (.int .u64 (uv al)) := S.out.a.cell 0
                    have a1 : w10.cell? ⟨p3, 1, none⟩ = some (.int .u64 (uv ah)) := S.out.a.cell 1
                    have d0 : w10.cell? ⟨p4, 0, none⟩ = some (.int .u64 (uv bl')) := S.out.b.cell 0
                    have d1 : w10.cell? ⟨p4, 1, none⟩ = some (.int .u64 (uv bh)) := S.out.b.cell 1
                    have j0 : w10.cell? ⟨pj, 0, none⟩ = some (.int .u64 (uv j1)) := J.out.cell 0
                    have j1' : w10.cell? ⟨pj, 1, none⟩ = some (.int .u64 (uv j2)) := J.out.cell 1
                    have m0 : w10.cell? ⟨pm, 0, none⟩ = some (.int .u64 (uv m1)) := M.out.cell 0
                    have m1' : w10.cell? ⟨pm, 1, none⟩ = some (.int .u64 (uv m2)) := M.out.cell 1
                    go_wp2_with fail
                    refine (HBX.out w10).mono ?_
                    rintro e w11 ⟨rfl, bb⟩
                    have S' := Lib.hid (S.out.below bb)
                    have J' := Lib.hid (J.out.below bb J.out.lt)
                    have M' := Lib.hid (M.out.below bb M.out.lt)
                    clear bb S J M a0 a1 d0 d1 j0 j1' m0 m1'
                    have S := Lib.hid S'.out
                    have J := Lib.hid J'.out
                    have M := Lib.hid M'.out
                    clear S' J' M'
                    have a0 : w11.cell? ⟨p3, 0, none⟩ = some (.int .u64 (uv al)) := S.out.a.cell 0
                    have a1 : w11.cell? ⟨p3, 1, none⟩ = some (.int .u64 (uv ah)) := S.out.a.cell 1
                    have d0 : w11.cell? ⟨p4, 0, none⟩ = some (.int .u64 (uv bl')) := S.out.b.cell 0
                    have d1 : w11.cell? ⟨p4, 1, none⟩ = some (.int .u64 (uv bh)) := S.out.b.cell 1
                    have j0 : w11.cell? ⟨pj, 0, none⟩ = some (.int .u64 (uv j1)) := J.out.cell 0
                    have j1' : w11.cell? ⟨pj, 1, none⟩ = some (.int .u64 (uv j2)) := J.out.cell 1
                    have m0 : w11.cell? ⟨pm, 0, none⟩ = some (.int .u64 (uv m1)) := M.out.cell 0
                    have m1' : w11.cell? ⟨pm, 1, none⟩ = some (.int .u64 (uv m2)) := M.out.cell 1
                    rcases hmeet with ⟨t1, t2⟩ | ⟨t1, t2⟩
                    · subst t1
                      rw [t2] at HMX
                      clear t2
                      go_wp2_with fail
                      refine (HMX.out w11).mono ?_
                      rintro e w12 ⟨rfl, bb⟩
                      have S' := Lib.hid (S.out.below bb)
                      have J' := Lib.hid (J.out.below bb J.out.lt)
                      have M' := Lib.hid (M.out.below bb M.out.lt)
                      clear bb S J M a0 a1 d0 d1 j0 j1' m0 m1'
                      have S := Lib.hid S'.out
                      have J := Lib.hid J'.out
                      have M := Lib.hid M'.out
                      clear S' J' M'
                      have a0 : w12.cell? ⟨p3, 0, none⟩ = some (.int .u64 (uv al)) := S.out.a.cell 0
                      have a1 : w12.cell? ⟨p3, 1, none⟩ = some (.int .u64 (uv ah)) := S.out.a.cell 1
                      have d0 : w12.cell? ⟨p4, 0, none⟩ = some (.int .u64 (uv bl')) := S.out.b.cell 0
                      have d1 : w12.cell? ⟨p4, 1, none⟩ = some (.int .u64 (uv bh)) := S.out.b.cell 1
                      have j0 : w12.cell? ⟨pj, 0, none⟩ = some (.int .u64 (uv j1)) := J.out.cell 0
                      have j1' : w12.cell? ⟨pj, 1, none⟩ = some (.int .u64 (uv j2)) := J.out.cell 1
                      have m0 : w12.cell? ⟨pm, 0, none⟩ = some (.int .u64 (uv m1)) := M.out.cell 0
                      have m1' : w12.cell? ⟨pm, 1, none⟩ = some (.int .u64 (uv m2)) := M.out.cell 1
                      go_wp2_with fail
                      go_ret
                      exact ⟨by simp, S.out.bel⟩
                    · subst t1
                      subst t2
                      go_wp2_with fail
                      go_ret
                      exact ⟨by simp, S.out.bel⟩
                  · go_wp2_with fail
                    refine (HAX.out w9).mono ?_
                    rintro e w10 ⟨rfl, bb⟩
                    have S' := Lib.hid (S.out.below bb)
                    have J' := Lib.hid (J.out.below bb J.out.lt)
                    have M' := Lib.hid (M.out.below bb M.out.lt)
                    clear bb S J M a0 a1 d0 d1 j0 j1' m0 m1'
                    have S := Lib.hid S'.out
                    have J := Lib.hid J'.out
                    have M := Lib.hid M'.out
                    clear S' J' M'
                    have a0 : w10.cell? ⟨p3, 0, none⟩ = some (.int .u64 (uv al)) := S.out.a.cell 0
                    have a1 : w10.cell? ⟨p3, 1, none⟩ = some (.int .u64 (uv ah)) := S.out.a.cell 1
                    have d0 : w10.cell? ⟨p4, 0, none⟩ = some (.int .u64 (uv bl')) := S.out.b.cell 0
                    have d1 : w10.cell? ⟨p4, 1, none⟩ = some (.int .u64 (uv bh)) := S.out.b.cell 1
                    have j0 : w10.cell? ⟨pj, 0, none⟩ = some (.int .u64 (uv j1)) := J.out.cell 0
                    have j1' : w10.cell? ⟨pj, 1, none⟩ = some (.int .u64 (uv j2)) := J.out.cell 1
                    have m0 : w10.cell? ⟨pm, 0, none⟩ = some (.int .u64 (uv m1)) := M.out.cell 0
                    have m1' : w10.cell? ⟨pm, 1, none⟩ = some (.int .u64 (uv m2)) := M.out.cell 1
                    go_wp2_with fail
                    refine (HBX.out w10).mono ?_
                    rintro e w11 ⟨rfl, bb⟩
                    have S' := Lib.hid (S.out.below bb)
                    have J' := Lib.hid (J.out.below bb J.out.lt)
                    have M' := Lib.hid (M.out.below bb M.out.lt)
                    clear bb S J M a0 a1 d0 d1 j0 j1' m0 m1'
                    have S := Lib.hid S'.out
                    have J := Lib.hid J'.out
                    have M := Lib.hid M'.out
                    clear S' J' M'
                    have a0 : w11.cell? ⟨p3, 0, none⟩ = some (.int .u64 (uv al)) := S.out.a.cell 0
                    have a1 : w11.cell? ⟨p3, 1, none⟩ = some (.int .u64 (uv ah)) := S.out.a.cell 1
                    have d0 : w11.cell? ⟨p4, 0, none⟩ = some (.int .u64 (uv bl')) := S.out.b.cell 0
                    have d1 : w11.cell? ⟨p4, 1, none⟩ = some (.int .u64 (uv bh)) := S.out.b.cell 1
                    have j0 : w11.cell? ⟨pj, 0, none⟩ = some (.int .u64 (uv j1)) := J.out.cell 0
                    have j1' : w11.cell? ⟨pj, 1, none⟩ = some (.int .u64 (uv j2)) := J.out.cell 1
                    have m0 : w11.cell? ⟨pm, 0, none⟩ = some (.int .u64 (uv m1)) := M.out.cell 0
                    have m1' : w11.cell? ⟨pm, 1, none⟩ = some (.int .u64 (uv m2)) := M.out.cell 1
                    rcases hmeet with ⟨t1, t2⟩ | ⟨t1, t2⟩
                    · subst t1
                      rw [t2] at HMX
                      clear t2
                      go_wp2_with fail
                      refine (HMX.out w11).mono ?_
                      rintro e w12 ⟨rfl, bb⟩
                      have S' := Lib.hid (S.out.below bb)
                      have J' := Lib.hid (J.out.below bb J.out.lt)
                      have M' := Lib.hid (M.out.below bb M.out.lt)
                      clear bb S J M a0 a1 d0 d1 j0 j1' m0 m1'
                      have S := Lib.hid S'.out
                      have J := Lib.hid J'.out
                      have M := Lib.hid M'.out
                      clear S' J' M'
                      have a0 : w12.cell? ⟨p3, 0, none⟩ = some (.int .u64 (uv al)) := S.out.a.cell 0
                      have a1 : w12.cell? ⟨p3, 1, none⟩ = some (.int .u64 (uv ah)) := S.out.a.cell 1
                      have d0 : w12.cell? ⟨p4, 0, none⟩ = some (.int .u64 (uv bl')) := S.out.b.cell 0
                      have d1 : w12.cell? ⟨p4, 1, none⟩ = some (.int .u64 (uv bh)) := S.out.b.cell 1
                      have j0 : w12.cell? ⟨pj, 0, none⟩ = some (.int .u64 (uv j1)) := J.out.cell 0
                      have j1' : w12.cell? ⟨pj, 1, none⟩ = some (.int .u64 (uv j2)) := J.out.cell 1
                      have m0 : w12.cell? ⟨pm, 0, none⟩ = some (.int .u64 (uv m1)) := M.out.cell 0
                      have m1' : w12.cell? ⟨pm, 1, none⟩ = some (.int .u64 (uv m2)) := M.out.cell 1
                      go_wp2_with fail
                      go_ret
                      exact ⟨by simp, S.out.bel⟩
                    · subst t1
                      subst t2
                      go_wp2_with fail
                      go_ret
                      exact ⟨by simp, S.out.bel⟩
                  · go_wp2_with fail
                    refine (HAX.out w9).mono ?_
                    rintro e w10 ⟨rfl, bb⟩
                    have S' := Lib.hid (S.out.below bb)
                    have J' := Lib.hid (J.out.below bb J.out.lt)
                    have M' := Lib.hid (M.out.below bb M.out.lt)
                    clear bb S J M a0 a1 d0 d1 j0 j1' m0 m1'
                    have S := Lib.hid S'.out
                    have J := Lib.hid J'.out
                    have M := Lib.hid M'.out
                    clear S' J' M'
                    have a0 : w10.cell? ⟨p3, 0, none⟩ = some (.int .u64 (uv al)) := S.out.a.cell 0
                    have a1 : w10.cell? ⟨p3, 1, none⟩ = some (.int .u64 (uv ah)) := S.out.a.cell 1
                    have d0 : w10.cell? ⟨p4, 0, none⟩ = some (.int .u64 (uv bl')) := S.out.b.cell 0
                    have d1 : w10.cell? ⟨p4, 1, none⟩ = some (.int .u64 (uv bh)) := S.out.b.cell 1
                    have j0 : w10.cell? ⟨pj, 0, none⟩ = some (.int .u64 (uv j1)) := J.out.cell 0
                    have j1' : w10.cell? ⟨pj, 1, none⟩ = some (.int .u64 (uv j2)) := J.out.cell 1
                    have m0 : w10.cell? ⟨pm, 0, none⟩ = some (.int .u64 (uv m1)) := M.out.cell 0
                    have m1' : w10.cell? ⟨pm, 1, none⟩ = some (.int .u64 (uv m2)) := M.out.cell 1
                    go_wp2_with fail
                    refine (HBX.out w10).mono ?_
                    rintro e w11 ⟨rfl, bb⟩
                    have S' := Lib.hid (S.out.below bb)
                    have J' := Lib.hid (J.out.below bb J.out.lt)
                    have M' := Lib.hid (M.out.below bb M.out.lt)
                    clear bb S J M a0 a1 d0 d1 j0 j1' m0 m1'
                    have S := Lib.hid S'.out
                    have J := Lib.hid J'.out
                    have M := Lib.hid M'.out
                    clear S' J' M'
                    have a0 : w11.cell? ⟨p3, 0, none⟩ = some (.int .u64 (uv al)) := S.out.a.cell 0
                    have a1 : w11.cell? ⟨p3, 1, none⟩ = some (.int .u64 (uv ah)) := S.out.a.cell 1
                    have d0 : w11.cell? ⟨p4, 0, none⟩ = some (.int .u64 (uv bl')) := S.out.b.cell 0
                    have d1 : w11.cell? ⟨p4, 1, none⟩ = some (.int .u64 (uv bh)) := S.out.b.cell 1
                    have j0 : w11.cell? ⟨pj, 0, none⟩ = some (.int .u64 (uv j1)) := J.out.cell 0
                    have j1' : w11.cell? ⟨pj, 1, none⟩ = some (.int .u64 (uv j2)) := J.out.cell 1
                    have m0 : w11.cell? ⟨pm, 0, none⟩ = some (.int .u64 (uv m1)) := M.out.cell 0
                    have m1' : w11.cell? ⟨pm, 1, none⟩ = some (.int .u64 (uv m2)) := M.out.cell 1
                    rcases hmeet with ⟨t1, t2⟩ | ⟨t1, t2⟩
                    · subst t1
                      rw [t2] at HMX
                      clear t2
                      go_wp2_with fail
                      refine (HMX.out w11).mono ?_
                      rintro e w12 ⟨rfl, bb⟩
                      have S' := Lib.hid (S.out.below bb)
                      have J' := Lib.hid (J.out.below bb J.out.lt)
                      have M' := Lib.hid (M.out.below bb M.out.lt)
                      clear bb S J M a0 a1 d0 d1 j0 j1' m0 m1'
                      have S := Lib.hid S'.out
                      have J := Lib.hid J'.out
                      have M := Lib.hid M'.out
                      clear S' J' M'
                      have a0 : w12.cell? ⟨p3, 0, none⟩ = some (.int .u64 (uv al)) := S.out.a.cell 0
                      have a1 : w12.cell? ⟨p3, 1, none⟩ = some (.int .u64 (uv ah)) := S.out.a.cell 1
                      have d0 : w12.cell? ⟨p4, 0, none⟩ = some (.int .u64 (uv bl')) := S.out.b.cell 0
                      have d1 : w12.cell? ⟨p4, 1, none⟩ = some (.int .u64 (uv bh)) := S.out.b.cell 1
                      have j0 : w12.cell? ⟨pj, 0, none⟩ = some (.int .u64 (uv j1)) := J.out.cell 0
                      have j1' : w12.cell? ⟨pj, 1, none⟩ = some (.int .u64 (uv j2)) := J.out.cell 1
                      have m0 : w12.cell? ⟨pm, 0, none⟩ = some (.int .u64 (uv m1)) := M.out.cell 0
                      have m1' : w12.cell? ⟨pm, 1, none⟩ = some (.int .u64 (uv m2)) := M.out.cell 1
                      go_wp2_with fail
                      go_ret
                      exact ⟨by simp, S.out.bel⟩
                    · subst t1
                      subst t2
                      go_wp2_with fail
                      go_ret
                      exact ⟨by simp, S.out.bel⟩
      · as_aux_lemma =>
          rw [uv_dec_le hA] at HRA
          rw [uv_dec_nle hB] at HRB
          have hk : dosOk 1 al ah bl' bh = false := by unfold dosOk; rw [decide_eq_false hB, Bool.and_false]
          have HS := Lib.hid (fun w => sdo_any 1 w al ah bl' bh)
          rw [hk] at HS
          generalize dosR 1 al ah bl' bh = V at HS
          obtain ⟨v1, v2⟩ := V
          unfold spVal at HS
          dsimp only at HS
          clear hk hA hB
          have a0 : wc.cell? ⟨p3, 0, none⟩ = some (.int .u64 (uv al)) := A.out.cell 0
          have a1 : wc.cell? ⟨p3, 1, none⟩ = some (.int .u64 (uv ah)) := A.out.cell 1
          have d0 : wc.cell? ⟨p4, 0, none⟩ = some (.int .u64 (uv bl')) := D.out.cell 0
          have d1 : wc.cell? ⟨p4, 1, none⟩ = some (.int .u64 (uv bh)) := D.out.cell 1
          go_wp2_with fail
          refine (HRA.out wc).mono ?_
          rintro e w4 ⟨rfl, b4⟩
          have A4 := Lib.hid (A.out.below b4 A.out.lt)
          have D4 := Lib.hid (D.out.below b4 D.out.lt)
          have B4 := Lib.hid (B3.out.trans (b4.mono B3.out.size))
          clear b4 A D B3 a0 a1 d0 d1
          have a0 : w4.cell? ⟨p3, 0, none⟩ = some (.int .u64 (uv al)) := A4.out.cell 0
          have a1 : w4.cell? ⟨p3, 1, none⟩ = some (.int .u64 (uv ah)) := A4.out.cell 1
          have d0 : w4.cell? ⟨p4, 0, none⟩ = some (.int .u64 (uv bl')) := D4.out.cell 0
          have d1 : w4.cell? ⟨p4, 1, none⟩ = some (.int .u64 (uv bh)) := D4.out.cell 1
          go_wp2_with fail
          refine (HRB.out w4).mono ?_
          rintro e w5 ⟨rfl, b5⟩
          have A5 := Lib.hid (A4.out.below b5 A4.out.lt)
          have D5 := Lib.hid (D4.out.below b5 D4.out.lt)
          have B5 := Lib.hid (B4.out.trans (b5.mono B4.out.size))
          clear b5 A4 D4 B4 a0 a1 d0 d1
          have a0 : w5.cell? ⟨p3, 0, none⟩ = some (.int .u64 (uv al)) := A5.out.cell 0
          have a1 : w5.cell? ⟨p3, 1, none⟩ = some (.int .u64 (uv ah)) := A5.out.cell 1
          have d0 : w5.cell? ⟨p4, 0, none⟩ = some (.int .u64 (uv bl')) := D5.out.cell 0
          have d1 : w5.cell? ⟨p4, 1, none⟩ = some (.int .u64 (uv bh)) := D5.out.cell 1
          go_wp2_with fail
          refine (HS.out w5).mono ?_
          rintro e w6 ⟨rfl, b6⟩
          have B6 := Lib.hid (B5.out.trans (b6.mono B5.out.size))
          clear b6
          go_wp2_with fail
          go_ret
          exact ⟨rfl, below_alloc B6.out _⟩
    · as_aux_lemma =>
        rw [uv_dec_nle hA] at HRA
        have hk : dosOk 1 al ah bl' bh = false := by unfold dosOk; rw [decide_eq_false hA, Bool.and_false]; rfl
        have HS := Lib.hid (fun w => sdo_any 1 w al ah bl' bh)
        rw [hk] at HS
        generalize dosR 1 al ah bl' bh = V at HS
        obtain ⟨v1, v2⟩ := V
        unfold spVal at HS
        dsimp only at HS
        clear hk hA
        have a0 : wc.cell? ⟨p3, 0, none⟩ = some (.int .u64 (uv al)) := A.out.cell 0
        have a1 : wc.cell? ⟨p3, 1, none⟩ = some (.int .u64 (uv ah)) := A.out.cell 1
        have d0 : wc.cell? ⟨p4, 0, none⟩ = some (.int .u64 (uv bl')) := D.out.cell 0
        have d1 : wc.cell? ⟨p4, 1, none⟩ = some (.int .u64 (uv bh)) := D.out.cell 1
        go_wp2_with fail
        refine (HRA.out wc).mono ?_
        rintro e w4 ⟨rfl, b4⟩
        have A4 := Lib.hid (A.out.below b4 A.out.lt)
        have D4 := Lib.hid (D.out.below b4 D.out.lt)
        have B4 := Lib.hid (B3.out.trans (b4.mono B3.out.size))
        clear b4 A D B3 a0 a1 d0 d1
        have a0 : w4.cell? ⟨p3, 0, none⟩ = some (.int .u64 (uv al)) := A4.out.cell 0
        have a1 : w4.cell? ⟨p3, 1, none⟩ = some (.int .u64 (uv ah)) := A4.out.cell 1
        have d0 : w4.cell? ⟨p4, 0, none⟩ = some (.int .u64 (uv bl')) := D4.out.cell 0
        have d1 : w4.cell? ⟨p4, 1, none⟩ = some (.int .u64 (uv bh)) := D4.out.cell 1
        go_wp2_with fail
        refine (HS.out w4).mono ?_
        rintro e w6 ⟨rfl, b6⟩
        have B6 := Lib.hid (B4.out.trans (b6.mono B4.out.size))
        clear b6
        go_wp2_with fail
        go_ret
        exact ⟨rfl, below_alloc B6.out _⟩

end Go.Proofs.Ytchlokhmcadgaaa
