/-
  The law EpochPlays: the script's calls, told to both clocks. Conditions: none.
-/
import Derived.Test.YtaclegafgkbmaaaEpochH
import Derived.Deep.RegionHeld3
namespace Go.Proofs.Ytaclegafgkbmaaa
open Go.RowKit

theorem int_info : (Try.prog.info? 3).map (fun i => (i.zero, i.size, i.bytes)) = some (some (.int .i64 0), 1, 8) := by kernel_rfl
theorem iarr_length (l : List Int) : (iarr l).length = l.length := by simp [iarr]
theorem iarr_one (l : List Int) : ∀ u ∈ iarr l, u.oneCell' = true := by
  intro u hu
  simp only [iarr, List.mem_map] at hu
  obtain ⟨n, _, rfl⟩ := hu
  rfl

theorem insOf_nil (N : Nat) : insOf [] N = List.replicate N 0 := by
  rw [List.eq_replicate_iff]
  refine ⟨insOf_length _ _, fun b hb => ?_⟩
  unfold insOf at hb
  obtain ⟨j, _, rfl⟩ := List.mem_map.1 hb
  rfl

set_option maxRecDepth 100000 in
set_option maxHeartbeats 8000000 in
theorem plays_walk (w : World) (N : Nat) (hN1 : 1 ≤ N) (hN4 : N ≤ 4) (script : List OpE) (A : Option Addr) (c n : Nat) (hn : n = script.length) (hm : n ≤ 17592186044416) (hr : 0 < n → ∃ b o, A = some ⟨b, o, none⟩ ∧ b < w.heap.size ∧ ∀ i, i < script.length → OpAt w b (o + i * 3) (script.getD i op0) ∧ OpOk w (script.getD i op0)) :
    Calls Try.prog 5 #[.int .i64 N, .slice A n c] w fun e w' => e = .returned (.bool true) ∧ Below w.heap.size w w' := by
  have HN := Lib.hid hn
  have HR := Lib.hid hr
  clear hn hr
  have hN1' : ¬ (N : Int) < 1 := by omega
  have hN4' : ¬ 4 < (N : Int) := by omega
  go_enter Try.func5, Try.ntmps5
  go_wp2_with fail
  refine (awake_any w).mono ?_
  rintro e wa ⟨rfl, hba⟩
  have HBA := Lib.hid hba
  clear hba
  go_wp2_with fail
  refine (new_ok wa N hN1 hN4).mono ?_
  rintro e w1 ⟨g, gi, rfl, hg, hgi, h1, b1⟩
  have C1 := Lib.hid h1
  have B1 := Lib.hid (HBA.out.trans (b1.mono HBA.out.size))
  have hg0 : w.heap.size ≤ g := Nat.le_trans HBA.out.size hg
  have hgi0 : w.heap.size ≤ gi := Nat.le_trans HBA.out.size hgi
  clear h1 b1 hg hgi HBA
  have PS : Hid (Both w (w1.alloc (.cells #[.int .i64 N, .slice none 0 0] 44)) g gi w1.heap.size (.slice none 0 0) N (nowOf []) (insOf [] N) []) := Lib.hid
    ⟨by have h := C1.out.below (below_alloc (Below.refl _ _) (.cells #[.int .i64 N, .slice none 0 0] 44)); rwa [← insOf_nil N] at h,
     ⟨Ob.fresh w1 44 [.int .i64 N, .slice none 0 0], World.ownsRow_nil _ _ _ _⟩, below_alloc B1.out _, hg0, hgi0, B1.out.size⟩
  go_upto_region 9 with fail
  generalize w1.alloc (.cells #[.int .i64 N, .slice none 0 0] 44) = wz at PS ⊢
  generalize w1.heap.size = gr at PS ⊢
  clear C1 B1 hg0 hgi0
  go_wp2_with fail
  go_loopw [8] (fun i wr => ∃ (k : Nat) (v : Value) (l : List StepV), k ≤ n ∧ k ≤ 200 ∧ i = .int .i64 k ∧ l.length ≤ 4 * k ∧ Both w wr g gi gr v N (nowOf l) (insOf l N) l) (fun i _ => n - (intOf i).toNat)
  case atStart => exact ⟨0, .slice none 0 0, [], Nat.zero_le _, Nat.zero_le _, rfl, Nat.le_refl _, PS.out⟩
  case round =>
    obtain ⟨k, v, l, hk, hk2, rfl, hlen, hP⟩ := hrel
    have P := Lib.hid hP
    have HLEN := Lib.hid hlen
    clear hP hlen PS
    by_cases hlt : k < n ∧ k < 200
    · have g1 : (k : Int) < (n : Int) := by omega
      have g2 : (k : Int) < 200 := by omega
      have hlt1 := hlt.1
      have hlt2 := hlt.2
      clear hlt
      obtain ⟨b, o, rfl, hbl, hop⟩ := HR.out (by omega)
      have hkl : k < script.length := by have := HN.out; omega
      have HX0 := Lib.hid (hop k hkl).2
      obtain ⟨c0, c1, c2⟩ := (hop k hkl).1.below hbl P.out.low
      clear hop
      generalize script.getD k op0 = x at c0 c1 c2 HX0
      have OX : Hid (Ob (wr.alloc (.cells #[.int .i64 x.kind, .int .i64 x.wk, .slice x.A x.ws.length x.cap] 30)) wr.heap.size 30 (opc x)) := Lib.hid (Ob.fresh wr 30 (opc x))
      have PX := Lib.hid (P.out.more (below_alloc (Below.refl wr.heap.size wr) (.cells #[.int .i64 x.kind, .int .i64 x.wk, .slice x.A x.ws.length x.cap] 30)))
      go_upto_region 13 with fail
      generalize wr.alloc (.cells #[.int .i64 x.kind, .int .i64 x.wk, .slice x.A x.ws.length x.cap] 30) = wx at OX PX ⊢
      generalize wr.heap.size = q at OX ⊢
      clear c0 c1 c2 P
      have f0 : wx.cell? ⟨q, 0, none⟩ = some (.int .i64 x.kind) := OX.out.cell 0
      have f1 : wx.cell? ⟨q, 1, none⟩ = some (.int .i64 x.wk) := OX.out.cell 1
      have f2 : wx.cell? ⟨q, 2, none⟩ = some (.slice x.A x.ws.length x.cap) := OX.out.cell 2
      by_cases h0 : x.kind = 0
      · have h0' : (x.kind == 0) = true := by simpa using h0
        clear h0
        go_wp2_with fail
        refine (enter_any wx g gi (nowOf l) (insOf l N) x.wk (by rw [insOf_length]; exact hN4) PX.out.clk).mono ?_
        rintro e w8 ⟨rfl, h8, n8⟩
        have P8 := Lib.hid (PX.out.goI h8 n8)
        have O8 := Lib.hid (PX.out.farI OX.out n8 (by decide))
        have e1 : w8.cell? ⟨q, 1, none⟩ = some (.int .i64 x.wk) := O8.out.cell 1
        clear h8 n8 f0 f1 f2
        go_wp2_with fail
        refine (renter_any w w8 gr N v l x.wk P8.out.low P8.out.ngr (by have := HLEN.out; omega) P8.out.ref).mono ?_
        rintro e w9 ⟨rfl, v9, h9⟩
        have P9 := Lib.hid ((P8.out.goR h9).eqs (reL_now l N x.wk).symm (reL_ins l N x.wk).symm)
        have HL9 := Lib.hid (reL_len l N x.wk)
        have HL8 := HLEN.out
        clear h9 e1
        rw [reV_now, reC_eq]
        generalize enV (nowOf l) (insOf l N) x.wk = a
        generalize enC (insOf l N) x.wk = b9
        go_wp2_with fail
        refine (shows_any w w9 g gi gr v9 N (reL l N x.wk) hN1 hN4 (by have := HL9.out; omega) P9.out).mono ?_
        rintro e w20 ⟨rfl, b20⟩
        have P20 := Lib.hid (P9.out.more b20)
        clear b20
        go_wp2_with fail
        refine ⟨⟨k + 1, v9, (reL l N x.wk), by omega, by omega, by go_num, by have := HL9.out; omega, P20.out⟩, by simp [intOf]; omega⟩
      · have h0' : (x.kind == 0) = false := by simpa using h0
        by_cases h1 : x.kind = 1
        · have h1' : (x.kind == 1) = true := by simpa using h1
          clear h0 h1
          obtain ⟨i0, hi0, hz0, hz1, hz2⟩ := info_parts int_info
          have hwl : x.ws.length ≤ 17592186044416 := by have := HX0.out.1; omega
          have HGL := Lib.hid PX.out.clk.2.lt
          go_wp2_with fail
          have f2a : ∀ o', (wx.drew.alloc o').cell? ⟨q, 2, none⟩ = some (.slice x.A x.ws.length x.cap) := fun o' => (Below.cell (below_alloc (Below.refl wx.heap.size wx) o') (cell_lt f2)).trans f2
          refine wp_region_held_drew (S := fun w' => w'.cell? ⟨q, 2, none⟩ = some (.slice x.A x.ws.length x.cap)) (by kernel_rfl) f2 (fun hHeld => ?_)
          refine wpAnyH_take (i := 0) (v := ?_) rfl (by kernel_rfl) (by kernel_rfl) (by kernel_rfl) (fun _ _ _ h => h) (Or.inl ⟨by rfl, ?_⟩) (by assumption) ?_
          rotate_left
          · (intro w' hSw; (try dsimp only at hSw); go_simp; try with_reducible rfl)
          try simp only [Act.put]
          refine wpAnyH_take (i := 2) (v := ?_) rfl (by kernel_rfl) (by kernel_rfl) (by kernel_rfl) (fun _ _ _ h => h) (Or.inl ⟨by rfl, ?_⟩) (by assumption) ?_
          rotate_left
          · (intro w' hSw; (try dsimp only at hSw); go_simp; try with_reducible rfl)
          try simp only [Act.put]
          refine wpAnyH_take (i := 3) (v := ?_) rfl (by kernel_rfl) (by kernel_rfl) (by kernel_rfl) (fun _ _ _ h => h) (Or.inl ⟨by rfl, ?_⟩) (by assumption) ?_
          rotate_left
          · (intro w' hSw; (try dsimp only at hSw); go_simp; try with_reducible rfl)
          try simp only [Act.put]
          refine wpAnyH_take (i := 6) (v := ?_) rfl (by kernel_rfl) (by kernel_rfl) (by kernel_rfl) (fun _ _ _ h => h) (Or.inl ⟨by rfl, ?_⟩) (by assumption) ?_
          rotate_left
          · (intro w' hSw; (try dsimp only at hSw); go_simp; try with_reducible rfl)
          try simp only [Act.put]
          refine wpAnyH_take (i := 7) (v := ?_) rfl (by kernel_rfl) (by kernel_rfl) (by kernel_rfl) (fun _ _ _ h => h) (Or.inl ⟨by rfl, ?_⟩) (by assumption) ?_
          rotate_left
          · (intro w' hSw; (try dsimp only at hSw); go_simp; try with_reducible rfl)
          try simp only [Act.put]
          refine wpAnyH_take (i := 8) (v := ?_) rfl (by kernel_rfl) (by kernel_rfl) (by kernel_rfl) (fun _ _ _ h => h) (Or.inl ⟨by rfl, ?_⟩) (by assumption) ?_
          rotate_left
          · (intro w' hSw; (try dsimp only at hSw); go_simp; try with_reducible rfl)
          try simp only [Act.put]
          refine wpAnyH_ready (rs := [1]) (by kernel_rfl) (by simp) ?_
          refine AllReadyH.cons rfl (fun K' hK => ?_) AllReadyH.nil
          go_simp
          refine hK.out _ _ (f2a _) (fun hHeld => ?_)
          clear hK K'
          try simp only [Act.put]
          refine wpAnyH_ready (rs := [4]) (by kernel_rfl) (by simp) ?_
          refine AllReadyH.cons rfl (fun K' hK => ?_) AllReadyH.nil
          rw [if_pos (by rfl)]
          refine wp_append_sl _ (.tmp 86) (.tmp 88) _ rfl w.heap.size 3 i0 _ 1 8 Try.underlying28 hi0 hz0 hz1 hz2 rfl (by omega) (.slice (some ⟨wx.heap.size, 0, none⟩) 0 0) 0 [] rfl (own_empty PX.out.drew.low _ _)
            x.A x.ws.length x.cap (iarr x.ws) rfl (by rw [iarr_length, Nat.mul_one]) (HX0.out.2.1.below (below_alloc PX.out.drew.low _)) (iarr_one _) (by simp only [maxLen]; omega) (by omega) (below_alloc PX.out.drew.low _).size (fun v2 w2 hown g1 g2 => ?_)
          have hb2 : Below wx.heap.size wx w2 := by
            have h1 : Below wx.heap.size wx (wx.drew.alloc (.cells #[] 3)) := (below_alloc (below_drewN (Below.refl wx.heap.size wx) 1) _)
            exact h1.grown g1 h1.size fun j hj => by
              have : wx.heap.size = j := by simpa [Value.ownBlock] using hj
              omega
          have P2 := Lib.hid (PX.out.more hb2)
          have O2 := Lib.hid (OX.out.below hb2 OX.out.lt)
          have hfar : ∀ i, v2.ownBlock = some i → wx.heap.size ≤ i := by
            intro i hi
            rcases g2 with h2 | h2
            · rw [h2] at hi
              have : wx.heap.size = i := by simpa [Value.ownBlock] using hi
              omega
            · rw [h2] at hi
              injection hi with hi
              subst hi
              simp
          obtain ⟨A2, c2, rfl, hA2, _, hsl2, _⟩ := own_form hown
          have HO := Lib.hid hown
          have HFAR := Lib.hid hfar
          have f5 : w2.cell? ⟨q, 2, none⟩ = some (.slice x.A x.ws.length x.cap) := O2.out.cell 2
          clear hb2 g1 g2 hfar hsl2
          refine hK.out _ _ f5 (fun hHeld => ?_)
          clear hK K'
          try simp only [Act.put]
          refine wpAnyH_ready (rs := [5]) (by kernel_rfl) (by simp) ?_
          refine AllReadyH.cons rfl (fun K' hK => ?_) AllReadyH.nil
          go_simp
          refine (leave_any w2 g gi (nowOf l) (insOf l N) x.ws A2 x.ws.length c2 rfl (by omega) (by rw [insOf_length]; exact hN4) P2.out.clk (own_sl HO.out) (fun p hp h0 he => ?_)).mono ?_
          · subst hp
            have h1 := HFAR.out p.block rfl
            have h2 := HGL.out
            omega
          rintro e w3 ⟨rfl, h3, n3⟩
          have P3 := Lib.hid (P2.out.goI h3 n3)
          have O3 := Lib.hid (P2.out.farI O2.out n3 (by decide))
          have f6 : w3.cell? ⟨q, 2, none⟩ = some (.slice x.A x.ws.length x.cap) := O3.out.cell 2
          clear h3 n3
          go_wp2_with fail
          refine hK.out _ _ f6 (fun hHeld => ?_)
          clear hK K'
          try simp only [Act.put]
          refine wpAnyH_ready (rs := [9]) (by kernel_rfl) (by simp) ?_
          refine AllReadyH.cons rfl (fun K' hK => ?_) AllReadyH.nil
          go_simp
          refine (rleave_any w w3 gr N v l x.ws x.A x.ws.length x.cap rfl (by omega) hN4 P3.out.low P3.out.ngr (by have := HLEN.out; omega) HX0.out.2.1 P3.out.ref).mono ?_
          rintro e w4 ⟨rfl, v4, h4⟩
          have P4 := Lib.hid ((P3.out.goR h4).eqs (rlL_now l N x.ws).symm (rlL_ins l N x.ws).symm)
          have O4 := Lib.hid (P3.out.farR O3.out h4 (by decide) (by decide))
          have f7 : w4.cell? ⟨q, 2, none⟩ = some (.slice x.A x.ws.length x.cap) := O4.out.cell 2
          have HL9 := Lib.hid (rlL_len l N x.ws hN4)
          have HL8 := HLEN.out
          clear h4
          generalize lvC (insOf l N) x.ws = a
          go_wp2_with fail
          refine hK.out _ _ f7 (fun hHeld => ?_)
          clear hK K'
          try simp only [Act.put]
          refine wpAnyH_take (i := 10) (v := ?_) rfl (by kernel_rfl) (by kernel_rfl) (by kernel_rfl) (fun _ _ _ h => h) (Or.inl ⟨by rfl, ?_⟩) (by assumption) ?_
          rotate_left
          · (intro w' hSw; (try dsimp only at hSw); go_simp; try with_reducible rfl)
          try simp only [Act.put]
          refine wpAnyH_take (i := 11) (v := ?_) rfl (by kernel_rfl) (by kernel_rfl) (by kernel_rfl) (fun _ _ _ h => h) (Or.inl ⟨by rfl, ?_⟩) (by assumption) ?_
          rotate_left
          · (intro w' hSw; (try dsimp only at hSw); go_simp; try with_reducible rfl)
          try simp only [Act.put]
          refine wpAnyH_done (by kernel_rfl) ?_ _
          go_wp2_with fail
          refine (shows_any w w4 g gi gr v4 N (rlL l N x.ws) hN1 hN4 (by have := HL9.out; omega) P4.out).mono ?_
          rintro e w20 ⟨rfl, b20⟩
          have P20 := Lib.hid (P4.out.more b20)
          clear b20
          go_wp2_with fail
          go_roundw
          case rel => exact ⟨k + 1, v4, (rlL l N x.ws), by omega, by omega, by go_num, by have := HL9.out; omega, P20.out⟩
          case measure => simp [intOf]; omega
        · have h1' : (x.kind == 1) = false := by simpa using h1
          by_cases h2 : x.kind = 2
          · have h2' : (x.kind == 2) = true := by simpa using h2
            clear h0 h1 h2
            have HNB := Lib.hid (nowOf_le l)
            go_wp2_with fail
            refine (advance_any wx g gi (nowOf l) (insOf l N) (by have := HNB.out; omega) (by have := HNB.out; have := HLEN.out; omega) PX.out.clk).mono ?_
            rintro e w8 ⟨rfl, h8, n8⟩
            have P8 := Lib.hid (PX.out.goC h8 n8)
            clear h8 n8 f0 f1 f2
            go_wp2_with fail
            refine (radvance_any w w8 gr N v l P8.out.low P8.out.ngr (by have := HLEN.out; omega) P8.out.ref).mono ?_
            rintro e w9 ⟨rfl, v9, h9⟩
            have P9 := Lib.hid ((P8.out.goR h9).eqs (nowOf_advance l).symm (insOf_advance l N).symm)
            have HL9 : Hid ((l ++ [StepV.mk 3 0]).length ≤ l.length + 4) := Lib.hid (by rw [List.length_append]; simp)
            have HL8 := HLEN.out
            clear h9 HNB
            generalize nowOf l + 1 = a
            go_wp2_with fail
            refine (shows_any w w9 g gi gr v9 N (l ++ [StepV.mk 3 0]) hN1 hN4 (by have := HL9.out; omega) P9.out).mono ?_
            rintro e w20 ⟨rfl, b20⟩
            have P20 := Lib.hid (P9.out.more b20)
            clear b20
            go_wp2_with fail
            refine ⟨⟨k + 1, v9, (l ++ [StepV.mk 3 0]), by omega, by omega, by go_num, by have := HL9.out; omega, P20.out⟩, by simp [intOf]; omega⟩
          · have h2' : (x.kind == 2) = false := by simpa using h2
            by_cases h3 : x.kind = 3
            · have h3' : (x.kind == 3) = true := by simpa using h3
              clear h0 h1 h2 h3
              go_wp2_with fail
              go_region_held3 (fun w' => w'.cell? ⟨q, 1, none⟩ = some (.int .i64 x.wk)) (go_keep)
                (first
                 | (go_at_call 14
                    refine (safe_any wx.drew g gi (nowOf l) (insOf l N) x.wk (by rw [insOf_length]; exact hN4) PX.out.drew.clk).mono ?_
                    rintro e w8 ⟨rfl, rfl⟩)
                 | (go_at_call 19
                    refine (rsafe_any _ wx.drew gr N v l x.wk (by have := HLEN.out; omega) hN4 PX.out.drew.ref).mono ?_
                    rintro e w9 ⟨rfl, b9⟩
                    have P9 := Lib.hid (PX.out.drew.more b9)
                    have O9 := Lib.hid (OX.out.drew.below b9 OX.out.drew.lt)
                    have e1 : w9.cell? ⟨q, 1, none⟩ = some (.int .i64 x.wk) := O9.out.cell 1
                    clear b9))
              have HL9 : Hid (l.length ≤ l.length + 4) := Lib.hid (by omega)
              have HL8 := HLEN.out
              generalize safeV (insOf l N) x.wk = a
              clear f0 f1 f2 e1
              go_wp2_with fail
              refine (shows_any w w9 g gi gr v N l hN1 hN4 (by have := HL9.out; omega) P9.out).mono ?_
              rintro e w20 ⟨rfl, b20⟩
              have P20 := Lib.hid (P9.out.more b20)
              clear b20
              go_wp2_with fail
              go_roundw
              case rel => exact ⟨k + 1, v, l, by omega, by omega, by go_num, by have := HL9.out; omega, P20.out⟩
              case measure => simp [intOf]; omega
            · have h3' : (x.kind == 3) = false := by simpa using h3
              clear h0 h1 h2 h3
              have HL9 : Hid (l.length ≤ l.length + 4) := Lib.hid (by omega)
              have HL8 := HLEN.out
              go_wp2_with fail
              refine (shows_any w wx g gi gr v N l hN1 hN4 (by have := HL9.out; omega) PX.out).mono ?_
              rintro e w20 ⟨rfl, b20⟩
              have P20 := Lib.hid (PX.out.more b20)
              clear b20
              go_wp2_with fail
              refine ⟨⟨k + 1, v, l, by omega, by omega, by go_num, by have := HL9.out; omega, P20.out⟩, by simp [intOf]; omega⟩
    · have hx : ¬ (k : Int) < (n : Int) ∨ ((k : Int) < (n : Int) ∧ ¬ (k : Int) < 200) := by omega
      rcases hx with hx | ⟨hx, hy⟩
      all_goals
        go_wp2_with fail
        go_ret
        exact ⟨rfl, P.out.low⟩

set_option maxRecDepth 100000 in
set_option maxHeartbeats 1000000 in
theorem plays_bad (w : World) (z : Int) (hz : z < 1 ∨ 4 < z) (v : Value) :
    Calls Try.prog 5 #[.int .i64 z, v] w fun e w' => e = .returned (.bool true) ∧ Below w.heap.size w w' := by
  have HZ := Lib.hid hz
  rcases hz with hz | hz
  · go_enter Try.func5, Try.ntmps5
    go_wp2_with fail
    refine (awake_any w).mono ?_
    rintro e wa ⟨rfl, hba⟩
    have HBA := Lib.hid hba
    clear hba
    go_wp2_with fail
    refine (new_bad wa z HZ.out).mono ?_
    rintro e w1 ⟨rfl, rfl⟩
    go_wp2_with fail
    go_ret
    exact ⟨rfl, HBA.out⟩
  · have hz2 : ¬ z < 1 := by omega
    go_enter Try.func5, Try.ntmps5
    go_wp2_with fail
    refine (awake_any w).mono ?_
    rintro e wa ⟨rfl, hba⟩
    have HBA := Lib.hid hba
    clear hba
    go_wp2_with fail
    refine (new_bad wa z HZ.out).mono ?_
    rintro e w1 ⟨rfl, rfl⟩
    go_wp2_with fail
    go_ret
    exact ⟨rfl, HBA.out⟩

theorem plays_law (w : World) (z : Int) (_ : (Lit.int .i64 z).wf = true) (l : List OpE) (v : Value) (hr : RdOps w v l) :
    Calls Try.prog 5 #[.int .i64 z, v] w fun e w' => e = .returned (.bool true) ∧ Below w.heap.size w w' := by
  by_cases hz : 1 ≤ z ∧ z ≤ 4
  · obtain ⟨⟨A, c, rfl, hc, hb⟩, hm⟩ := hr
    obtain ⟨N, rfl⟩ : ∃ N : Nat, z = (N : Int) := ⟨z.toNat, by omega⟩
    exact plays_walk w N (by omega) (by omega) l A c l.length rfl (by omega) hb
  · exact plays_bad w z (by omega) v

end Go.Proofs.Ytaclegafgkbmaaa
