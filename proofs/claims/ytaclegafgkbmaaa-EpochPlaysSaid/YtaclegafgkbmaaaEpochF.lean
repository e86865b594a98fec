/-
  The reference's Leave of layer 17. Conditions: those of each theorem.
-/
import Derived.Test.YtaclegafgkbmaaaEpochE
import Derived.Deep.RegionHeld3
namespace Go.Proofs.Ytaclegafgkbmaaa
open Go.RowKit

theorem grown_undrew {w w' : World} {row : Option Nat} (h : w.drew.grownBy w' row) : w.grownBy w' row := ⟨h.os, h.tape, h.output, h.size, h.block⟩
/-- the steps of workers that leave -/
def lvs (ws : List Int) : List StepV := ws.map fun x => ⟨2, x⟩
theorem lvs_length (ws : List Int) : (lvs ws).length = ws.length := by simp [lvs]
theorem lvs_take (ws : List Int) (k : Nat) (h : k < ws.length) : lvs (ws.take (k + 1)) = lvs (ws.take k) ++ [⟨2, ws.getD k 0⟩] := by
  unfold lvs
  rw [List.take_succ_eq_append_getElem h, List.map_append, List.getD_eq_getElem?_getD, List.getElem?_eq_getElem h]
  rfl
noncomputable def rlL (l : List StepV) (N : Nat) (ws : List Int) : List StepV := if lvC (insOf l N) ws = 0 then l ++ lvs ws else l
theorem rlL_ne {l : List StepV} {N : Nat} {ws : List Int} (h : lvC (insOf l N) ws ≠ 0) : rlL l N ws = l := by unfold rlL; rw [if_neg h]
theorem rlL_eq {l : List StepV} {N : Nat} {ws : List Int} (h : lvC (insOf l N) ws = 0) : rlL l N ws = l ++ lvs ws := by unfold rlL; rw [if_pos h]
theorem lvOk1_len {ins ws : List Int} (h : LvOk1 ins ws) (hm : ins.length ≤ 4) : ws.length ≤ 4 := by
  refine Nat.le_of_not_lt fun hlt => ?_
  obtain ⟨⟨a0, b0⟩, _⟩ := h 0 (by omega)
  obtain ⟨⟨a1, b1⟩, c1⟩ := h 1 (by omega)
  obtain ⟨⟨a2, b2⟩, c2⟩ := h 2 (by omega)
  obtain ⟨⟨a3, b3⟩, c3⟩ := h 3 (by omega)
  obtain ⟨⟨a4, b4⟩, c4⟩ := h 4 (by omega)
  have d10 := c1 0 (by omega)
  have d20 := c2 0 (by omega)
  have d21 := c2 1 (by omega)
  have d30 := c3 0 (by omega)
  have d31 := c3 1 (by omega)
  have d32 := c3 2 (by omega)
  have d40 := c4 0 (by omega)
  have d41 := c4 1 (by omega)
  have d42 := c4 2 (by omega)
  have d43 := c4 3 (by omega)
  clear c1 c2 c3 c4 h
  generalize ws.getD 0 0 = p0 at *
  generalize ws.getD 1 0 = p1 at *
  generalize ws.getD 2 0 = p2 at *
  generalize ws.getD 3 0 = p3 at *
  generalize ws.getD 4 0 = p4 at *
  omega
theorem lvOk1_of {l : List StepV} {N n : Nat} {ws : List Int} (hn : n = ws.length) (h : ∀ i, i < n → (0 ≤ ws.getD i 0 ∧ ws.getD i 0 < (N : Int)) ∧ ∀ j, j < i → ws.getD j 0 ≠ ws.getD i 0) : LvOk1 (insOf l N) ws := fun i hi => by
  have h1 := h i (by omega)
  exact ⟨⟨h1.1.1, by rw [insOf_length]; exact h1.1.2⟩, h1.2⟩

set_option maxRecDepth 100000 in
set_option maxHeartbeats 4000000 in
theorem rleave_any (w0 w : World) (g : Nat) (N : Nat) (v : Value) (l : List StepV) (ws : List Int) (A : Option Addr) (n c : Nat) (hn : n = ws.length) (hn8 : n ≤ 4611686018427387904) (hN : N ≤ 4) (hB : Below w0.heap.size w0 w) (hg : w0.heap.size ≤ g) (hmax : l.length ≤ 10000) (hs : Sl w0 A (iarr ws)) (hc : RClk w0.heap.size w g N v l) :
    Calls Try.prog 17 #[.pointer (some ⟨g, 0, none⟩), .slice A n c] w fun e w' => e = .returned (.int .i64 (lvC (insOf l N) ws)) ∧ ∃ v', CGrew w0 w w' g N v v' (rlL l N ws) := by
  have f0 : w.cell? ⟨g, 0, none⟩ = some (.int .i64 N) := hc.1.cell 0
  have hgl : g < w.heap.size := hc.1.lt
  have HN := Lib.hid hn
  have HB := Lib.hid hB
  have HS := Lib.hid hs
  have HC := Lib.hid hc
  have F0 := Lib.hid f0
  clear hn hB hs hc f0
  obtain ⟨i0, hi0, hz0, hz1, hz2⟩ := info_parts step_info
  go_enter Try.func17, Try.ntmps17
  go_wp2_with fail
  go_loopw [5] (fun i wr => ∃ k : Nat, k ≤ n ∧ i = .int .i64 k ∧ Below w.heap.size w wr ∧ ∀ i, i < k → (0 ≤ ws.getD i 0 ∧ ws.getD i 0 < (N : Int)) ∧ ∀ j, j < i → ws.getD j 0 ≠ ws.getD i 0) (fun i _ => n - (intOf i).toNat)
  case atStart => exact ⟨0, Nat.zero_le _, rfl, Below.refl _ _, fun i hi => absurd hi (by omega)⟩
  case round =>
    obtain ⟨k, hk, rfl, hb, hp⟩ := hrel
    have BB := Lib.hid hb
    have HP := Lib.hid hp
    have f0 : wr.cell? ⟨g, 0, none⟩ = some (.int .i64 N) := (hb.cell hgl).trans F0.out
    clear hb hp
    by_cases hlt : k < n
    · have g1 : (k : Int) < (n : Int) := by omega
      obtain ⟨b, o, rfl, hcc⟩ := sl_iarr HS.out (by have := HN.out; omega)
      have BW := Lib.hid (HB.out.trans (BB.out.mono HB.out.size))
      have HCC : Hid (∀ j, j < n → wr.cell? ⟨b, o + j, none⟩ = some (.int .i64 (ws.getD j 0))) := Lib.hid fun j hj => (BW.out.cell (cell_lt (hcc j (by have := HN.out; omega)))).trans (hcc j (by have := HN.out; omega))
      have f1 : wr.cell? ⟨b, o + k, none⟩ = some (.int .i64 (ws.getD k 0)) := HCC.out k hlt
      clear hcc
      obtain ⟨x, hx⟩ : ∃ x, ws.getD k 0 = x := ⟨_, rfl⟩
      rw [hx] at f1
      have HX := Lib.hid hx
      clear hx
      by_cases h0 : x < 0
      · have hbad : lvC (insOf l N) ws = 2 := lvC_2 fun hok => by have := (hok k (by have := HN.out; omega)).1.1; rw [HX.out] at this; omega
        have HBAD := Lib.hid hbad
        clear hbad
        go_wp2_with fail
        go_quiet (fail)
        go_wp2_with fail
        go_ret
        exact ⟨by rw [HBAD.out]; rfl, v, by rw [rlL_ne (by rw [HBAD.out]; decide)]; exact CGrew.of_below HC.out HB.out (below_drewN BB.out _)⟩
      · by_cases h1 : (N : Int) ≤ x
        · have hbad : lvC (insOf l N) ws = 2 := lvC_2 fun hok => by have := (hok k (by have := HN.out; omega)).1.2; rw [HX.out, insOf_length] at this; omega
          have HBAD := Lib.hid hbad
          clear hbad
          go_wp2_with fail
          go_quiet (fail)
          go_wp2_with fail
          go_ret
          exact ⟨by rw [HBAD.out]; rfl, v, by rw [rlL_ne (by rw [HBAD.out]; decide)]; exact CGrew.of_below HC.out HB.out (below_drewN BB.out _)⟩
        · go_wp2_with fail
          go_quiet (fail)
          have HX0 := Lib.hid h0
          have HX1 := Lib.hid h1
          have HFX := Lib.hid f1
          clear f0 f1
          go_wp2_with fail
          clear h0 h1
          go_loopw [6] (fun i wq => ∃ j : Nat, j ≤ k ∧ i = .int .i64 j ∧ Below wr.heap.size wr wq ∧ ∀ m, m < j → ws.getD m 0 ≠ x) (fun i _ => k - (intOf i).toNat)
          case atStart => exact ⟨0, Nat.zero_le _, rfl, below_drewN (Below.refl _ _) _, fun i hi => absurd hi (by omega)⟩
          case round =>
            obtain ⟨j, hj, rfl, hb2, hp2⟩ := hrel
            have B2 := Lib.hid hb2
            have HP2 := Lib.hid hp2
            clear hb2 hp2
            by_cases hjk : j < k
            · have g2 : (j : Int) < (k : Int) := by omega
              have g3 : (j : Int) < (n : Int) := by omega
              have f1 : wr.cell? ⟨b, o + k, none⟩ = some (.int .i64 x) := (B2.out.cell (cell_lt HFX.out)).trans HFX.out
              have f2 : wr.cell? ⟨b, o + j, none⟩ = some (.int .i64 (ws.getD j 0)) := (B2.out.cell (cell_lt (HCC.out j (by omega)))).trans (HCC.out j (by omega))
              obtain ⟨y, hy⟩ : ∃ y, ws.getD j 0 = y := ⟨_, rfl⟩
              rw [hy] at f2
              have HY := Lib.hid hy
              clear hy
              by_cases hyx : y = x
              · subst hyx
                have hbad : lvC (insOf l N) ws = 2 := lvC_2 fun hok => (hok k (by have := HN.out; omega)).2 j hjk (by rw [HX.out, HY.out])
                have HBAD := Lib.hid hbad
                clear hbad
                go_wp2_with fail
                go_quiet (fail)
                go_wp2_with fail
                go_ret
                exact ⟨by rw [HBAD.out]; rfl, v, by rw [rlL_ne (by rw [HBAD.out]; decide)]; exact CGrew.of_below HC.out HB.out (below_drewN (BB.out.trans (B2.out.mono BB.out.size)) _)⟩
              · have hyx' : (y == x) = false := by simpa using hyx
                go_wp2_with fail
                go_quiet (fail)
                go_wp2_with fail
                go_roundw
                case rel =>
                  refine ⟨j + 1, by omega, by go_num, below_drewN B2.out _, fun m hm => ?_⟩
                  by_cases hmj : m < j
                  · exact HP2.out m hmj
                  · obtain rfl : m = j := by omega
                    rw [HY.out]; exact hyx
                case measure => simp [intOf]; omega
            · have g2 : ¬ (j : Int) < (k : Int) := by omega
              go_wp2_with fail
              go_roundw
              case rel =>
                refine ⟨k + 1, by omega, by go_num, BB.out.trans (B2.out.mono BB.out.size), fun i hi => ?_⟩
                by_cases hik : i < k
                · exact HP.out i hik
                · obtain rfl : i = k := by omega
                  rw [HX.out]
                  exact ⟨⟨by have := HX0.out; omega, by have := HX1.out; omega⟩, fun m hm => HP2.out m (by omega)⟩
              case measure => simp [intOf]; omega
    · have g1 : ¬ (k : Int) < (n : Int) := by omega
      have OK1 : Hid (LvOk1 (insOf l N) ws) := Lib.hid (lvOk1_of HN.out fun i hi => HP.out i (by omega))
      have hn4 : n ≤ 4 := by rw [HN.out]; exact lvOk1_len OK1.out (by rw [insOf_length]; exact hN)
      clear HP f0
      go_wp2_with fail
      go_loopw [7] (fun i wq => ∃ j : Nat, j ≤ n ∧ i = .int .i64 j ∧ Below w.heap.size w wq ∧ ∀ i, i < j → 0 < inOf l (ws.getD i 0)) (fun i _ => n - (intOf i).toNat)
      case atStart => exact ⟨0, Nat.zero_le _, rfl, BB.out, fun i hi => absurd hi (by omega)⟩
      case round =>
        obtain ⟨j, hj, rfl, hb2, hp2⟩ := hrel
        have B2 := Lib.hid hb2
        have HP2 := Lib.hid hp2
        clear hb2 hp2 BB
        by_cases hlj : j < n
        · have g2 : (j : Int) < (n : Int) := by omega
          obtain ⟨b, o, rfl, hcc⟩ := sl_iarr HS.out (by have := HN.out; omega)
          have BW := Lib.hid (HB.out.trans (B2.out.mono HB.out.size))
          have f1 : wr.cell? ⟨b, o + j, none⟩ = some (.int .i64 (ws.getD j 0)) := (BW.out.cell (cell_lt (hcc j (by have := HN.out; omega)))).trans (hcc j (by have := HN.out; omega))
          have hk0 := (OK1.out j (by have := HN.out; omega)).1
          rw [Kn, insOf_length] at hk0
          clear hcc
          obtain ⟨x, hx⟩ : ∃ x, ws.getD j 0 = x := ⟨_, rfl⟩
          rw [hx] at f1 hk0
          have HX := Lib.hid hx
          have HK0 := Lib.hid hk0
          clear hx hk0
          go_wp2_with fail
          refine (rin_any _ _ g N v l x (by omega) (HC.out.below B2.out)).mono ?_
          rintro r w1 ⟨rfl, b1⟩
          have BX := Lib.hid (B2.out.trans (b1.mono B2.out.size))
          clear b1
          by_cases hin : 0 < inOf l x
          · have hd : decide (0 < inOf l x) = true := by simpa using hin
            rw [hd]
            have HIN := Lib.hid hin
            clear hin hd
            go_wp2_with fail
            refine ⟨⟨j + 1, by omega, by go_num, BX.out, fun i hi => ?_⟩, by simp [intOf]; omega⟩
            by_cases hij : i < j
            · exact HP2.out i hij
            · obtain rfl : i = j := by omega
              rw [HX.out]; exact HIN.out
          · have hd : decide (0 < inOf l x) = false := by simpa using hin
            rw [hd]
            have hbad : lvC (insOf l N) ws = 41 := lvC_41 OK1.out fun hok => by
              have h1 := hok j (by have := HN.out; omega)
              rw [HX.out, insOf_get l N _ (by have := HK0.out; omega), Int.toNat_of_nonneg HK0.out.1] at h1
              have := inOf_pos l x
              omega
            have HBAD := Lib.hid hbad
            clear hbad hin hd
            go_wp2_with fail
            go_ret
            exact ⟨by rw [HBAD.out]; rfl, v, by rw [rlL_ne (by rw [HBAD.out]; decide)]; exact CGrew.of_below HC.out HB.out BX.out⟩
        · have g2 : ¬ (j : Int) < (n : Int) := by omega
          have OK2 : Hid (LvOk2 (insOf l N) ws) := Lib.hid fun i hi => by
            have hk0 := (OK1.out i hi).1
            rw [Kn, insOf_length] at hk0
            rw [insOf_get l N _ (by omega), Int.toNat_of_nonneg hk0.1]
            have := HP2.out i (by have := HN.out; omega)
            omega
          have HGOOD := Lib.hid (lvC_0 OK1.out OK2.out)
          have G0 := Lib.hid (CGrew.of_below HC.out HB.out B2.out)
          clear OK1 OK2 HP2
          go_wp2_with fail
          go_loopw [10] (fun i wq => ∃ (m : Nat) (u : Value), m ≤ n ∧ i = .int .i64 m ∧ CGrew w0 w wq g N v u (l ++ lvs (ws.take m))) (fun i _ => n - (intOf i).toNat)
          case atStart => exact ⟨0, v, Nat.zero_le _, rfl, by simpa [lvs] using G0.out⟩
          case round =>
            obtain ⟨m, u, hm, rfl, hgr⟩ := hrel
            have GR := Lib.hid hgr
            clear hgr
            by_cases hlm : m < n
            · have g3 : (m : Int) < (n : Int) := by omega
              obtain ⟨b, o, rfl, hcc⟩ := sl_iarr HS.out (by have := HN.out; omega)
              have f00 := hcc m (by have := HN.out; omega)
              have f1 := (GR.out.low.cell (cell_lt f00)).trans f00
              clear hcc
              have HSU := Lib.hid (lvs_take ws m (by have := HN.out; omega))
              have hLen := Lib.hid (show (l ++ lvs (ws.take m)).length ≤ l.length + 4 by rw [List.length_append, lvs_length, List.length_take]; omega)
              have hc : wr.cell? ⟨g, 1, none⟩ = some u := GR.out.clk.1.cell 1
              have hgl : g < wr.heap.size := GR.out.clk.1.lt
              have HKR := Lib.hid GR.out.clk
              have HBR := Lib.hid GR.out.low
              generalize hx : ws.getD m 0 = x at f1 f00 HSU
              clear hx
              generalize hLe : l ++ lvs (ws.take m) = L at HKR GR hLen
              have HL := Lib.hid hLe
              have HLen := hLen
              clear hLe hLen
              have hca : ∀ o', (wr.drew.alloc o').cell? ⟨g, 1, none⟩ = some u := fun o' => (Below.cell (below_alloc (Below.refl wr.heap.size wr) o') hgl).trans hc
              have f1a : ∀ o', (wr.drew.alloc o').cell? ⟨b, o + m, none⟩ = some (.int .i64 x) := fun o' => (Below.cell (below_alloc (Below.refl wr.heap.size wr) o') (cell_lt f1)).trans f1
              go_wp2_with fail
              refine wp_region_held_drew (S := fun w' => w'.cell? ⟨b, o + m, none⟩ = some (.int .i64 x)) (by kernel_rfl) f1 (fun hHeld => ?_)
              refine wpAnyH_take (i := 0) (v := ?_) rfl (by kernel_rfl) (by kernel_rfl) (by kernel_rfl) (fun _ _ _ h => h) (Or.inl ⟨by rfl, ?_⟩) (by assumption) ?_
              rotate_left
              · (intro w' hSw; (try dsimp only at hSw); go_simp; try with_reducible rfl)
              try simp only [Act.put]
              refine wpAnyH_take (i := 1) (v := ?_) rfl (by kernel_rfl) (by kernel_rfl) (by kernel_rfl) (fun _ _ _ h => h) (Or.inl ⟨by rfl, ?_⟩) (by assumption) ?_
              rotate_left
              · (intro w' hSw; (try dsimp only at hSw); go_simp; try with_reducible rfl)
              try simp only [Act.put]
              refine wpAnyH_take (i := 2) (v := ?_) rfl (by kernel_rfl) (by kernel_rfl) (by kernel_rfl) (fun _ _ _ h => h) (Or.inl ⟨by rfl, ?_⟩) (by assumption) ?_
              rotate_left
              · (intro w' hSw; (try dsimp only at hSw); go_simp; try with_reducible rfl)
              try simp only [Act.put]
              refine wpAnyH_take (i := 3) (v := ?_) rfl (by kernel_rfl) (by kernel_rfl) (by kernel_rfl) (fun _ _ _ h => h) (Or.inl ⟨by rfl, ?_⟩) (by assumption) ?_
              rotate_left
              · (intro w' hSw; (try dsimp only at hSw); go_simp; try with_reducible rfl)
              try simp only [Act.put]
              refine wpAnyH_take (i := 5) (v := ?_) rfl (by kernel_rfl) (by kernel_rfl) (by kernel_rfl) (fun _ _ _ h => h) (Or.inl ⟨by rfl, ?_⟩) (by assumption) ?_
              rotate_left
              · (intro w' hSw; (try dsimp only at hSw); go_simp; try with_reducible rfl)
              try simp only [Act.put]
              refine wpAnyH_take (i := 6) (v := ?_) rfl (by kernel_rfl) (by kernel_rfl) (by kernel_rfl) (fun _ _ _ h => h) (Or.inl ⟨by rfl, ?_⟩) (by assumption) ?_
              rotate_left
              · (intro w' hSw; (try dsimp only at hSw); go_simp; try with_reducible rfl)
              try simp only [Act.put]
              refine wpAnyH_take (i := 7) (v := ?_) rfl (by kernel_rfl) (by kernel_rfl) (by kernel_rfl) (fun _ _ _ h => h) (Or.inl ⟨by rfl, ?_⟩) (by assumption) ?_
              rotate_left
              · (intro w' hSw; (try dsimp only at hSw); go_simp; try with_reducible rfl)
              try simp only [Act.put]
              refine wpAnyH_take (i := 8) (v := ?_) rfl (by kernel_rfl) (by kernel_rfl) (by kernel_rfl) (fun _ _ _ h => h) (Or.inl ⟨by rfl, ?_⟩) (by assumption) ?_
              rotate_left
              · (intro w' hSw; (try dsimp only at hSw); go_simp; try with_reducible rfl)
              try simp only [Act.put]
              refine wpAnyH_take (i := 9) (v := ?_) rfl (by kernel_rfl) (by kernel_rfl) (by kernel_rfl) (fun _ _ _ h => h) (Or.inl ⟨by rfl, ?_⟩) (by assumption) ?_
              rotate_left
              · (intro w' hSw; (try dsimp only at hSw); go_simp; try with_reducible rfl)
              try simp only [Act.put]
              refine wpAnyH_ready (rs := [4, 10]) (by kernel_rfl) (by simp) ?_
              refine AllReadyH.cons rfl (fun K' hK => ?_) (AllReadyH.cons rfl (fun K' hK => ?_) AllReadyH.nil)
              · go_simp
                refine hK.out _ _ f1 (fun hHeld => ?_)
                clear hK K'
                try simp only [Act.put]
                refine wpAnyH_ready (rs := [10]) (by kernel_rfl) (by simp) ?_
                refine AllReadyH.cons rfl (fun K' hK => ?_) AllReadyH.nil
                go_simp
                refine hK.out _ _ (f1a _) (fun hHeld => ?_)
                clear hK K'
                try simp only [Act.put]
                refine wpAnyH_ready (rs := [11]) (by kernel_rfl) (by simp) ?_
                refine AllReadyH.cons rfl (fun K' hK => ?_) AllReadyH.nil
                rw [if_pos (by rfl)]
                refine wp_append_sl _ (.tmp 74) (.tmp 80) _ rfl w0.heap.size 53 i0 _ 2 16 Try.underlying42 hi0 hz0 hz1 hz2 rfl (by omega) u L.length (stvs L) rfl (World.ownsRow.alloc HKR.out.2 _)
                  (some ⟨wr.heap.size, 0, none⟩) 1 1 (stv ⟨2, x⟩) rfl rfl (Sl.fresh wr (stv ⟨2, x⟩).toArray 53 (0, 0)) (stv_one _) (by have := HLen.out; simp [maxLen]; omega) (by have := HLen.out; omega) (below_alloc HBR.out _).size (fun v2 w2 hown g1d g2 => ?_)
                have g1 := grown_undrew g1d
                clear g1d
                have hb2 : Below w0.heap.size w0 w2 := (below_alloc HBR.out _).grown g1 (below_alloc HBR.out _).size fun j hj => (World.ownsRow.lt HKR.out.2 j hj).1
                obtain ⟨A2, c2, rfl, _, _, _, _⟩ := own_form hown
                have HG := Lib.hid (GR.out.trans (CGrew.snoc (w := wr) (t := ⟨2, x⟩) _ HKR.out hg hown hb2 g1 g2))
                have OM := Lib.hid (CGrew.mid (w := wr) _ HKR.out g1)
                have zl : ∀ i, w2.frozen? ⟨g, i, none⟩ = false := OM.out.frozen
                have y0 : w2.cell? ⟨g, 1, none⟩ = some u := OM.out.cell 1
                have f2 : w2.cell? ⟨b, o + m, none⟩ = some (.int .i64 x) := (hb2.cell (cell_lt f00)).trans f00
                have f3 : (w2.setCell ⟨g, 1, none⟩ (.slice A2 (L.length + 1) c2)).cell? ⟨b, o + m, none⟩ = some (.int .i64 x) := (HG.out.low.cell (cell_lt f00)).trans f00
                clear hown hb2 g1 g2 hc hca
                refine hK.out _ _ f2 (fun hHeld => ?_)
                clear hK K'
                try simp only [Act.put]
                refine wpAnyH_take (i := 12) (v := ?_) rfl (by kernel_rfl) (by kernel_rfl) (by kernel_rfl) (fun _ _ _ h => h) (Or.inl ⟨by rfl, ?_⟩) (by assumption) ?_
                rotate_left
                · (intro w' hSw; (try dsimp only at hSw); go_simp; try with_reducible rfl)
                try simp only [Act.put]
                refine wpAnyH_take (i := 13) (v := ?_) rfl (by kernel_rfl) (by kernel_rfl) (by kernel_rfl) (fun _ _ _ h => h) (Or.inl ⟨by rfl, ?_⟩) (by assumption) ?_
                rotate_left
                · (intro w' hSw; (try dsimp only at hSw); go_simp; try with_reducible rfl)
                try simp only [Act.put]
                refine wpAnyH_ready (rs := [14]) (by kernel_rfl) (by simp) ?_
                refine AllReadyH.cons rfl (fun K' hK => ?_) AllReadyH.nil
                go_simp
                refine hK.out _ _ f3 (fun hHeld => ?_)
                clear hK K'
                try simp only [Act.put]
                refine wpAnyH_done (by kernel_rfl) ?_ _
                go_wp2_with fail
                go_roundw
                case rel => exact ⟨m + 1, _, by omega, by go_num, by rw [HSU.out, ← List.append_assoc, HL.out]; exact HG.out⟩
                case measure => simp [intOf]; omega
              · go_simp
                refine hK.out _ _ (f1a _) (fun hHeld => ?_)
                clear hK K'
                try simp only [Act.put]
                refine wpAnyH_ready (rs := [4]) (by kernel_rfl) (by simp) ?_
                refine AllReadyH.cons rfl (fun K' hK => ?_) AllReadyH.nil
                go_simp
                refine hK.out _ _ (f1a _) (fun hHeld => ?_)
                clear hK K'
                try simp only [Act.put]
                refine wpAnyH_ready (rs := [11]) (by kernel_rfl) (by simp) ?_
                refine AllReadyH.cons rfl (fun K' hK => ?_) AllReadyH.nil
                rw [if_pos (by rfl)]
                refine wp_append_sl _ (.tmp 74) (.tmp 80) _ rfl w0.heap.size 53 i0 _ 2 16 Try.underlying42 hi0 hz0 hz1 hz2 rfl (by omega) u L.length (stvs L) rfl (World.ownsRow.alloc HKR.out.2 _)
                  (some ⟨wr.heap.size, 0, none⟩) 1 1 (stv ⟨2, x⟩) rfl rfl (Sl.fresh wr (stv ⟨2, x⟩).toArray 53 (0, 0)) (stv_one _) (by have := HLen.out; simp [maxLen]; omega) (by have := HLen.out; omega) (below_alloc HBR.out _).size (fun v2 w2 hown g1d g2 => ?_)
                have g1 := grown_undrew g1d
                clear g1d
                have hb2 : Below w0.heap.size w0 w2 := (below_alloc HBR.out _).grown g1 (below_alloc HBR.out _).size fun j hj => (World.ownsRow.lt HKR.out.2 j hj).1
                obtain ⟨A2, c2, rfl, _, _, _, _⟩ := own_form hown
                have HG := Lib.hid (GR.out.trans (CGrew.snoc (w := wr) (t := ⟨2, x⟩) _ HKR.out hg hown hb2 g1 g2))
                have OM := Lib.hid (CGrew.mid (w := wr) _ HKR.out g1)
                have zl : ∀ i, w2.frozen? ⟨g, i, none⟩ = false := OM.out.frozen
                have y0 : w2.cell? ⟨g, 1, none⟩ = some u := OM.out.cell 1
                have f2 : w2.cell? ⟨b, o + m, none⟩ = some (.int .i64 x) := (hb2.cell (cell_lt f00)).trans f00
                have f3 : (w2.setCell ⟨g, 1, none⟩ (.slice A2 (L.length + 1) c2)).cell? ⟨b, o + m, none⟩ = some (.int .i64 x) := (HG.out.low.cell (cell_lt f00)).trans f00
                clear hown hb2 g1 g2 hc hca
                refine hK.out _ _ f2 (fun hHeld => ?_)
                clear hK K'
                try simp only [Act.put]
                refine wpAnyH_take (i := 12) (v := ?_) rfl (by kernel_rfl) (by kernel_rfl) (by kernel_rfl) (fun _ _ _ h => h) (Or.inl ⟨by rfl, ?_⟩) (by assumption) ?_
                rotate_left
                · (intro w' hSw; (try dsimp only at hSw); go_simp; try with_reducible rfl)
                try simp only [Act.put]
                refine wpAnyH_take (i := 13) (v := ?_) rfl (by kernel_rfl) (by kernel_rfl) (by kernel_rfl) (fun _ _ _ h => h) (Or.inl ⟨by rfl, ?_⟩) (by assumption) ?_
                rotate_left
                · (intro w' hSw; (try dsimp only at hSw); go_simp; try with_reducible rfl)
                try simp only [Act.put]
                refine wpAnyH_ready (rs := [14]) (by kernel_rfl) (by simp) ?_
                refine AllReadyH.cons rfl (fun K' hK => ?_) AllReadyH.nil
                go_simp
                refine hK.out _ _ f3 (fun hHeld => ?_)
                clear hK K'
                try simp only [Act.put]
                refine wpAnyH_done (by kernel_rfl) ?_ _
                go_wp2_with fail
                go_roundw
                case rel => exact ⟨m + 1, _, by omega, by go_num, by rw [HSU.out, ← List.append_assoc, HL.out]; exact HG.out⟩
                case measure => simp [intOf]; omega
            · have g3 : ¬ (m : Int) < (n : Int) := by omega
              have hwm : ws.take m = ws := List.take_of_length_le (by have := HN.out; omega)
              rw [hwm] at GR
              clear hwm
              go_wp2_with fail
              go_ret
              exact ⟨by rw [HGOOD.out]; rfl, u, by rw [rlL_eq HGOOD.out]; exact GR.out⟩

end Go.Proofs.Ytaclegafgkbmaaa
