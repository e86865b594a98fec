/-
  The walk of the law StatsPlays. Conditions: none of the script's lists is longer than 1048576.
-/
import Derived.Test.YtkjffhlnghgkoaaStatsD
import Derived.Test.YtkjffhlnghgkoaaStatsK
import Derived.Deep.RegionHeld3
namespace Go.Proofs.Ytkjffhlnghgkoaa
open Go.RowKit

attribute [local go_sem] uv_nonneg uv_wrap uv_add uv_sub uv_add1 uv_sub1

theorem make2 (w : World) : (Instr.makeSlice 34 (.int .i64 2) (.int .i64 2)).run Try.prog w = .ok (.slice (some ⟨w.heap.size, 0, none⟩) 2 2) (w.alloc (.cells #[.slice none 0 0, .slice none 0 0] 38)) := by kernel_rfl
theorem OpAt.low {w w' : World} {b o : Nat} {x : OpV} (h : OpAt w b o x) (hb : b < w.heap.size) (hbl : Below w.heap.size w w') : OpAt w' b o x := by
  obtain ⟨h0, h1, h2, h3, h4, h5, h6, h7⟩ := h
  exact ⟨(hbl.cell hb).trans h0, (hbl.cell hb).trans h1, (hbl.cell hb).trans h2, (hbl.cell hb).trans h3, (hbl.cell hb).trans h4, (hbl.cell hb).trans h5, (hbl.cell hb).trans h6, h7⟩
theorem OpOk.low {w w' : World} {x : OpV} (h : OpOk w x) (hbl : Below w.heap.size w w') : OpOk w' x := ⟨h.1, h.2.1, h.2.2.below hbl⟩
theorem len_up (a k : Nat) (h : a ≤ k * 1048576) : a ≤ (k + 1) * 1048576 := Nat.le_trans h (Nat.mul_le_mul_right _ (Nat.le_succ k))
theorem len_add (a b : List ToldV) (k : Nat) (h : a.length ≤ k * 1048576) (hb : b.length ≤ 1048576) : (a ++ b).length ≤ (k + 1) * 1048576 := by rw [List.length_append]; omega
theorem meas (n k : Nat) (h : k < n) : n - (intOf (.int .i64 ((k : Int) + 1))).toNat < n - (intOf (.int .i64 (k : Int))).toNat := by simp [intOf]; omega
def opc (x : OpV) : List Value := [.int .i64 x.kind, .int .i64 x.on, .int .i64 x.hook, .int .u64 (uv x.s), .int .u64 (uv x.c), .int .u64 (uv x.r), .slice x.A x.hs.length x.cap]

set_option maxRecDepth 100000 in
set_option maxHeartbeats 4000000 in
theorem plays_walk (w : World) (script : List OpV) (A : Option Addr) (c n : Nat) (hn : n = script.length) (hm : n ≤ 17592186044416) (hr : 0 < n → ∃ b o, A = some ⟨b, o, none⟩ ∧ b < w.heap.size ∧ ∀ i, i < script.length → OpAt w b (o + i * 7) (script.getD i op0) ∧ OpOk w (script.getD i op0))
    (hk : ∀ i, i < script.length → (script.getD i op0).hs.length ≤ 1048576) :
    Calls Try.prog 4 #[.slice A n c] w fun e w' => e = .returned (.bool true) ∧ Below w.heap.size w w' := by
  have HN := Lib.hid hn
  have HR := Lib.hid hr
  have HK := Lib.hid hk
  clear hn hr hk
  go_enter Try.func4, Try.ntmps4
  go_wp2_with fail
  refine (awake_any w).mono ?_
  rintro e wa ⟨rfl, hba⟩
  have HBA := Lib.hid hba
  clear hba
  go_wp2_with fail
  refine (new_any wa).mono ?_
  rintro e w1 ⟨ga, rfl, hga, oa, b1⟩
  have GA := Lib.hid hga
  have OA := Lib.hid oa
  have B1 := Lib.hid b1
  clear hga oa b1
  go_wp2_with fail
  refine (new_any w1).mono ?_
  rintro e w2 ⟨gb, rfl, hgb, ob, b2⟩
  have GB := Lib.hid hgb
  have OB := Lib.hid ob
  have B2 := Lib.hid b2
  clear hgb ob b2
  have la : ga < w1.heap.size := OA.out.lt
  have T0 : Hid (∀ w4, w4 = (w2.alloc (.cells #[.pointer (some ⟨ga, 0, none⟩), .pointer (some ⟨gb, 0, none⟩)] 31)).alloc (.cells #[.slice none 0 0, .slice none 0 0] 38) →
      Two w w4 w2.heap.size (w2.heap.size + 1) ga gb (.slice none 0 0) (.slice none 0 0) (cnt []) (cnt []) [] []) := Lib.hid fun w4 h4 => by
    have s0 := HBA.out.size
    have s1 := B1.out.size
    have s2 := B2.out.size
    have := GA.out
    have := GB.out
    have hs : (w2.alloc (.cells #[.pointer (some ⟨ga, 0, none⟩), .pointer (some ⟨gb, 0, none⟩)] 31)).heap.size = w2.heap.size + 1 := by simp
    have hl := Ob.fresh (w2.alloc (.cells #[.pointer (some ⟨ga, 0, none⟩), .pointer (some ⟨gb, 0, none⟩)] 31)) 38 [.slice none 0 0, .slice none 0 0]
    rw [hs] at hl
    subst h4
    exact ⟨((OA.out.below B2.out la).alloc _).alloc _, (OB.out.alloc _).alloc _, (Ob.fresh w2 31 [.pointer (some ⟨ga, 0, none⟩), .pointer (some ⟨gb, 0, none⟩)]).alloc _, hl, World.ownsRow_nil _ _ _ _, World.ownsRow_nil _ _ _ _, by simp [Value.ownBlock],
      below_alloc (below_alloc ((HBA.out.trans (B1.out.mono s0)).trans (B2.out.mono (by omega))) _) _, by omega, by omega, by omega, by omega⟩
  have hmk := make2 (w2.alloc (.cells #[.pointer (some ⟨ga, 0, none⟩), .pointer (some ⟨gb, 0, none⟩)] 31))
  rw [show (w2.alloc (.cells #[.pointer (some ⟨ga, 0, none⟩), .pointer (some ⟨gb, 0, none⟩)] 31)).heap.size = w2.heap.size + 1 from by simp] at hmk
  clear la
  go_upto_region 5 with fail
  have T1 := Lib.hid (T0.out _ rfl)
  generalize (w2.alloc (.cells #[.pointer (some ⟨ga, 0, none⟩), .pointer (some ⟨gb, 0, none⟩)] 31)).alloc (.cells #[.slice none 0 0, .slice none 0 0] 38) = w4 at T1 ⊢
  clear T0 hmk OA OB B1 B2 GA GB HBA
  generalize w2.heap.size + 1 = gl at T1 ⊢
  generalize w2.heap.size = gs at T1 ⊢
  go_wp2_with fail
  go_loopw [5] (fun i wr => ∃ (k : Nat) (v0 v1 : Value) (l0 l1 : List ToldV), k ≤ n ∧ k ≤ 400 ∧ i = .int .i64 k ∧ l0.length ≤ k * 1048576 ∧ l1.length ≤ k * 1048576 ∧ Two w wr gs gl ga gb v0 v1 (cnt l0) (cnt l1) l0 l1) (fun i _ => n - (intOf i).toNat)
  case atStart => exact ⟨0, _, _, [], [], Nat.zero_le _, Nat.zero_le _, rfl, by simp, by simp, T1.out⟩
  case round =>
    obtain ⟨k, v0, v1, l0, l1, hk, hk4, rfl, hl0, hl1, hT⟩ := hrel
    have T := Lib.hid hT
    have HL0 := Lib.hid hl0
    have HL1 := Lib.hid hl1
    clear hT hl0 hl1 T1
    by_cases hlt : k < n ∧ k < 400
    · have hkn := hlt.1
      have hk5 := hlt.2
      clear hlt
      have g1 : (k : Int) < (n : Int) := by omega
      have g2 : (k : Int) < 400 := by omega
      obtain ⟨b, o, rfl, hbl, hop⟩ := HR.out (by omega)
      have hkl : k < script.length := by have := HN.out; omega
      have hxo := (hop k hkl).2
      have HX0 := Lib.hid hxo
      have HXL := Lib.hid (HK.out k hkl)
      have HS := Lib.hid hxo.2.2
      obtain ⟨c0, c1, c2, c3, c4, c5, c6, hwf⟩ := (hop k hkl).1.low hbl T.out.low
      clear hop hxo
      generalize script.getD k op0 = x at c0 c1 c2 c3 c4 c5 c6 hwf HX0 HXL HS
      have OX : Hid (Ob (wr.alloc (.cells #[.int .i64 x.kind, .int .i64 x.on, .int .i64 x.hook, .int .u64 (uv x.s), .int .u64 (uv x.c), .int .u64 (uv x.r), .slice x.A x.hs.length x.cap] 37)) wr.heap.size 37 (opc x)) := Lib.hid (Ob.fresh wr 37 (opc x))
      have TX := Lib.hid (T.out.more (below_alloc (Below.refl wr.heap.size wr) (.cells #[.int .i64 x.kind, .int .i64 x.on, .int .i64 x.hook, .int .u64 (uv x.s), .int .u64 (uv x.c), .int .u64 (uv x.r), .slice x.A x.hs.length x.cap] 37)))
      go_upto_region 9 with fail
      generalize wr.alloc (.cells #[.int .i64 x.kind, .int .i64 x.on, .int .i64 x.hook, .int .u64 (uv x.s), .int .u64 (uv x.c), .int .u64 (uv x.r), .slice x.A x.hs.length x.cap] 37) = wx at OX TX ⊢
      generalize wr.heap.size = q at OX ⊢
      clear c0 c1 c2 c3 c4 c5 c6 T
      have hql : q ≠ gl := Ob.ne_ OX.out TX.out.l (by decide)
      have f0 : wx.cell? ⟨q, 0, none⟩ = some (.int .i64 x.kind) := OX.out.cell 0
      have f1 : wx.cell? ⟨q, 1, none⟩ = some (.int .i64 x.on) := OX.out.cell 1
      have f2 : wx.cell? ⟨q, 2, none⟩ = some (.int .i64 x.hook) := OX.out.cell 2
      have f3 : wx.cell? ⟨q, 3, none⟩ = some (.int .u64 (uv x.s)) := OX.out.cell 3
      have f4 : wx.cell? ⟨q, 4, none⟩ = some (.int .u64 (uv x.c)) := OX.out.cell 4
      have f5 : wx.cell? ⟨q, 5, none⟩ = some (.int .u64 (uv x.r)) := OX.out.cell 5
      have f6 : wx.cell? ⟨q, 6, none⟩ = some (.slice x.A x.hs.length x.cap) := OX.out.cell 6
      have m0 : wx.cell? ⟨gl, 0, none⟩ = some v0 := TX.out.l.cell 0
      have m1 : wx.cell? ⟨gl, 1, none⟩ = some v1 := TX.out.l.cell 1
      have e0 : wx.cell? ⟨gs, 0, none⟩ = some (.pointer (some ⟨ga, 0, none⟩)) := TX.out.s.cell 0
      have e1 : wx.cell? ⟨gs, 1, none⟩ = some (.pointer (some ⟨gb, 0, none⟩)) := TX.out.s.cell 1
      by_cases ht : x.on.tmod 2 = 0
      · have ht' : (x.on.tmod 2 == 0) = true := by simpa using ht
        clear ht
        --PATHS
        --PATHS
        --PATHS
        --PATHS
        --PATHS
        --PATHS
        --PATHS
        by_cases hz : x.kind = 0
        · have hz' : (x.kind == 0) = true := by simpa using hz
          have HC := Lib.hid (code_ran x hz)
          have HE := Lib.hid (eff_ran x hz l0)
          have HLN := Lib.hid (ranTold_len x.hook x.s x.c x.r)
          clear hz
          go_wp2_with fail
          refine wp_region_held_drew (S := fun w' => w'.cell? ⟨q, 2, none⟩ = some (.int .i64 x.hook) ∧ w'.cell? ⟨q, 3, none⟩ = some (.int .u64 (uv x.s)) ∧ w'.cell? ⟨q, 4, none⟩ = some (.int .u64 (uv x.c)) ∧ w'.cell? ⟨q, 5, none⟩ = some (.int .u64 (uv x.r))) (by kernel_rfl) ⟨f2, f3, f4, f5⟩ (fun hHeld => ?_)
          refine wpAnyH_take (i := 0) (v := ?_) rfl (by kernel_rfl) (by kernel_rfl) (by kernel_rfl) (fun _ _ _ h => h) (Or.inl ⟨by rfl, ?_⟩) (by assumption) ?_
          rotate_left
          · (intro w' hSw; (try dsimp only at hSw); go_simp; try with_reducible rfl)
          try simp only [Act.put]
          refine wpAnyH_take (i := 1) (v := ?_) rfl (by kernel_rfl) (by kernel_rfl) (by kernel_rfl) (fun _ _ _ h => h) (Or.inl ⟨by rfl, ?_⟩) (by assumption) ?_
          rotate_left
          · (intro w' hSw; (try dsimp only at hSw); go_simp; try with_reducible rfl)
          try simp only [Act.put]
          refine wpAnyH_take (i := 2) (v := ?_) rfl (by kernel_rfl) (by kernel_rfl) (by kernel_rfl) (fun _ _ _ h => h) (Or.inl ⟨by rfl, ?_⟩) (by assumption) ?_
          rotate_left
          · (intro w' hSw; (try dsimp only at hSw); go_simp; try with_reducible rfl)
          try simp only [Act.put]
          refine wpAnyH_take (i := 3) (v := ?_) rfl (by kernel_rfl) (by kernel_rfl) (by kernel_rfl) (fun _ _ _ h => h) (Or.inl ⟨by rfl, ?_⟩) (by assumption) ?_
          rotate_left
          · (intro w' hSw; (try dsimp only at hSw); go_simp; try with_reducible rfl)
          try simp only [Act.put]
          refine wpAnyH_take (i := 4) (v := ?_) rfl (by kernel_rfl) (by kernel_rfl) (by kernel_rfl) (fun _ _ _ h => h) (Or.inl ⟨by rfl, ?_⟩) (by assumption) ?_
          rotate_left
          · (intro w' hSw; (try dsimp only at hSw); go_simp; try with_reducible rfl)
          try simp only [Act.put]
          refine wpAnyH_take (i := 6) (v := ?_) rfl (by kernel_rfl) (by kernel_rfl) (by kernel_rfl) (fun _ _ _ h => h) (Or.inl ⟨by rfl, ?_⟩) (by assumption) ?_
          rotate_left
          · (intro w' hSw; (try dsimp only at hSw); go_simp; try with_reducible rfl)
          try simp only [Act.put]
          refine wpAnyH_take (i := 7) (v := ?_) rfl (by kernel_rfl) (by kernel_rfl) (by kernel_rfl) (fun _ _ _ h => h) (Or.inl ⟨by rfl, ?_⟩) (by assumption) ?_
          rotate_left
          · (intro w' hSw; (try dsimp only at hSw); go_simp; try with_reducible rfl)
          try simp only [Act.put]
          refine wpAnyH_take (i := 8) (v := ?_) rfl (by kernel_rfl) (by kernel_rfl) (by kernel_rfl) (fun _ _ _ h => h) (Or.inl ⟨by rfl, ?_⟩) (by assumption) ?_
          rotate_left
          · (intro w' hSw; (try dsimp only at hSw); go_simp; try with_reducible rfl)
          try simp only [Act.put]
          refine wpAnyH_take (i := 9) (v := ?_) rfl (by kernel_rfl) (by kernel_rfl) (by kernel_rfl) (fun _ _ _ h => h) (Or.inl ⟨by rfl, ?_⟩) (by assumption) ?_
          rotate_left
          · (intro w' hSw; (try dsimp only at hSw); go_simp; try with_reducible rfl)
          try simp only [Act.put]
          refine wpAnyH_take (i := 10) (v := ?_) rfl (by kernel_rfl) (by kernel_rfl) (by kernel_rfl) (fun _ _ _ h => h) (Or.inl ⟨by rfl, ?_⟩) (by assumption) ?_
          rotate_left
          · (intro w' hSw; (try dsimp only at hSw); go_simp; try with_reducible rfl)
          try simp only [Act.put]
          refine wpAnyH_take (i := 11) (v := ?_) rfl (by kernel_rfl) (by kernel_rfl) (by kernel_rfl) (fun _ _ _ h => h) (Or.inl ⟨by rfl, ?_⟩) (by assumption) ?_
          rotate_left
          · (intro w' hSw; (try dsimp only at hSw); go_simp; try with_reducible rfl)
          try simp only [Act.put]
          refine wpAnyH_take (i := 12) (v := ?_) rfl (by kernel_rfl) (by kernel_rfl) (by kernel_rfl) (fun _ _ _ h => h) (Or.inl ⟨by rfl, ?_⟩) (by assumption) ?_
          rotate_left
          · (intro w' hSw; (try dsimp only at hSw); go_simp; try with_reducible rfl)
          try simp only [Act.put]
          refine wpAnyH_take (i := 13) (v := ?_) rfl (by kernel_rfl) (by kernel_rfl) (by kernel_rfl) (fun _ _ _ h => h) (Or.inl ⟨by rfl, ?_⟩) (by assumption) ?_
          rotate_left
          · (intro w' hSw; (try dsimp only at hSw); go_simp; try with_reducible rfl)
          try simp only [Act.put]
          refine wpAnyH_ready (rs := [5]) (by kernel_rfl) (by simp) ?_
          refine AllReadyH.cons rfl (fun K' hK => ?_) AllReadyH.nil
          go_simp
          refine hK.out _ _ ⟨f2, f3, f4, f5⟩ (fun hHeld => ?_)
          clear hK K'
          try simp only [Act.put]
          refine wpAnyH_ready (rs := [14]) (by kernel_rfl) (by simp) ?_
          refine AllReadyH.cons rfl (fun K' hK => ?_) AllReadyH.nil
          go_simp
          refine (ref_ran w wx.drew v0 l0 x.hook x.s x.c x.r TX.out.drew.low TX.out.drew.r0 (by have := HL0.out; omega)).mono ?_
          rintro e w5 ⟨v', rfl, hg⟩
          obtain ⟨A', c', rfl, _⟩ := row_form hg.row
          rw [← HC.out]
          generalize (l0 ++ ranTold x.hook x.s x.c x.r).length = n' at hg ⊢
          have L5 := Lib.hid (TX.out.drew.step0 hg)
          have OL : Hid (Ob w5 gl 38 [v0, v1]) := Lib.hid (TX.out.drew.ob0 hg TX.out.l (by decide))
          have OQ : Hid (Ob w5 q 37 (opc x)) := Lib.hid (TX.out.drew.ob0 hg OX.out (by decide))
          have O6 := Lib.hid (OQ.out.far (p := ⟨gl, 0, none⟩) hql (.slice A' n' c'))
          have zl : ∀ i, w5.frozen? ⟨gl, i, none⟩ = false := OL.out.frozen
          have y0 : w5.cell? ⟨gl, 0, none⟩ = some v0 := OL.out.cell 0
          have y1 : w5.cell? ⟨gl, 1, none⟩ = some v1 := OL.out.cell 1
          have d2 : w5.cell? ⟨q, 2, none⟩ = some (.int .i64 x.hook) := OQ.out.cell 2
          have k2 : (w5.setCell ⟨gl, 0, none⟩ (.slice A' n' c')).cell? ⟨q, 2, none⟩ = some (.int .i64 x.hook) := O6.out.cell 2
          have d3 : w5.cell? ⟨q, 3, none⟩ = some (.int .u64 (uv x.s)) := OQ.out.cell 3
          have k3 : (w5.setCell ⟨gl, 0, none⟩ (.slice A' n' c')).cell? ⟨q, 3, none⟩ = some (.int .u64 (uv x.s)) := O6.out.cell 3
          have d4 : w5.cell? ⟨q, 4, none⟩ = some (.int .u64 (uv x.c)) := OQ.out.cell 4
          have k4 : (w5.setCell ⟨gl, 0, none⟩ (.slice A' n' c')).cell? ⟨q, 4, none⟩ = some (.int .u64 (uv x.c)) := O6.out.cell 4
          have d5 : w5.cell? ⟨q, 5, none⟩ = some (.int .u64 (uv x.r)) := OQ.out.cell 5
          have k5 : (w5.setCell ⟨gl, 0, none⟩ (.slice A' n' c')).cell? ⟨q, 5, none⟩ = some (.int .u64 (uv x.r)) := O6.out.cell 5
          clear hg
          go_wp2_with fail
          refine hK.out _ _ ⟨d2, d3, d4, d5⟩ (fun hHeld => ?_)
          clear hK K'
          try simp only [Act.put]
          refine wpAnyH_take (i := 15) (v := ?_) rfl (by kernel_rfl) (by kernel_rfl) (by kernel_rfl) (fun _ _ _ h => h) (Or.inl ⟨by rfl, ?_⟩) (by assumption) ?_
          rotate_left
          · (intro w' hSw; (try dsimp only at hSw); go_simp; try with_reducible rfl)
          try simp only [Act.put]
          refine wpAnyH_take (i := 16) (v := ?_) rfl (by kernel_rfl) (by kernel_rfl) (by kernel_rfl) (fun _ _ _ h => h) (Or.inl ⟨by rfl, ?_⟩) (by assumption) ?_
          rotate_left
          · (intro w' hSw; (try dsimp only at hSw); go_simp; try with_reducible rfl)
          try simp only [Act.put]
          refine wpAnyH_take (i := 17) (v := ?_) rfl (by kernel_rfl) (by kernel_rfl) (by kernel_rfl) (fun _ _ _ h => h) (Or.inl ⟨by rfl, ?_⟩) (by assumption) ?_
          rotate_left
          · (intro w' hSw; (try dsimp only at hSw); go_simp; try with_reducible rfl)
          try simp only [Act.put]
          refine wpAnyH_take (i := 18) (v := ?_) rfl (by kernel_rfl) (by kernel_rfl) (by kernel_rfl) (fun _ _ _ h => h) (Or.inl ⟨by rfl, ?_⟩) (by assumption) ?_
          rotate_left
          · (intro w' hSw; (try dsimp only at hSw); go_simp; try with_reducible rfl)
          try simp only [Act.put]
          refine wpAnyH_ready (rs := [19]) (by kernel_rfl) (by simp) ?_
          refine AllReadyH.cons rfl (fun K' hK => ?_) AllReadyH.nil
          go_simp
          refine hK.out _ _ ⟨k2, k3, k4, k5⟩ (fun hHeld => ?_)
          clear hK K'
          try simp only [Act.put]
          refine wpAnyH_take (i := 20) (v := ?_) rfl (by kernel_rfl) (by kernel_rfl) (by kernel_rfl) (fun _ _ _ h => h) (Or.inl ⟨by rfl, ?_⟩) (by assumption) ?_
          rotate_left
          · (intro w' hSw; (try dsimp only at hSw); go_simp; try with_reducible rfl)
          try simp only [Act.put]
          refine wpAnyH_done (by kernel_rfl) ?_ _
          go_upto_region 16 with fail
          generalize w5.setCell ⟨gl, 0, none⟩ (.slice A' n' c') = w6 at L5 O6 ⊢
          clear f0 f1 f2 f3 f4 f5 f6 m0 m1 e0 e1 zl y0 y1 d2 k2 d3 k3 d4 k4 d5 k5 OL OQ
          have e0 : w6.cell? ⟨gs, 0, none⟩ = some (.pointer (some ⟨ga, 0, none⟩)) := L5.out.s.cell 0
          have f0 : w6.cell? ⟨q, 0, none⟩ = some (.int .i64 x.kind) := O6.out.cell 0
          have f1 : w6.cell? ⟨q, 1, none⟩ = some (.int .i64 x.on) := O6.out.cell 1
          have f2 : w6.cell? ⟨q, 2, none⟩ = some (.int .i64 x.hook) := O6.out.cell 2
          have f3 : w6.cell? ⟨q, 3, none⟩ = some (.int .u64 (uv x.s)) := O6.out.cell 3
          have f4 : w6.cell? ⟨q, 4, none⟩ = some (.int .u64 (uv x.c)) := O6.out.cell 4
          have f5 : w6.cell? ⟨q, 5, none⟩ = some (.int .u64 (uv x.r)) := O6.out.cell 5
          have f6 : w6.cell? ⟨q, 6, none⟩ = some (.slice x.A x.hs.length x.cap) := O6.out.cell 6
          go_region_held3 (fun w' => w'.cell? ⟨gs, 0, none⟩ = some (.pointer (some ⟨ga, 0, none⟩)) ∧ w'.cell? ⟨q, 0, none⟩ = some (.int .i64 x.kind) ∧ w'.cell? ⟨q, 1, none⟩ = some (.int .i64 x.on) ∧ w'.cell? ⟨q, 2, none⟩ = some (.int .i64 x.hook) ∧ w'.cell? ⟨q, 3, none⟩ = some (.int .u64 (uv x.s)) ∧ w'.cell? ⟨q, 4, none⟩ = some (.int .u64 (uv x.c)) ∧ w'.cell? ⟨q, 5, none⟩ = some (.int .u64 (uv x.r)) ∧ w'.cell? ⟨q, 6, none⟩ = some (.slice x.A x.hs.length x.cap)) (go_keep)
            (first
             | (go_at_call 12
                refine (tell_code ga (cnt l0) x w6.drew L5.out.drew.a (HX0.out.low L5.out.drew.low)).mono ?_
                rintro e w7 ⟨rfl, h7, n7⟩
                have L7 := Lib.hid (L5.out.drew.tell0 h7 n7)
                have O7 : Hid (Ob w7 q 37 (opc x)) := Lib.hid (Ob.only O6.out.drew n7 (Ob.ne_ O6.out L5.out.a (by decide)))
                have p0 : w7.cell? ⟨gs, 0, none⟩ = some (.pointer (some ⟨ga, 0, none⟩)) := L7.out.s.cell 0
                have p1 : w7.cell? ⟨q, 0, none⟩ = some (.int .i64 x.kind) := O7.out.cell 0
                have p2 : w7.cell? ⟨q, 1, none⟩ = some (.int .i64 x.on) := O7.out.cell 1
                have p3 : w7.cell? ⟨q, 2, none⟩ = some (.int .i64 x.hook) := O7.out.cell 2
                have p4 : w7.cell? ⟨q, 3, none⟩ = some (.int .u64 (uv x.s)) := O7.out.cell 3
                have p5 : w7.cell? ⟨q, 4, none⟩ = some (.int .u64 (uv x.c)) := O7.out.cell 4
                have p6 : w7.cell? ⟨q, 5, none⟩ = some (.int .u64 (uv x.r)) := O7.out.cell 5
                have p7 : w7.cell? ⟨q, 6, none⟩ = some (.slice x.A x.hs.length x.cap) := O7.out.cell 6
                clear h7 n7))
          go_wp2_with fail
          go_roundw
          case rel =>
            refine ⟨k + 1, _, _, _, _, by omega, by omega, by go_num, ?_, ?_, HE.out ▸ L7.out⟩
            · exact len_add _ _ k HL0.out (Nat.le_trans HLN.out (by decide))
            · exact len_up _ k HL1.out
          case measure => exact meas n k hkn
        · have hz' : (x.kind == 0) = false := by simpa using hz
          have HC := Lib.hid (code_miss x hz)
          have HE := Lib.hid (eff_miss x hz l0)
          have HLN := Lib.hid (missTold_len x.hs)
          clear hz
          go_wp2_with fail
          refine wp_region_held_drew (S := fun w' => w'.cell? ⟨q, 6, none⟩ = some (.slice x.A x.hs.length x.cap)) (by kernel_rfl) f6 (fun hHeld => ?_)
          refine wpAnyH_take (i := 0) (v := ?_) rfl (by kernel_rfl) (by kernel_rfl) (by kernel_rfl) (fun _ _ _ h => h) (Or.inl ⟨by rfl, ?_⟩) (by assumption) ?_
          rotate_left
          · (intro w' hSw; (try dsimp only at hSw); go_simp; try with_reducible rfl)
          try simp only [Act.put]
          refine wpAnyH_take (i := 1) (v := ?_) rfl (by kernel_rfl) (by kernel_rfl) (by kernel_rfl) (fun _ _ _ h => h) (Or.inl ⟨by rfl, ?_⟩) (by assumption) ?_
          rotate_left
          · (intro w' hSw; (try dsimp only at hSw); go_simp; try with_reducible rfl)
          try simp only [Act.put]
          refine wpAnyH_take (i := 2) (v := ?_) rfl (by kernel_rfl) (by kernel_rfl) (by kernel_rfl) (fun _ _ _ h => h) (Or.inl ⟨by rfl, ?_⟩) (by assumption) ?_
          rotate_left
          · (intro w' hSw; (try dsimp only at hSw); go_simp; try with_reducible rfl)
          try simp only [Act.put]
          refine wpAnyH_take (i := 3) (v := ?_) rfl (by kernel_rfl) (by kernel_rfl) (by kernel_rfl) (fun _ _ _ h => h) (Or.inl ⟨by rfl, ?_⟩) (by assumption) ?_
          rotate_left
          · (intro w' hSw; (try dsimp only at hSw); go_simp; try with_reducible rfl)
          try simp only [Act.put]
          refine wpAnyH_take (i := 4) (v := ?_) rfl (by kernel_rfl) (by kernel_rfl) (by kernel_rfl) (fun _ _ _ h => h) (Or.inl ⟨by rfl, ?_⟩) (by assumption) ?_
          rotate_left
          · (intro w' hSw; (try dsimp only at hSw); go_simp; try with_reducible rfl)
          try simp only [Act.put]
          refine wpAnyH_take (i := 6) (v := ?_) rfl (by kernel_rfl) (by kernel_rfl) (by kernel_rfl) (fun _ _ _ h => h) (Or.inl ⟨by rfl, ?_⟩) (by assumption) ?_
          rotate_left
          · (intro w' hSw; (try dsimp only at hSw); go_simp; try with_reducible rfl)
          try simp only [Act.put]
          refine wpAnyH_take (i := 7) (v := ?_) rfl (by kernel_rfl) (by kernel_rfl) (by kernel_rfl) (fun _ _ _ h => h) (Or.inl ⟨by rfl, ?_⟩) (by assumption) ?_
          rotate_left
          · (intro w' hSw; (try dsimp only at hSw); go_simp; try with_reducible rfl)
          try simp only [Act.put]
          refine wpAnyH_ready (rs := [5]) (by kernel_rfl) (by simp) ?_
          refine AllReadyH.cons rfl (fun K' hK => ?_) AllReadyH.nil
          go_simp
          refine hK.out _ _ f6 (fun hHeld => ?_)
          clear hK K'
          try simp only [Act.put]
          refine wpAnyH_ready (rs := [8]) (by kernel_rfl) (by simp) ?_
          refine AllReadyH.cons rfl (fun K' hK => ?_) AllReadyH.nil
          go_simp
          refine (ref_missed w wx.drew v0 l0 x.hs x.A x.cap x.hs.length rfl TX.out.drew.low HS.out TX.out.drew.r0 (by have := HL0.out; have := HXL.out; omega)).mono ?_
          rintro e w5 ⟨v', rfl, hg⟩
          obtain ⟨A', c', rfl, _⟩ := row_form hg.row
          rw [← HC.out]
          generalize (l0 ++ missTold x.hs).length = n' at hg ⊢
          have L5 := Lib.hid (TX.out.drew.step0 hg)
          have OL : Hid (Ob w5 gl 38 [v0, v1]) := Lib.hid (TX.out.drew.ob0 hg TX.out.l (by decide))
          have OQ : Hid (Ob w5 q 37 (opc x)) := Lib.hid (TX.out.drew.ob0 hg OX.out (by decide))
          have O6 := Lib.hid (OQ.out.far (p := ⟨gl, 0, none⟩) hql (.slice A' n' c'))
          have zl : ∀ i, w5.frozen? ⟨gl, i, none⟩ = false := OL.out.frozen
          have y0 : w5.cell? ⟨gl, 0, none⟩ = some v0 := OL.out.cell 0
          have y1 : w5.cell? ⟨gl, 1, none⟩ = some v1 := OL.out.cell 1
          have d6 : w5.cell? ⟨q, 6, none⟩ = some (.slice x.A x.hs.length x.cap) := OQ.out.cell 6
          have k6 : (w5.setCell ⟨gl, 0, none⟩ (.slice A' n' c')).cell? ⟨q, 6, none⟩ = some (.slice x.A x.hs.length x.cap) := O6.out.cell 6
          clear hg
          go_wp2_with fail
          refine hK.out _ _ d6 (fun hHeld => ?_)
          clear hK K'
          try simp only [Act.put]
          refine wpAnyH_take (i := 9) (v := ?_) rfl (by kernel_rfl) (by kernel_rfl) (by kernel_rfl) (fun _ _ _ h => h) (Or.inl ⟨by rfl, ?_⟩) (by assumption) ?_
          rotate_left
          · (intro w' hSw; (try dsimp only at hSw); go_simp; try with_reducible rfl)
          try simp only [Act.put]
          refine wpAnyH_take (i := 10) (v := ?_) rfl (by kernel_rfl) (by kernel_rfl) (by kernel_rfl) (fun _ _ _ h => h) (Or.inl ⟨by rfl, ?_⟩) (by assumption) ?_
          rotate_left
          · (intro w' hSw; (try dsimp only at hSw); go_simp; try with_reducible rfl)
          try simp only [Act.put]
          refine wpAnyH_take (i := 11) (v := ?_) rfl (by kernel_rfl) (by kernel_rfl) (by kernel_rfl) (fun _ _ _ h => h) (Or.inl ⟨by rfl, ?_⟩) (by assumption) ?_
          rotate_left
          · (intro w' hSw; (try dsimp only at hSw); go_simp; try with_reducible rfl)
          try simp only [Act.put]
          refine wpAnyH_take (i := 12) (v := ?_) rfl (by kernel_rfl) (by kernel_rfl) (by kernel_rfl) (fun _ _ _ h => h) (Or.inl ⟨by rfl, ?_⟩) (by assumption) ?_
          rotate_left
          · (intro w' hSw; (try dsimp only at hSw); go_simp; try with_reducible rfl)
          try simp only [Act.put]
          refine wpAnyH_ready (rs := [13]) (by kernel_rfl) (by simp) ?_
          refine AllReadyH.cons rfl (fun K' hK => ?_) AllReadyH.nil
          go_simp
          refine hK.out _ _ k6 (fun hHeld => ?_)
          clear hK K'
          try simp only [Act.put]
          refine wpAnyH_take (i := 14) (v := ?_) rfl (by kernel_rfl) (by kernel_rfl) (by kernel_rfl) (fun _ _ _ h => h) (Or.inl ⟨by rfl, ?_⟩) (by assumption) ?_
          rotate_left
          · (intro w' hSw; (try dsimp only at hSw); go_simp; try with_reducible rfl)
          try simp only [Act.put]
          refine wpAnyH_done (by kernel_rfl) ?_ _
          go_upto_region 16 with fail
          generalize w5.setCell ⟨gl, 0, none⟩ (.slice A' n' c') = w6 at L5 O6 ⊢
          clear f0 f1 f2 f3 f4 f5 f6 m0 m1 e0 e1 zl y0 y1 d6 k6 OL OQ
          have e0 : w6.cell? ⟨gs, 0, none⟩ = some (.pointer (some ⟨ga, 0, none⟩)) := L5.out.s.cell 0
          have f0 : w6.cell? ⟨q, 0, none⟩ = some (.int .i64 x.kind) := O6.out.cell 0
          have f1 : w6.cell? ⟨q, 1, none⟩ = some (.int .i64 x.on) := O6.out.cell 1
          have f2 : w6.cell? ⟨q, 2, none⟩ = some (.int .i64 x.hook) := O6.out.cell 2
          have f3 : w6.cell? ⟨q, 3, none⟩ = some (.int .u64 (uv x.s)) := O6.out.cell 3
          have f4 : w6.cell? ⟨q, 4, none⟩ = some (.int .u64 (uv x.c)) := O6.out.cell 4
          have f5 : w6.cell? ⟨q, 5, none⟩ = some (.int .u64 (uv x.r)) := O6.out.cell 5
          have f6 : w6.cell? ⟨q, 6, none⟩ = some (.slice x.A x.hs.length x.cap) := O6.out.cell 6
          go_region_held3 (fun w' => w'.cell? ⟨gs, 0, none⟩ = some (.pointer (some ⟨ga, 0, none⟩)) ∧ w'.cell? ⟨q, 0, none⟩ = some (.int .i64 x.kind) ∧ w'.cell? ⟨q, 1, none⟩ = some (.int .i64 x.on) ∧ w'.cell? ⟨q, 2, none⟩ = some (.int .i64 x.hook) ∧ w'.cell? ⟨q, 3, none⟩ = some (.int .u64 (uv x.s)) ∧ w'.cell? ⟨q, 4, none⟩ = some (.int .u64 (uv x.c)) ∧ w'.cell? ⟨q, 5, none⟩ = some (.int .u64 (uv x.r)) ∧ w'.cell? ⟨q, 6, none⟩ = some (.slice x.A x.hs.length x.cap)) (go_keep)
            (first
             | (go_at_call 12
                refine (tell_code ga (cnt l0) x w6.drew L5.out.drew.a (HX0.out.low L5.out.drew.low)).mono ?_
                rintro e w7 ⟨rfl, h7, n7⟩
                have L7 := Lib.hid (L5.out.drew.tell0 h7 n7)
                have O7 : Hid (Ob w7 q 37 (opc x)) := Lib.hid (Ob.only O6.out.drew n7 (Ob.ne_ O6.out L5.out.a (by decide)))
                have p0 : w7.cell? ⟨gs, 0, none⟩ = some (.pointer (some ⟨ga, 0, none⟩)) := L7.out.s.cell 0
                have p1 : w7.cell? ⟨q, 0, none⟩ = some (.int .i64 x.kind) := O7.out.cell 0
                have p2 : w7.cell? ⟨q, 1, none⟩ = some (.int .i64 x.on) := O7.out.cell 1
                have p3 : w7.cell? ⟨q, 2, none⟩ = some (.int .i64 x.hook) := O7.out.cell 2
                have p4 : w7.cell? ⟨q, 3, none⟩ = some (.int .u64 (uv x.s)) := O7.out.cell 3
                have p5 : w7.cell? ⟨q, 4, none⟩ = some (.int .u64 (uv x.c)) := O7.out.cell 4
                have p6 : w7.cell? ⟨q, 5, none⟩ = some (.int .u64 (uv x.r)) := O7.out.cell 5
                have p7 : w7.cell? ⟨q, 6, none⟩ = some (.slice x.A x.hs.length x.cap) := O7.out.cell 6
                clear h7 n7))
          go_wp2_with fail
          go_roundw
          case rel =>
            refine ⟨k + 1, _, _, _, _, by omega, by omega, by go_num, ?_, ?_, HE.out ▸ L7.out⟩
            · exact len_add _ _ k HL0.out (Nat.le_trans HLN.out HXL.out)
            · exact len_up _ k HL1.out
          case measure => exact meas n k hkn
      · have ht' : (x.on.tmod 2 == 0) = false := by simpa using ht
        clear ht
        by_cases hz : x.kind = 0
        · have hz' : (x.kind == 0) = true := by simpa using hz
          have HC := Lib.hid (code_ran x hz)
          have HE := Lib.hid (eff_ran x hz l1)
          have HLN := Lib.hid (ranTold_len x.hook x.s x.c x.r)
          clear hz
          go_wp2_with fail
          refine wp_region_held_drew (S := fun w' => w'.cell? ⟨q, 2, none⟩ = some (.int .i64 x.hook) ∧ w'.cell? ⟨q, 3, none⟩ = some (.int .u64 (uv x.s)) ∧ w'.cell? ⟨q, 4, none⟩ = some (.int .u64 (uv x.c)) ∧ w'.cell? ⟨q, 5, none⟩ = some (.int .u64 (uv x.r))) (by kernel_rfl) ⟨f2, f3, f4, f5⟩ (fun hHeld => ?_)
          refine wpAnyH_take (i := 0) (v := ?_) rfl (by kernel_rfl) (by kernel_rfl) (by kernel_rfl) (fun _ _ _ h => h) (Or.inl ⟨by rfl, ?_⟩) (by assumption) ?_
          rotate_left
          · (intro w' hSw; (try dsimp only at hSw); go_simp; try with_reducible rfl)
          try simp only [Act.put]
          refine wpAnyH_take (i := 1) (v := ?_) rfl (by kernel_rfl) (by kernel_rfl) (by kernel_rfl) (fun _ _ _ h => h) (Or.inl ⟨by rfl, ?_⟩) (by assumption) ?_
          rotate_left
          · (intro w' hSw; (try dsimp only at hSw); go_simp; try with_reducible rfl)
          try simp only [Act.put]
          refine wpAnyH_take (i := 2) (v := ?_) rfl (by kernel_rfl) (by kernel_rfl) (by kernel_rfl) (fun _ _ _ h => h) (Or.inl ⟨by rfl, ?_⟩) (by assumption) ?_
          rotate_left
          · (intro w' hSw; (try dsimp only at hSw); go_simp; try with_reducible rfl)
          try simp only [Act.put]
          refine wpAnyH_take (i := 3) (v := ?_) rfl (by kernel_rfl) (by kernel_rfl) (by kernel_rfl) (fun _ _ _ h => h) (Or.inl ⟨by rfl, ?_⟩) (by assumption) ?_
          rotate_left
          · (intro w' hSw; (try dsimp only at hSw); go_simp; try with_reducible rfl)
          try simp only [Act.put]
          refine wpAnyH_take (i := 4) (v := ?_) rfl (by kernel_rfl) (by kernel_rfl) (by kernel_rfl) (fun _ _ _ h => h) (Or.inl ⟨by rfl, ?_⟩) (by assumption) ?_
          rotate_left
          · (intro w' hSw; (try dsimp only at hSw); go_simp; try with_reducible rfl)
          try simp only [Act.put]
          refine wpAnyH_take (i := 6) (v := ?_) rfl (by kernel_rfl) (by kernel_rfl) (by kernel_rfl) (fun _ _ _ h => h) (Or.inl ⟨by rfl, ?_⟩) (by assumption) ?_
          rotate_left
          · (intro w' hSw; (try dsimp only at hSw); go_simp; try with_reducible rfl)
          try simp only [Act.put]
          refine wpAnyH_take (i := 7) (v := ?_) rfl (by kernel_rfl) (by kernel_rfl) (by kernel_rfl) (fun _ _ _ h => h) (Or.inl ⟨by rfl, ?_⟩) (by assumption) ?_
          rotate_left
          · (intro w' hSw; (try dsimp only at hSw); go_simp; try with_reducible rfl)
          try simp only [Act.put]
          refine wpAnyH_take (i := 8) (v := ?_) rfl (by kernel_rfl) (by kernel_rfl) (by kernel_rfl) (fun _ _ _ h => h) (Or.inl ⟨by rfl, ?_⟩) (by assumption) ?_
          rotate_left
          · (intro w' hSw; (try dsimp only at hSw); go_simp; try with_reducible rfl)
          try simp only [Act.put]
          refine wpAnyH_take (i := 9) (v := ?_) rfl (by kernel_rfl) (by kernel_rfl) (by kernel_rfl) (fun _ _ _ h => h) (Or.inl ⟨by rfl, ?_⟩) (by assumption) ?_
          rotate_left
          · (intro w' hSw; (try dsimp only at hSw); go_simp; try with_reducible rfl)
          try simp only [Act.put]
          refine wpAnyH_take (i := 10) (v := ?_) rfl (by kernel_rfl) (by kernel_rfl) (by kernel_rfl) (fun _ _ _ h => h) (Or.inl ⟨by rfl, ?_⟩) (by assumption) ?_
          rotate_left
          · (intro w' hSw; (try dsimp only at hSw); go_simp; try with_reducible rfl)
          try simp only [Act.put]
          refine wpAnyH_take (i := 11) (v := ?_) rfl (by kernel_rfl) (by kernel_rfl) (by kernel_rfl) (fun _ _ _ h => h) (Or.inl ⟨by rfl, ?_⟩) (by assumption) ?_
          rotate_left
          · (intro w' hSw; (try dsimp only at hSw); go_simp; try with_reducible rfl)
          try simp only [Act.put]
          refine wpAnyH_take (i := 12) (v := ?_) rfl (by kernel_rfl) (by kernel_rfl) (by kernel_rfl) (fun _ _ _ h => h) (Or.inl ⟨by rfl, ?_⟩) (by assumption) ?_
          rotate_left
          · (intro w' hSw; (try dsimp only at hSw); go_simp; try with_reducible rfl)
          try simp only [Act.put]
          refine wpAnyH_take (i := 13) (v := ?_) rfl (by kernel_rfl) (by kernel_rfl) (by kernel_rfl) (fun _ _ _ h => h) (Or.inl ⟨by rfl, ?_⟩) (by assumption) ?_
          rotate_left
          · (intro w' hSw; (try dsimp only at hSw); go_simp; try with_reducible rfl)
          try simp only [Act.put]
          refine wpAnyH_ready (rs := [5]) (by kernel_rfl) (by simp) ?_
          refine AllReadyH.cons rfl (fun K' hK => ?_) AllReadyH.nil
          go_simp
          refine hK.out _ _ ⟨f2, f3, f4, f5⟩ (fun hHeld => ?_)
          clear hK K'
          try simp only [Act.put]
          refine wpAnyH_ready (rs := [14]) (by kernel_rfl) (by simp) ?_
          refine AllReadyH.cons rfl (fun K' hK => ?_) AllReadyH.nil
          go_simp
          refine (ref_ran w wx.drew v1 l1 x.hook x.s x.c x.r TX.out.drew.low TX.out.drew.r1 (by have := HL1.out; omega)).mono ?_
          rintro e w5 ⟨v', rfl, hg⟩
          obtain ⟨A', c', rfl, _⟩ := row_form hg.row
          rw [← HC.out]
          generalize (l1 ++ ranTold x.hook x.s x.c x.r).length = n' at hg ⊢
          have L5 := Lib.hid (TX.out.drew.step1 hg)
          have OL : Hid (Ob w5 gl 38 [v0, v1]) := Lib.hid (TX.out.drew.ob1 hg TX.out.l (by decide))
          have OQ : Hid (Ob w5 q 37 (opc x)) := Lib.hid (TX.out.drew.ob1 hg OX.out (by decide))
          have O6 := Lib.hid (OQ.out.far (p := ⟨gl, 1, none⟩) hql (.slice A' n' c'))
          have zl : ∀ i, w5.frozen? ⟨gl, i, none⟩ = false := OL.out.frozen
          have y0 : w5.cell? ⟨gl, 0, none⟩ = some v0 := OL.out.cell 0
          have y1 : w5.cell? ⟨gl, 1, none⟩ = some v1 := OL.out.cell 1
          have d2 : w5.cell? ⟨q, 2, none⟩ = some (.int .i64 x.hook) := OQ.out.cell 2
          have k2 : (w5.setCell ⟨gl, 1, none⟩ (.slice A' n' c')).cell? ⟨q, 2, none⟩ = some (.int .i64 x.hook) := O6.out.cell 2
          have d3 : w5.cell? ⟨q, 3, none⟩ = some (.int .u64 (uv x.s)) := OQ.out.cell 3
          have k3 : (w5.setCell ⟨gl, 1, none⟩ (.slice A' n' c')).cell? ⟨q, 3, none⟩ = some (.int .u64 (uv x.s)) := O6.out.cell 3
          have d4 : w5.cell? ⟨q, 4, none⟩ = some (.int .u64 (uv x.c)) := OQ.out.cell 4
          have k4 : (w5.setCell ⟨gl, 1, none⟩ (.slice A' n' c')).cell? ⟨q, 4, none⟩ = some (.int .u64 (uv x.c)) := O6.out.cell 4
          have d5 : w5.cell? ⟨q, 5, none⟩ = some (.int .u64 (uv x.r)) := OQ.out.cell 5
          have k5 : (w5.setCell ⟨gl, 1, none⟩ (.slice A' n' c')).cell? ⟨q, 5, none⟩ = some (.int .u64 (uv x.r)) := O6.out.cell 5
          clear hg
          go_wp2_with fail
          refine hK.out _ _ ⟨d2, d3, d4, d5⟩ (fun hHeld => ?_)
          clear hK K'
          try simp only [Act.put]
          refine wpAnyH_take (i := 15) (v := ?_) rfl (by kernel_rfl) (by kernel_rfl) (by kernel_rfl) (fun _ _ _ h => h) (Or.inl ⟨by rfl, ?_⟩) (by assumption) ?_
          rotate_left
          · (intro w' hSw; (try dsimp only at hSw); go_simp; try with_reducible rfl)
          try simp only [Act.put]
          refine wpAnyH_take (i := 16) (v := ?_) rfl (by kernel_rfl) (by kernel_rfl) (by kernel_rfl) (fun _ _ _ h => h) (Or.inl ⟨by rfl, ?_⟩) (by assumption) ?_
          rotate_left
          · (intro w' hSw; (try dsimp only at hSw); go_simp; try with_reducible rfl)
          try simp only [Act.put]
          refine wpAnyH_take (i := 17) (v := ?_) rfl (by kernel_rfl) (by kernel_rfl) (by kernel_rfl) (fun _ _ _ h => h) (Or.inl ⟨by rfl, ?_⟩) (by assumption) ?_
          rotate_left
          · (intro w' hSw; (try dsimp only at hSw); go_simp; try with_reducible rfl)
          try simp only [Act.put]
          refine wpAnyH_take (i := 18) (v := ?_) rfl (by kernel_rfl) (by kernel_rfl) (by kernel_rfl) (fun _ _ _ h => h) (Or.inl ⟨by rfl, ?_⟩) (by assumption) ?_
          rotate_left
          · (intro w' hSw; (try dsimp only at hSw); go_simp; try with_reducible rfl)
          try simp only [Act.put]
          refine wpAnyH_ready (rs := [19]) (by kernel_rfl) (by simp) ?_
          refine AllReadyH.cons rfl (fun K' hK => ?_) AllReadyH.nil
          go_simp
          refine hK.out _ _ ⟨k2, k3, k4, k5⟩ (fun hHeld => ?_)
          clear hK K'
          try simp only [Act.put]
          refine wpAnyH_take (i := 20) (v := ?_) rfl (by kernel_rfl) (by kernel_rfl) (by kernel_rfl) (fun _ _ _ h => h) (Or.inl ⟨by rfl, ?_⟩) (by assumption) ?_
          rotate_left
          · (intro w' hSw; (try dsimp only at hSw); go_simp; try with_reducible rfl)
          try simp only [Act.put]
          refine wpAnyH_done (by kernel_rfl) ?_ _
          go_upto_region 16 with fail
          generalize w5.setCell ⟨gl, 1, none⟩ (.slice A' n' c') = w6 at L5 O6 ⊢
          clear f0 f1 f2 f3 f4 f5 f6 m0 m1 e0 e1 zl y0 y1 d2 k2 d3 k3 d4 k4 d5 k5 OL OQ
          have e0 : w6.cell? ⟨gs, 1, none⟩ = some (.pointer (some ⟨gb, 0, none⟩)) := L5.out.s.cell 1
          have f0 : w6.cell? ⟨q, 0, none⟩ = some (.int .i64 x.kind) := O6.out.cell 0
          have f1 : w6.cell? ⟨q, 1, none⟩ = some (.int .i64 x.on) := O6.out.cell 1
          have f2 : w6.cell? ⟨q, 2, none⟩ = some (.int .i64 x.hook) := O6.out.cell 2
          have f3 : w6.cell? ⟨q, 3, none⟩ = some (.int .u64 (uv x.s)) := O6.out.cell 3
          have f4 : w6.cell? ⟨q, 4, none⟩ = some (.int .u64 (uv x.c)) := O6.out.cell 4
          have f5 : w6.cell? ⟨q, 5, none⟩ = some (.int .u64 (uv x.r)) := O6.out.cell 5
          have f6 : w6.cell? ⟨q, 6, none⟩ = some (.slice x.A x.hs.length x.cap) := O6.out.cell 6
          go_region_held3 (fun w' => w'.cell? ⟨gs, 1, none⟩ = some (.pointer (some ⟨gb, 0, none⟩)) ∧ w'.cell? ⟨q, 0, none⟩ = some (.int .i64 x.kind) ∧ w'.cell? ⟨q, 1, none⟩ = some (.int .i64 x.on) ∧ w'.cell? ⟨q, 2, none⟩ = some (.int .i64 x.hook) ∧ w'.cell? ⟨q, 3, none⟩ = some (.int .u64 (uv x.s)) ∧ w'.cell? ⟨q, 4, none⟩ = some (.int .u64 (uv x.c)) ∧ w'.cell? ⟨q, 5, none⟩ = some (.int .u64 (uv x.r)) ∧ w'.cell? ⟨q, 6, none⟩ = some (.slice x.A x.hs.length x.cap)) (go_keep)
            (first
             | (go_at_call 12
                refine (tell_code gb (cnt l1) x w6.drew L5.out.drew.b (HX0.out.low L5.out.drew.low)).mono ?_
                rintro e w7 ⟨rfl, h7, n7⟩
                have L7 := Lib.hid (L5.out.drew.tell1 h7 n7)
                have O7 : Hid (Ob w7 q 37 (opc x)) := Lib.hid (Ob.only O6.out.drew n7 (Ob.ne_ O6.out L5.out.b (by decide)))
                have p0 : w7.cell? ⟨gs, 1, none⟩ = some (.pointer (some ⟨gb, 0, none⟩)) := L7.out.s.cell 1
                have p1 : w7.cell? ⟨q, 0, none⟩ = some (.int .i64 x.kind) := O7.out.cell 0
                have p2 : w7.cell? ⟨q, 1, none⟩ = some (.int .i64 x.on) := O7.out.cell 1
                have p3 : w7.cell? ⟨q, 2, none⟩ = some (.int .i64 x.hook) := O7.out.cell 2
                have p4 : w7.cell? ⟨q, 3, none⟩ = some (.int .u64 (uv x.s)) := O7.out.cell 3
                have p5 : w7.cell? ⟨q, 4, none⟩ = some (.int .u64 (uv x.c)) := O7.out.cell 4
                have p6 : w7.cell? ⟨q, 5, none⟩ = some (.int .u64 (uv x.r)) := O7.out.cell 5
                have p7 : w7.cell? ⟨q, 6, none⟩ = some (.slice x.A x.hs.length x.cap) := O7.out.cell 6
                clear h7 n7))
          go_wp2_with fail
          go_roundw
          case rel =>
            refine ⟨k + 1, _, _, _, _, by omega, by omega, by go_num, ?_, ?_, HE.out ▸ L7.out⟩
            · exact len_up _ k HL0.out
            · exact len_add _ _ k HL1.out (Nat.le_trans HLN.out (by decide))
          case measure => exact meas n k hkn
        · have hz' : (x.kind == 0) = false := by simpa using hz
          have HC := Lib.hid (code_miss x hz)
          have HE := Lib.hid (eff_miss x hz l1)
          have HLN := Lib.hid (missTold_len x.hs)
          clear hz
          go_wp2_with fail
          refine wp_region_held_drew (S := fun w' => w'.cell? ⟨q, 6, none⟩ = some (.slice x.A x.hs.length x.cap)) (by kernel_rfl) f6 (fun hHeld => ?_)
          refine wpAnyH_take (i := 0) (v := ?_) rfl (by kernel_rfl) (by kernel_rfl) (by kernel_rfl) (fun _ _ _ h => h) (Or.inl ⟨by rfl, ?_⟩) (by assumption) ?_
          rotate_left
          · (intro w' hSw; (try dsimp only at hSw); go_simp; try with_reducible rfl)
          try simp only [Act.put]
          refine wpAnyH_take (i := 1) (v := ?_) rfl (by kernel_rfl) (by kernel_rfl) (by kernel_rfl) (fun _ _ _ h => h) (Or.inl ⟨by rfl, ?_⟩) (by assumption) ?_
          rotate_left
          · (intro w' hSw; (try dsimp only at hSw); go_simp; try with_reducible rfl)
          try simp only [Act.put]
          refine wpAnyH_take (i := 2) (v := ?_) rfl (by kernel_rfl) (by kernel_rfl) (by kernel_rfl) (fun _ _ _ h => h) (Or.inl ⟨by rfl, ?_⟩) (by assumption) ?_
          rotate_left
          · (intro w' hSw; (try dsimp only at hSw); go_simp; try with_reducible rfl)
          try simp only [Act.put]
          refine wpAnyH_take (i := 3) (v := ?_) rfl (by kernel_rfl) (by kernel_rfl) (by kernel_rfl) (fun _ _ _ h => h) (Or.inl ⟨by rfl, ?_⟩) (by assumption) ?_
          rotate_left
          · (intro w' hSw; (try dsimp only at hSw); go_simp; try with_reducible rfl)
          try simp only [Act.put]
          refine wpAnyH_take (i := 4) (v := ?_) rfl (by kernel_rfl) (by kernel_rfl) (by kernel_rfl) (fun _ _ _ h => h) (Or.inl ⟨by rfl, ?_⟩) (by assumption) ?_
          rotate_left
          · (intro w' hSw; (try dsimp only at hSw); go_simp; try with_reducible rfl)
          try simp only [Act.put]
          refine wpAnyH_take (i := 6) (v := ?_) rfl (by kernel_rfl) (by kernel_rfl) (by kernel_rfl) (fun _ _ _ h => h) (Or.inl ⟨by rfl, ?_⟩) (by assumption) ?_
          rotate_left
          · (intro w' hSw; (try dsimp only at hSw); go_simp; try with_reducible rfl)
          try simp only [Act.put]
          refine wpAnyH_take (i := 7) (v := ?_) rfl (by kernel_rfl) (by kernel_rfl) (by kernel_rfl) (fun _ _ _ h => h) (Or.inl ⟨by rfl, ?_⟩) (by assumption) ?_
          rotate_left
          · (intro w' hSw; (try dsimp only at hSw); go_simp; try with_reducible rfl)
          try simp only [Act.put]
          refine wpAnyH_ready (rs := [5]) (by kernel_rfl) (by simp) ?_
          refine AllReadyH.cons rfl (fun K' hK => ?_) AllReadyH.nil
          go_simp
          refine hK.out _ _ f6 (fun hHeld => ?_)
          clear hK K'
          try simp only [Act.put]
          refine wpAnyH_ready (rs := [8]) (by kernel_rfl) (by simp) ?_
          refine AllReadyH.cons rfl (fun K' hK => ?_) AllReadyH.nil
          go_simp
          refine (ref_missed w wx.drew v1 l1 x.hs x.A x.cap x.hs.length rfl TX.out.drew.low HS.out TX.out.drew.r1 (by have := HL1.out; have := HXL.out; omega)).mono ?_
          rintro e w5 ⟨v', rfl, hg⟩
          obtain ⟨A', c', rfl, _⟩ := row_form hg.row
          rw [← HC.out]
          generalize (l1 ++ missTold x.hs).length = n' at hg ⊢
          have L5 := Lib.hid (TX.out.drew.step1 hg)
          have OL : Hid (Ob w5 gl 38 [v0, v1]) := Lib.hid (TX.out.drew.ob1 hg TX.out.l (by decide))
          have OQ : Hid (Ob w5 q 37 (opc x)) := Lib.hid (TX.out.drew.ob1 hg OX.out (by decide))
          have O6 := Lib.hid (OQ.out.far (p := ⟨gl, 1, none⟩) hql (.slice A' n' c'))
          have zl : ∀ i, w5.frozen? ⟨gl, i, none⟩ = false := OL.out.frozen
          have y0 : w5.cell? ⟨gl, 0, none⟩ = some v0 := OL.out.cell 0
          have y1 : w5.cell? ⟨gl, 1, none⟩ = some v1 := OL.out.cell 1
          have d6 : w5.cell? ⟨q, 6, none⟩ = some (.slice x.A x.hs.length x.cap) := OQ.out.cell 6
          have k6 : (w5.setCell ⟨gl, 1, none⟩ (.slice A' n' c')).cell? ⟨q, 6, none⟩ = some (.slice x.A x.hs.length x.cap) := O6.out.cell 6
          clear hg
          go_wp2_with fail
          refine hK.out _ _ d6 (fun hHeld => ?_)
          clear hK K'
          try simp only [Act.put]
          refine wpAnyH_take (i := 9) (v := ?_) rfl (by kernel_rfl) (by kernel_rfl) (by kernel_rfl) (fun _ _ _ h => h) (Or.inl ⟨by rfl, ?_⟩) (by assumption) ?_
          rotate_left
          · (intro w' hSw; (try dsimp only at hSw); go_simp; try with_reducible rfl)
          try simp only [Act.put]
          refine wpAnyH_take (i := 10) (v := ?_) rfl (by kernel_rfl) (by kernel_rfl) (by kernel_rfl) (fun _ _ _ h => h) (Or.inl ⟨by rfl, ?_⟩) (by assumption) ?_
          rotate_left
          · (intro w' hSw; (try dsimp only at hSw); go_simp; try with_reducible rfl)
          try simp only [Act.put]
          refine wpAnyH_take (i := 11) (v := ?_) rfl (by kernel_rfl) (by kernel_rfl) (by kernel_rfl) (fun _ _ _ h => h) (Or.inl ⟨by rfl, ?_⟩) (by assumption) ?_
          rotate_left
          · (intro w' hSw; (try dsimp only at hSw); go_simp; try with_reducible rfl)
          try simp only [Act.put]
          refine wpAnyH_take (i := 12) (v := ?_) rfl (by kernel_rfl) (by kernel_rfl) (by kernel_rfl) (fun _ _ _ h => h) (Or.inl ⟨by rfl, ?_⟩) (by assumption) ?_
          rotate_left
          · (intro w' hSw; (try dsimp only at hSw); go_simp; try with_reducible rfl)
          try simp only [Act.put]
          refine wpAnyH_ready (rs := [13]) (by kernel_rfl) (by simp) ?_
          refine AllReadyH.cons rfl (fun K' hK => ?_) AllReadyH.nil
          go_simp
          refine hK.out _ _ k6 (fun hHeld => ?_)
          clear hK K'
          try simp only [Act.put]
          refine wpAnyH_take (i := 14) (v := ?_) rfl (by kernel_rfl) (by kernel_rfl) (by kernel_rfl) (fun _ _ _ h => h) (Or.inl ⟨by rfl, ?_⟩) (by assumption) ?_
          rotate_left
          · (intro w' hSw; (try dsimp only at hSw); go_simp; try with_reducible rfl)
          try simp only [Act.put]
          refine wpAnyH_done (by kernel_rfl) ?_ _
          go_upto_region 16 with fail
          generalize w5.setCell ⟨gl, 1, none⟩ (.slice A' n' c') = w6 at L5 O6 ⊢
          clear f0 f1 f2 f3 f4 f5 f6 m0 m1 e0 e1 zl y0 y1 d6 k6 OL OQ
          have e0 : w6.cell? ⟨gs, 1, none⟩ = some (.pointer (some ⟨gb, 0, none⟩)) := L5.out.s.cell 1
          have f0 : w6.cell? ⟨q, 0, none⟩ = some (.int .i64 x.kind) := O6.out.cell 0
          have f1 : w6.cell? ⟨q, 1, none⟩ = some (.int .i64 x.on) := O6.out.cell 1
          have f2 : w6.cell? ⟨q, 2, none⟩ = some (.int .i64 x.hook) := O6.out.cell 2
          have f3 : w6.cell? ⟨q, 3, none⟩ = some (.int .u64 (uv x.s)) := O6.out.cell 3
          have f4 : w6.cell? ⟨q, 4, none⟩ = some (.int .u64 (uv x.c)) := O6.out.cell 4
          have f5 : w6.cell? ⟨q, 5, none⟩ = some (.int .u64 (uv x.r)) := O6.out.cell 5
          have f6 : w6.cell? ⟨q, 6, none⟩ = some (.slice x.A x.hs.length x.cap) := O6.out.cell 6
          go_region_held3 (fun w' => w'.cell? ⟨gs, 1, none⟩ = some (.pointer (some ⟨gb, 0, none⟩)) ∧ w'.cell? ⟨q, 0, none⟩ = some (.int .i64 x.kind) ∧ w'.cell? ⟨q, 1, none⟩ = some (.int .i64 x.on) ∧ w'.cell? ⟨q, 2, none⟩ = some (.int .i64 x.hook) ∧ w'.cell? ⟨q, 3, none⟩ = some (.int .u64 (uv x.s)) ∧ w'.cell? ⟨q, 4, none⟩ = some (.int .u64 (uv x.c)) ∧ w'.cell? ⟨q, 5, none⟩ = some (.int .u64 (uv x.r)) ∧ w'.cell? ⟨q, 6, none⟩ = some (.slice x.A x.hs.length x.cap)) (go_keep)
            (first
             | (go_at_call 12
                refine (tell_code gb (cnt l1) x w6.drew L5.out.drew.b (HX0.out.low L5.out.drew.low)).mono ?_
                rintro e w7 ⟨rfl, h7, n7⟩
                have L7 := Lib.hid (L5.out.drew.tell1 h7 n7)
                have O7 : Hid (Ob w7 q 37 (opc x)) := Lib.hid (Ob.only O6.out.drew n7 (Ob.ne_ O6.out L5.out.b (by decide)))
                have p0 : w7.cell? ⟨gs, 1, none⟩ = some (.pointer (some ⟨gb, 0, none⟩)) := L7.out.s.cell 1
                have p1 : w7.cell? ⟨q, 0, none⟩ = some (.int .i64 x.kind) := O7.out.cell 0
                have p2 : w7.cell? ⟨q, 1, none⟩ = some (.int .i64 x.on) := O7.out.cell 1
                have p3 : w7.cell? ⟨q, 2, none⟩ = some (.int .i64 x.hook) := O7.out.cell 2
                have p4 : w7.cell? ⟨q, 3, none⟩ = some (.int .u64 (uv x.s)) := O7.out.cell 3
                have p5 : w7.cell? ⟨q, 4, none⟩ = some (.int .u64 (uv x.c)) := O7.out.cell 4
                have p6 : w7.cell? ⟨q, 5, none⟩ = some (.int .u64 (uv x.r)) := O7.out.cell 5
                have p7 : w7.cell? ⟨q, 6, none⟩ = some (.slice x.A x.hs.length x.cap) := O7.out.cell 6
                clear h7 n7))
          go_wp2_with fail
          go_roundw
          case rel =>
            refine ⟨k + 1, _, _, _, _, by omega, by omega, by go_num, ?_, ?_, HE.out ▸ L7.out⟩
            · exact len_up _ k HL0.out
            · exact len_add _ _ k HL1.out (Nat.le_trans HLN.out HXL.out)
          case measure => exact meas n k hkn
    · --EXIT
      obtain ⟨A0, c0, rfl, hr0⟩ := row_form T.out.r0
      obtain ⟨A1, c1, rfl, hr1⟩ := row_form T.out.r1
      have HN0 : Hid (l0.length ≤ 419430400) := Lib.hid (Nat.le_trans HL0.out (Nat.le_trans (Nat.mul_le_mul_right _ hk4) (by decide)))
      have HN1 : Hid (l1.length ≤ 419430400) := Lib.hid (Nat.le_trans HL1.out (Nat.le_trans (Nat.mul_le_mul_right _ hk4) (by decide)))
      clear hr0 hr1 HL0 HL1 HK HR
      obtain ⟨i0, hi0, hz0, hz1, hz2⟩ := info_parts told_info
      have m0 : wr.cell? ⟨gl, 0, none⟩ = some (.slice A0 l0.length c0) := T.out.l.cell 0
      have hx : ¬ (k : Int) < (n : Int) ∨ ((k : Int) < (n : Int) ∧ ¬ (k : Int) < 400) := by omega
      clear hlt
      rcases hx with hx | ⟨hx, hy⟩
      all_goals
        go_wp2_with
          (first
           | (at_builtin
              refine wpList_append_in _ rfl (.tmp 86) (.tmp 89) _ rfl T.out.low 56 i0 _ 5 40 Try.underlying38 hi0 hz0 hz1 hz2 rfl (by omega) (.slice none 0 0) 0 [] rfl (World.ownsRow_nil _ _ _ _)
                A0 l0.length c0 (tdvs l0) rfl (tdvs_length l0) (own_sl T.out.r0) (tdvs_one l0) (by have := HN0.out; omega) (by omega) ?_
              intro v3 w3 hown hb g1 g2
              have G3 := Lib.hid (T.out.side (v := .slice none 0 0) (l := []) ⟨World.ownsRow_nil _ _ _ _, by simp [Value.ownBlock], by simp [Value.ownBlock]⟩ (Grew.cat (l := []) hown hb g1 g2))
              have m1 : w3.cell? ⟨gl, 1, none⟩ = some (.slice A1 l1.length c1) := G3.out.1.l.cell 1
              clear hown hb g1 g2)
           | (at_builtin
              refine wpList_append_in _ rfl (.tmp 91) (.tmp 94) _ rfl G3.out.1.low 56 i0 _ 5 40 Try.underlying38 hi0 hz0 hz1 hz2 rfl (by omega) v3 _ _ rfl G3.out.2.row
                A1 l1.length c1 (tdvs l1) rfl (tdvs_length l1) (own_sl G3.out.1.r1) (tdvs_one l1) (by have := HN0.out; have := HN1.out; simp; omega) (by omega) ?_
              intro v4 w4' hown hb g1 g2
              have G4 := Lib.hid (G3.out.1.side G3.out.2 (Grew.cat hown hb g1 g2))
              have m2 : w4'.cell? ⟨gl, 0, none⟩ = some (.slice A0 l0.length c0) := G4.out.1.l.cell 0
              clear hown hb g1 g2)
           | (at_builtin
              refine wpList_append_in _ rfl (.tmp 96) (.tmp 99) _ rfl G4.out.1.low 56 i0 _ 5 40 Try.underlying38 hi0 hz0 hz1 hz2 rfl (by omega) v4 _ _ rfl G4.out.2.row
                A0 l0.length c0 (tdvs l0) rfl (tdvs_length l0) (own_sl G4.out.1.r0) (tdvs_one l0) (by have := HN0.out; have := HN1.out; simp; omega) (by omega) ?_
              intro v5 w5 hown hb g1 g2
              have G5 := Lib.hid (G4.out.1.side G4.out.2 (Grew.cat hown hb g1 g2))
              clear hown hb g1 g2 m0 m1 m2))
        obtain ⟨T5, R5⟩ := G5.out
        obtain ⟨A5, c5, rfl, _⟩ := row_form R5.row
        have HT5 := Lib.hid T5
        have HR5 := Lib.hid R5
        have HN5 : Hid (([] ++ l0 ++ l1 ++ l0).length ≤ 1258291200) := Lib.hid (by have := HN0.out; have := HN1.out; simp; omega)
        have HTOT := Lib.hid (tot_all l0 l1 ga gb)
        clear T5 R5 G3 G4 G5 T hx
        obtain ⟨ALL, hALL⟩ : ∃ L, [] ++ l0 ++ l1 ++ l0 = L := ⟨_, rfl⟩
        rw [hALL] at HR5 HN5 HTOT ⊢
        clear hALL
        obtain ⟨i1, hi1, hy0, hy1, hy2⟩ := info_parts tly_row
        go_loopw [10, 11] (fun u h wr => ∃ m : Nat, m ≤ 7 ∧ h = .int .i64 ((m : Int) - 1) ∧ wr.ownsRow w.heap.size 26 5 u (kn m) (arr (kn m * 5) (cnt ALL)) ∧ Two w wr gs gl ga gb (.slice A0 l0.length c0) (.slice A1 l1.length c1) (cnt l0) (cnt l1) l0 l1 ∧ Third w wr (.slice A0 l0.length c0) (.slice A1 l1.length c1) (.slice A5 ALL.length c5) ALL) (fun _ h _ => (6 - intOf h).toNat)
        case atStart => exact ⟨0, by omega, rfl, World.ownsRow_nil _ _ _ _, HT5.out, HR5.out⟩
        case round =>
          obtain ⟨m, hm7, rfl, hwant, hT, hR⟩ := hrel
          have W := Lib.hid hwant
          have T := Lib.hid hT
          have R := Lib.hid hR
          clear hwant hT hR HT5 HR5
          by_cases hlm : m < 7
          · have g1 : (m : Int) - 1 < 6 := by omega
            go_wp2_with fail
            go_loopw [12] (fun i wq => ∃ j : Nat, j ≤ 2 ∧ i = .int .i64 j ∧ Below wr.heap.size wr wq) (fun i _ => 2 - (intOf i).toNat)
            case atStart => exact ⟨0, by omega, rfl, Below.refl _ _⟩
            case round =>
              obtain ⟨j, hj, rfl, hbq⟩ := hrel
              have TQ := Lib.hid (T.out.more hbq)
              have RQ := Lib.hid (R.out.more hbq)
              have BQ := Lib.hid hbq
              clear hbq
              by_cases hlj : j < 2
              · obtain ⟨gk, lk, Ak, ck, s1, s2, s3, s4, s5⟩ := TQ.out.sel HN0.out HN1.out j hlj
                have g2 : (j : Int) < 2 := by omega
                have S3 := Lib.hid s3
                have S4 := Lib.hid s4
                have S5 := Lib.hid s5
                clear s3 s4 s5
                have hgl : gl < wr.heap.size := TQ.out.lt.2.1
                obtain ⟨f, hf⟩ : ∃ f, ofT (cnt lk) ((m : Int) - 1) = f := ⟨_, rfl⟩
                obtain ⟨C, hC⟩ : ∃ C, ranCode ((m : Int) - 1) = C := ⟨_, rfl⟩
                have HF := Lib.hid hf
                have HC := Lib.hid hC
                clear hf hC
                go_wp2_with fail
                refine (of_all gk (cnt lk) ((m : Int) - 1) _ S3.out).mono ?_
                rintro e w6 ⟨rfl, b6⟩
                rw [HF.out, HC.out]
                unfold tVal
                have O7 : Hid (Ob (w6.alloc (.cells #[.int .u64 (uv (f 0)), .int .u64 (uv (f 1)), .int .u64 (uv (f 2)), .int .u64 (uv (f 3)), .int .u64 (uv (f 4))] 26)) w6.heap.size 26 (arr 5 f)) := Lib.hid (Ob.fresh w6 26 (arr 5 f))
                have B7 := Lib.hid (below_alloc b6 (.cells #[.int .u64 (uv (f 0)), .int .u64 (uv (f 1)), .int .u64 (uv (f 2)), .int .u64 (uv (f 3)), .int .u64 (uv (f 4))] 26))
                clear b6
                go_upto_region 30 with fail
                generalize w6.alloc (.cells #[.int .u64 (uv (f 0)), .int .u64 (uv (f 1)), .int .u64 (uv (f 2)), .int .u64 (uv (f 3)), .int .u64 (uv (f 4))] 26) = w7 at O7 B7 ⊢
                generalize w6.heap.size = q1 at O7 ⊢
                have x2 := (B7.out.cell hgl).trans s2
                go_wp2_with fail
                refine (ref_of_all w7 Ak lk lk.length ck ((m : Int) - 1) rfl (by have := S5.out; omega) (Sl.below S4.out B7.out)).mono ?_
                rintro e w8 ⟨rfl, b8⟩
                rw [HF.out, HC.out]
                unfold tVal
                have O8 : Hid (Ob (w8.alloc (.cells #[.int .u64 (uv (f 0)), .int .u64 (uv (f 1)), .int .u64 (uv (f 2)), .int .u64 (uv (f 3)), .int .u64 (uv (f 4))] 26)) q1 26 (arr 5 f)) := Lib.hid ((O7.out.below b8 O7.out.lt).alloc _)
                have P8 : Hid (Ob (w8.alloc (.cells #[.int .u64 (uv (f 0)), .int .u64 (uv (f 1)), .int .u64 (uv (f 2)), .int .u64 (uv (f 3)), .int .u64 (uv (f 4))] 26)) w8.heap.size 26 (arr 5 f)) := Lib.hid (Ob.fresh w8 26 (arr 5 f))
                have B9 := Lib.hid (below_alloc (B7.out.trans (b8.mono B7.out.size)) (.cells #[.int .u64 (uv (f 0)), .int .u64 (uv (f 1)), .int .u64 (uv (f 2)), .int .u64 (uv (f 3)), .int .u64 (uv (f 4))] 26))
                clear b8
                go_upto_region 31 with fail
                generalize w8.alloc (.cells #[.int .u64 (uv (f 0)), .int .u64 (uv (f 1)), .int .u64 (uv (f 2)), .int .u64 (uv (f 3)), .int .u64 (uv (f 4))] 26) = w9 at O8 P8 B9 ⊢
                generalize w8.heap.size = q2 at P8 ⊢
                clear x2 s1 s2
                have a0 : w9.cell? ⟨q1, 0, none⟩ = some (.int .u64 (uv (f 0))) := O8.out.cell 0
                have a1 : w9.cell? ⟨q1, 1, none⟩ = some (.int .u64 (uv (f 1))) := O8.out.cell 1
                have a2 : w9.cell? ⟨q1, 2, none⟩ = some (.int .u64 (uv (f 2))) := O8.out.cell 2
                have a3 : w9.cell? ⟨q1, 3, none⟩ = some (.int .u64 (uv (f 3))) := O8.out.cell 3
                have a4 : w9.cell? ⟨q1, 4, none⟩ = some (.int .u64 (uv (f 4))) := O8.out.cell 4
                have d0 : w9.cell? ⟨q2, 0, none⟩ = some (.int .u64 (uv (f 0))) := P8.out.cell 0
                have d1 : w9.cell? ⟨q2, 1, none⟩ = some (.int .u64 (uv (f 1))) := P8.out.cell 1
                have d2 : w9.cell? ⟨q2, 2, none⟩ = some (.int .u64 (uv (f 2))) := P8.out.cell 2
                have d3 : w9.cell? ⟨q2, 3, none⟩ = some (.int .u64 (uv (f 3))) := P8.out.cell 3
                have d4 : w9.cell? ⟨q2, 4, none⟩ = some (.int .u64 (uv (f 4))) := P8.out.cell 4
                go_wp2_with fail
                go_roundw
                case rel => exact ⟨j + 1, by omega, by go_num, BQ.out.trans (B9.out.mono BQ.out.size)⟩
                case measure => simp [intOf]; omega
              · have W2 := Lib.hid (World.ownsRow.kept W.out (Below.grownNone BQ.out) (by cases Value.ownBlock _ <;> simp))
                have g2 : ¬ (j : Int) < 2 := by omega
                have L5 : Hid (RdTold wr A5 ALL) := Lib.hid (own_sl RQ.out.row)
                clear W T R BQ
                obtain ⟨f, hf⟩ : ∃ f, ofT (cnt ALL) ((m : Int) - 1) = f := ⟨_, rfl⟩
                have HF := Lib.hid hf
                clear hf
                go_wp2_with fail
                refine (ref_of_all wr A5 ALL ALL.length c5 ((m : Int) - 1) rfl (by have := HN5.out; omega) L5.out).mono ?_
                rintro e w6 ⟨rfl, b6⟩
                rw [HF.out]
                unfold tVal
                have O7 : Hid (Ob (w6.alloc (.cells #[.int .u64 (uv (f 0)), .int .u64 (uv (f 1)), .int .u64 (uv (f 2)), .int .u64 (uv (f 3)), .int .u64 (uv (f 4))] 26)) w6.heap.size 26 (arr 5 f)) := Lib.hid (Ob.fresh w6 26 (arr 5 f))
                have B7 := Lib.hid (below_alloc b6 (.cells #[.int .u64 (uv (f 0)), .int .u64 (uv (f 1)), .int .u64 (uv (f 2)), .int .u64 (uv (f 3)), .int .u64 (uv (f 4))] 26))
                clear b6
                go_upto_region 34 with fail
                generalize w6.alloc (.cells #[.int .u64 (uv (f 0)), .int .u64 (uv (f 1)), .int .u64 (uv (f 2)), .int .u64 (uv (f 3)), .int .u64 (uv (f 4))] 26) = w7 at O7 B7 ⊢
                generalize w6.heap.size = q1 at O7 ⊢
                have T7 := Lib.hid (TQ.out.more B7.out)
                have R7 := Lib.hid (RQ.out.more B7.out)
                have W7 := Lib.hid (World.ownsRow.kept W2.out (Below.grownNone B7.out) (by cases Value.ownBlock _ <;> simp))
                clear TQ RQ W2 B7
                by_cases hh : Hook ((m : Int) - 1)
                · have hC : ranCode ((m : Int) - 1) = 0 := by unfold ranCode; rw [if_pos hh]
                  have hk1 : kn (m + 1) = kn m + 1 := by have h1 := hh.1; have h2 := hh.2; unfold kn; omega
                  have hk4 : kn m ≤ 4 := by unfold kn; omega
                  have hf2 : f = tl (cnt ALL) (kn m) := by
                    rw [← HF.out]
                    unfold ofT
                    rw [if_pos hh, show ((m : Int) - 1).toNat = kn m by have h1 := hh.1; have h2 := hh.2; unfold kn; omega]
                  have HA := Lib.hid (show arr (kn m * 5) (cnt ALL) ++ arr 5 f = arr ((kn m + 1) * 5) (cnt ALL) by rw [hf2]; exact arr_five _ _)
                  have HK1 := Lib.hid hk1
                  rw [hC]
                  clear hC hf2 hk1 hh HF
                  have a0 : w7.cell? ⟨q1, 0, none⟩ = some (.int .u64 (uv (f 0))) := O7.out.cell 0
                  have a1 : w7.cell? ⟨q1, 1, none⟩ = some (.int .u64 (uv (f 1))) := O7.out.cell 1
                  have a2 : w7.cell? ⟨q1, 2, none⟩ = some (.int .u64 (uv (f 2))) := O7.out.cell 2
                  have a3 : w7.cell? ⟨q1, 3, none⟩ = some (.int .u64 (uv (f 3))) := O7.out.cell 3
                  have a4 : w7.cell? ⟨q1, 4, none⟩ = some (.int .u64 (uv (f 4))) := O7.out.cell 4
                  go_wp2_with
                    (at_builtin
                     refine wpList_append_in _ rfl (.tmp 143) (.tmp 145) _ rfl (below_alloc T7.out.low _) 26 i1 _ 5 40 Try.underlying22 hi1 hy0 hy1 hy2 rfl (by omega) _ (kn m) _ rfl (World.ownsRow.alloc W7.out _)
                       (some ⟨w7.heap.size, 0, none⟩) 1 1 (arr 5 f) rfl (by rw [arr_length]) (Sl.fresh w7 (arr 5 f).toArray 26 (0, 0)) (arr_one 5 f) (by omega) (by omega) ?_
                     intro v8 w8 hown hb g1 g2
                     have T8 := Lib.hid (T7.out.beside W7.out (World.grownBy.trans (World.grownBy_alloc _ _ _) g1) hb)
                     have R8 := Lib.hid (R7.out.beside W7.out (World.grownBy.trans (World.grownBy_alloc _ _ _) g1))
                     rw [HA.out] at hown
                     have W8 := Lib.hid hown
                     clear hown hb g1 g2)
                  go_roundw
                  case rel => exact ⟨m + 1, by omega, by go_num, by rw [HK1.out]; exact W8.out, T8.out, R8.out⟩
                  case measure => simp [intOf]; omega
                · have hC : ranCode ((m : Int) - 1) = 2 := by unfold ranCode; rw [if_neg hh]
                  have hkn : kn (m + 1) = kn m := by unfold Hook at hh; unfold kn; omega
                  rw [hC]
                  clear hC hh
                  go_wp2_with fail
                  go_roundw
                  case rel => exact ⟨m + 1, by omega, by go_num, by rw [hkn]; exact W7.out, T7.out, R7.out⟩
                  case measure => simp [intOf]; omega
          · obtain rfl : m = 7 := by omega
            have W4 : wr.ownsRow w.heap.size 26 5 u10 4 (arr 20 (cnt ALL)) := W.out
            obtain ⟨A9, c9, hu, _, _, hsl, _⟩ := own_form W4
            obtain ⟨b9, o9, rfl, hb9, htl⟩ := tlys_sl20 hsl
            subst hu
            have TL := Lib.hid htl
            clear hsl htl W4 W R
            have hmk := make4
            have e0 : wr.cell? ⟨gs, 0, none⟩ = some (.pointer (some ⟨ga, 0, none⟩)) := T.out.s.cell 0
            have e1 : wr.cell? ⟨gs, 1, none⟩ = some (.pointer (some ⟨gb, 0, none⟩)) := T.out.s.cell 1
            go_wp2_with fail
            go_region_held3 (fun w' => w'.cell? ⟨gs, 0, none⟩ = some (.pointer (some ⟨ga, 0, none⟩)) ∧ w'.cell? ⟨gs, 1, none⟩ = some (.pointer (some ⟨gb, 0, none⟩))) (go_keep)
              (first
               | (go_at_call_of 15 (Value.slice none 0 0)
                  refine (merge_none none 0 _).mono ?_
                  rintro e w10 ⟨g10, rfl, hg10, o10, b10⟩
                  have O10 := Lib.hid o10
                  have B10 := Lib.hid b10
                  have H10 : Hid (Below w.heap.size w w10) := Lib.hid (by
                    first
                    | exact (below_drewN T6.out.low d7).trans (b10.mono T6.out.low.size)
                    | exact (below_alloc (below_drewN T6.out.low d7) _).trans (b10.mono (below_alloc (below_drewN T6.out.low d7) _).size))
                  have S10 : Hid (Ob w10 gs 31 [.pointer (some ⟨ga, 0, none⟩), .pointer (some ⟨gb, 0, none⟩)]) := Lib.hid (by
                    first
                    | exact (T6.out.s.drewN d7).below b10 T6.out.s.lt
                    | exact ((T6.out.s.drewN d7).alloc _).below b10 ((T6.out.s.drewN d7).alloc _).lt)
                  have r0 : w10.cell? ⟨gs, 0, none⟩ = some (.pointer (some ⟨ga, 0, none⟩)) := S10.out.cell 0
                  have r1 : w10.cell? ⟨gs, 1, none⟩ = some (.pointer (some ⟨gb, 0, none⟩)) := S10.out.cell 1
                  clear hg10 o10 b10)
               | (go_at_call_of 8 (Value.slice (some ⟨b9, o9, none⟩) 4 c9)
                  refine (tallies_true (four (cnt ALL)) g6 0 4 b9 o9 c9 4 rfl (by omega) w6 (tlys20 O6.out) TL6.out).mono ?_
                  rintro e w7 ⟨rfl, d7, rfl⟩)
               | (go_at_call_of 8 (Value.slice (some ⟨w10.heap.size, 0, none⟩) 4 4)
                  refine (same_rows (O10.out.alloc _) (Ob.fresh w10 26 (arr 20 (fun _ => 0#64)))).mono ?_
                  rintro e w11 ⟨rfl, d11, rfl⟩)
               | (go_at_call_of 8 (Value.slice (some ⟨w6.heap.size, 0, none⟩) 4 4)
                  refine (same_rows O10.out ((Ob.fresh (w6.drewN d7) 26 (arr 20 (fun _ => 0#64))).below B10.out (Ob.fresh (w6.drewN d7) 26 (arr 20 (fun _ => 0#64))).lt)).mono ?_
                  rintro e w11 ⟨rfl, d11, rfl⟩)
               | (go_at_call 15
                  refine (merge_new [some (ga, cnt l0), none, some (gb, cnt l1), some (ga, cnt l0)] wr.drew _ (by rfl) ?_ _ (by rfl) _ (by rfl) (by omega)).mono ?_
                  · intro x hx
                    rcases List.mem_cons.1 hx with rfl | hx
                    · exact T.out.drew.a
                    · rcases List.mem_cons.1 hx with rfl | hx
                      · trivial
                      · rcases List.mem_cons.1 hx with rfl | hx
                        · exact T.out.drew.b
                        · rcases List.mem_cons.1 hx with rfl | hx
                          · exact T.out.drew.a
                          · cases hx
                  rintro e w6 ⟨g6, rfl, hg6, o6, b6⟩
                  rw [HTOT.out] at o6
                  have O6 := Lib.hid o6
                  have T6 := Lib.hid (T.out.drew.more b6)
                  have TL6 : Hid (TlysAt w6 b9 o9 (four (cnt ALL))) := Lib.hid (TlysAt.below (w := wr.drew) TL.out hb9 b6)
                  have q0 : w6.cell? ⟨gs, 0, none⟩ = some (.pointer (some ⟨ga, 0, none⟩)) := T6.out.s.cell 0
                  have q1 : w6.cell? ⟨gs, 1, none⟩ = some (.pointer (some ⟨gb, 0, none⟩)) := T6.out.s.cell 1
                  clear hg6 o6 b6))
            all_goals try go_wp2_with fail
            all_goals (refine bodyPost_ret (v := .bool true) (by first | rfl | kernel_rfl) (by first | rfl | kernel_rfl) ?_)
            all_goals first
              | exact ⟨rfl, below_drewN (below_alloc H10.out _) _⟩
              | exact ⟨rfl, below_drewN H10.out _⟩

/-- the law's walk, with the argument as it came in -/
theorem plays_law (w : World) (l : List OpV) (v : Value) {N : Nat} (hr : RdOpsB N w v l) (hN : N ≤ 1048576) :
    Calls Try.prog 4 #[v] w fun e w' => e = .returned (.bool true) ∧ Below w.heap.size w w' := by
  obtain ⟨⟨⟨A, c, rfl, hc, hb⟩, hm⟩, hk⟩ := hr
  exact plays_walk w l A c l.length rfl (by omega) hb fun i hi => Nat.le_trans (hk i hi) hN

end Go.Proofs.Ytkjffhlnghgkoaa
